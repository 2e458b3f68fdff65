/- What the print doesn't take of layer 6's program: scan.small, and strings.Cut at a separator of one byte; each a Lean function of the same answers, and its walk. -/
import Derived.Test.YtnnhpbghimjhiaaProg
import Derived.Below
import Derived.Deep.Draws
import Derived.Deep.AppendLies
import Derived.Maps.AppendAt
import Derived.OwnWalk
import Derived.Laws.BytesArg
import Derived.Laws.MakeOwn
import Derived.Laws.OwnMore
import Derived.Deep.OwnRows
import Derived.Tactics
import Derived.Lib.ConvBytes
import Derived.Laws.Slices
import Derived.WalkKit
import Derived.KernelRfl
import Derived.RowKit3
import Derived.Deep.LoopGhost
import Derived.Deep.QuietTactic
import Derived.BigQuiet
import Derived.WideLaws
import Derived.Deep.DeepCutAuto
import Derived.Deep.CutBlock
import Derived.Deep.RegionHeld3
import Derived.Laws.Rows
import Derived.Lib.AppendStr
import Derived.ArgAppend
import Derived.Laws.IdiomCopy
import Derived.OrdersHeld
import Derived.Laws.BitsLemmas
import Derived.RowKit
import Derived.Test.YtnnhpbghimjhiaaWWords
import Derived.Test.YtnnhpbghimjhiaaWLast
import Derived.Test.YtnnhpbghimjhiaaWTab
import Derived.Test.YtnnhpbghimjhiaaWFour
import Derived.Test.YtnnhpbghimjhiaaWQPut
import Derived.Test.YtnnhpbghimjhiaaWApart
import Derived.Test.YtnnhpbghimjhiaaWArr
import Derived.Test.YtnnhpbghimjhiaaWZeros
import Derived.Test.YtnnhpbghimjhiaaWFoot
import Derived.Test.YtnnhpbghimjhiaaWKept
import Derived.Test.YtnnhpbghimjhiaaWShare
import Derived.Test.YtnnhpbghimjhiaaWN
import Derived.Test.YtnnhpbghimjhiaaWFootNe
import Derived.Test.YtnnhpbghimjhiaaWAt
import Derived.Test.YtnnhpbghimjhiaaWEqStruct
import Derived.Test.YtnnhpbghimjhiaaWRepsOne
import Derived.Test.YtnnhpbghimjhiaaWInv
import Derived.Test.YtnnhpbghimjhiaaWInvWords
import Derived.Test.YtnnhpbghimjhiaaWGuard
import Derived.Test.YtnnhpbghimjhiaaWNEv
import Derived.Test.YtnnhpbghimjhiaaWMore
import Derived.Laws.IdiomStrings
import Derived.Lib.Bytealg
import Derived.Lib.Walk
import Derived.Lib.Slices
import Derived.Lib.Strings
namespace Go.Proofs.Ytnnhpbghimjhiaa
open Go.RowKit Go.Proofs.YtnnhpbghimjhiaaW.PrintWords Go.Proofs.YtnnhpbghimjhiaaW.PrintLast Go.Proofs.YtnnhpbghimjhiaaW.PrintMore
set_option linter.unusedVariables false
set_option linter.unusedSimpArgs false

def small1 (n : Int) : Int := if 65 ≤ n ∧ n ≤ 90 then n + 32 else n
def smalls (s : ByteArray) : List Int := s.data.toList.map fun b => small1 b.toNat
def scan_small.f (a0 : ByteArray) : Option ByteArray := if a0.size ≤ 9223372036854775807 then some (strOfNums (smalls a0)) else none

/-- The row of the bytes, the first k of them small. -/
def smC (s : ByteArray) (cap k : Nat) : Array Value :=
  ((s.data.toList.zipIdx.map fun (p : UInt8 × Nat) => Value.int .u8 (if p.2 < k then small1 p.1.toNat else p.1.toNat)) ++ List.replicate (cap - s.size) (Value.int .u8 0)).toArray
theorem smC_size (s : ByteArray) (cap k : Nat) : (smC s cap k).size = s.size + (cap - s.size) := by simp [smC]
theorem smC_at (s : ByteArray) (cap k i : Nat) (hi : i < s.size) : (smC s cap k)[i]? = some (.int .u8 (if i < k then small1 (s.data.toList.getD i 0).toNat else (s.data.toList.getD i 0).toNat)) := by
  have hi' : i < s.data.toList.length := by simpa using hi
  have hi'' : i < s.data.size := hi
  simp [smC, List.getElem?_append, hi', List.getElem?_map, List.getElem?_zipIdx, hi, hi'', List.getD_eq_getElem?_getD]
theorem smC_zero (s : ByteArray) (cap : Nat) : bytesRow s cap = smC s cap 0 := by
  apply Array.ext'
  simp only [bytesRow, smC, Array.toList_append, Array.toList_map, Array.toList_replicate]
  congr 1
  apply List.ext_getElem?
  intro i
  simp only [List.getElem?_map, List.getElem?_zipIdx]
  cases s.data.toList[i]? <;> simp
theorem smC_set (s : ByteArray) (cap k : Nat) (hk : k < s.size) : (smC s cap k).setIfInBounds k (.int .u8 (small1 (s.data.toList.getD k 0).toNat)) = smC s cap (k + 1) := by
  apply Array.ext_getElem?
  intro i
  rw [Array.getElem?_setIfInBounds]
  have hk' : k < s.data.toList.length := by simpa using hk
  by_cases h : k = i
  · subst h
    rw [if_pos rfl, if_pos (by rw [smC_size]; omega), smC_at _ _ _ _ hk, if_pos (by omega)]
  · rw [if_neg h]
    simp only [smC, List.getElem?_toArray, List.getElem?_append, List.length_map, List.length_zipIdx, List.getElem?_map, List.getElem?_zipIdx]
    split
    · cases s.data.toList[i]? with
      | none => rfl
      | some b =>
        simp only [Option.map_some, Nat.zero_add]
        congr 2
        by_cases h2 : i < k
        · rw [if_pos h2, if_pos (by omega)]
        · rw [if_neg h2, if_neg (by omega)]
    · rfl
theorem smC_skip (s : ByteArray) (cap k : Nat) (hk : k < s.size) (h : small1 (s.data.toList.getD k 0).toNat = (s.data.toList.getD k 0).toNat) : smC s cap k = smC s cap (k + 1) := by
  rw [← smC_set s cap k hk, h]
  have := smC_at s cap k k hk
  rw [if_neg (by omega)] at this
  apply Array.ext_getElem?
  intro i
  rw [Array.getElem?_setIfInBounds]
  by_cases e : k = i
  · subst e
    rw [if_pos rfl, if_pos (by rw [smC_size]; omega), this]
  · rw [if_neg e]
theorem blk_at {w : World} {g : Nat} {cs : Array Value} {t : TypeId} {fr : Nat × Nat} (h : w.heap[g]? = some (.cells cs t fr)) (i : Nat) : w.cell? ⟨g, i, none⟩ = cs[i]? := cell_of_row w g i cs t fr h
theorem blk_free {w : World} {g : Nat} {cs : Array Value} {t : TypeId} {a b : Nat} (h : w.heap[g]? = some (.cells cs t (a, b))) {i : Nat} (hi : i < a) : w.frozen? ⟨g, i, none⟩ = false := by
  simp [World.frozen?, h]; omega
theorem blk_setAt {w : World} {g : Nat} {cs : Array Value} {t : TypeId} {fr : Nat × Nat} (h : w.heap[g]? = some (.cells cs t fr)) (i : Nat) (v : Value) : (w.setCell ⟨g, i, none⟩ v).heap[g]? = some (.cells (cs.setIfInBounds i v) t fr) := by
  simp [World.setCell, Array.getElem?_modify, h]
theorem smC_C (s : ByteArray) (cap : Nat) {w : World} {g : Nat} {fr : Nat × Nat} (hs : s.size ≤ 9223372036854775807) (h : w.heap[g]? = some (.cells (smC s cap s.size) 5 fr)) : Kd.C (Kd.int .u8) w (some ⟨g, 0, none⟩) s.size (smalls s) := by
  refine Kd.C_of_reads (d := 0) ⟨by simp [smalls], hs, fun _ => ⟨_, rfl, fun j hj => ?_⟩⟩
  have := blk_at h j
  rw [smC_at _ _ _ _ hj, if_pos hj] at this
  have hj' : j < s.data.toList.length := by simpa using hj
  have e : (smalls s).getD j 0 = small1 (s.data.toList.getD j 0).toNat := by
    simp [smalls, List.getD_eq_getElem?_getD, List.getElem?_map, List.getElem?_eq_getElem hj']
  show w.cell? (Addr.add ⟨g, 0, none⟩ j) = _
  rw [e, ← this]
  congr 1
  unfold Addr.add
  by_cases e0 : j = 0
  · simp [e0]
  · simp [e0]

set_option maxHeartbeats 2000000 in
theorem scan_small.calls (a0 : ByteArray) (r : ByteArray) (w : World) (h : scan_small.f a0 = some r) :
    Calls Try.prog 15 #[.string a0] w fun e w' => e = .returned (.string r) ∧ Below w.heap.size w w' := by
  unfold scan_small.f at h
  split at h
  case isFalse => cases h
  rename_i hs
  obtain rfl : strOfNums (smalls a0) = r := Option.some.inj h
  clear h
  have hcv := fun w => run_bytes_of_string (P := Try.prog) w 9 50 5 a0 Try.underlying9 Try.underlying50 Try.underlying5
  go_enter Try.func15, Try.ntmps15
  go_wp2
  clear hcv
  generalize grownCap w a0.size 0 5 = C
  have HB := Aside0.mk (show Below w.heap.size w ((w.alloc (.cells (bytesRow a0 C) 5 ((bytesRow a0 C).size, (bytesRow a0 C).size + 1))).drew) from below_drew1 (below_alloc (Below.refl _ _) _))
  have HD := Aside0.mk (show ((w.alloc (.cells (bytesRow a0 C) 5 ((bytesRow a0 C).size, (bytesRow a0 C).size + 1))).drew).heap[w.heap.size]? = some (.cells (smC a0 C 0) 5 ((bytesRow a0 C).size, (bytesRow a0 C).size + 1)) from by
    rw [← smC_zero]; exact heap_alloc_new w _)
  have hN : a0.size ≤ (bytesRow a0 C).size := by rw [smC_zero, smC_size]; omega
  generalize (bytesRow a0 C).size = N at HB HD hN ⊢
  go_loopg [10] a0.size (fun gg s10 wr => ∃ kk : Nat, kk ≤ a0.size ∧ a0.size - kk ≤ gg ∧ s10 = .int .i64 kk ∧ Aside0 (Below w.heap.size w wr) ∧ Aside0 (wr.heap[w.heap.size]? = some (.cells (smC a0 C kk) 5 (N, N + 1))))
  case atStart => exact ⟨0, Nat.zero_le _, by omega, rfl, HB, HD⟩
  case round =>
    clear HB HD
    obtain ⟨kk, hkk, hg, rfl, HB, HD⟩ := hrel
    by_cases hlt : kk < a0.size
    · have hltz : (kk : Int) < (a0.size : Int) := by omega
      have g0 : wr.cell? ⟨w.heap.size, kk, none⟩ = some (.int .u8 ((a0.data.toList.getD kk 0).toNat : Int)) := by
        rw [blk_at HD.out, smC_at _ _ _ _ hlt, if_neg (by omega)]
      have f0 : wr.frozen? ⟨w.heap.size, kk, none⟩ = false := blk_free HD.out (by omega)
      have HS := Aside0.mk (smC_set a0 C kk hlt)
      have HT := Aside0.mk (smC_skip a0 C kk hlt)
      have hby : (a0.data.toList.getD kk 0).toNat < 256 := UInt8.toNat_lt _
      generalize (a0.data.toList.getD kk 0).toNat = y at g0 HS HT hby
      have p2 : (0 ≤ (kk : Int)) = True := eq_true (by omega)
      have p3 : ((kk : Int) < (a0.size : Int)) = True := eq_true (by omega)
      by_cases y0 : 65 ≤ (y : Int)
      · have y1 := decide_eq_true y0
        by_cases y2 : (y : Int) ≤ 90
        · have y3 := decide_eq_true y2
          have e1 : small1 (y : Int) = y + 32 := if_pos ⟨y0, y2⟩
          rw [e1] at HS
          clear e1
          go_wp2
          go_roundg (a0.size - (kk + 1))
          case measure => omega
          case rel =>
            refine ⟨kk + 1, by omega, by omega, by go_num, ⟨?_⟩, ⟨?_⟩⟩
            · exact HB.out.setCell (by simp) _
            · rw [← HS.out]
              exact blk_setAt HD.out _ _
        · have y3 := decide_eq_false y2
          have e1 : small1 (y : Int) = y := if_neg (by omega)
          have HT2 := Aside0.mk (HT.out e1)
          clear e1 HT
          go_wp2
          go_roundg (a0.size - (kk + 1))
          case measure => omega
          case rel => exact ⟨kk + 1, by omega, by omega, by go_num, HB, ⟨by rw [← HT2.out]; exact HD.out⟩⟩
      · have y1 := decide_eq_false y0
        have e1 : small1 (y : Int) = y := if_neg (by omega)
        have HT2 := Aside0.mk (HT.out e1)
        clear e1 HT
        go_wp2
        go_roundg (a0.size - (kk + 1))
        case measure => omega
        case rel => exact ⟨kk + 1, by omega, by omega, by go_num, HB, ⟨by rw [← HT2.out]; exact HD.out⟩⟩
    · have hltz : ¬ (kk : Int) < (a0.size : Int) := by omega
      have : kk = a0.size := by omega
      subst this
      have hcv := Kd.C_string (P := Try.prog) (src := 50) (dst := 9) (c := C) Try.underlying50 Try.underlying5 Try.underlying9 (smC_C a0 C hs HD.out)
      clear HD
      go_wp2
      go_ret
      exact ⟨rfl, HB.out⟩

/-- strings.Cut at a separator of one byte. -/
def cutAt (s : ByteArray) (i : Int) : ByteArray × ByteArray × Bool := if 0 ≤ i then (s.extract 0 i.toNat, s.extract (i.toNat + 1) s.size, true) else (s, ⟨#[]⟩, false)
def strings_Cut.f (a0 a1 : ByteArray) : Option (ByteArray × ByteArray × Bool) :=
  if a0.size ≤ 9223372036854775807 then (match a1.data.toList with | [c] => some (cutAt a0 (Lib.indexByte a0.data.toList c)) | _ => none) else none
theorem indexByte_lt (l : List UInt8) (c : UInt8) : Lib.indexByte l c < l.length := by
  induction l with
  | nil => simp [Lib.indexByte]
  | cons b l ih =>
    unfold Lib.indexByte
    simp only [List.length_cons]
    split
    · omega
    · split <;> omega

set_option maxHeartbeats 1000000 in
set_option maxRecDepth 100000 in
theorem indexByte_calls (s : ByteArray) (c : Int) (w : World) :
    Calls Try.prog 47 #[.string s, .int .u8 c] w fun e w' => e = .returned (.int .i64 (Lib.indexByte s.data.toList c.toNat.toUInt8)) ∧ w' = w := by
  go_enter Try.func47, Try.ntmps47
  go_wp2
  rw [run_callFunc_extern Try.func51 (by kernel_rfl) (by kernel_rfl) (by kernel_rfl) (e := Extern.BytealgIndexByte.indexByte) (by kernel_rfl), Lib.run_indexByteString]
  simp only [Result.andThen]
  rw [Oper.upon_value]
  go_wp2
  go_ret
  exact ⟨rfl, rfl⟩
set_option maxHeartbeats 2000000 in
set_option maxRecDepth 100000 in
theorem index_calls (s : ByteArray) (c : UInt8) (w : World) :
    Calls Try.prog 45 #[.string s, .string ⟨#[c]⟩] w fun e w' => e = .returned (.int .i64 (Lib.indexByte s.data.toList c)) ∧ w' = w := by
  go_enter Try.func45, Try.ntmps45
  go_wp2_with (go_at_call 47; refine (indexByte_calls _ _ _).mono ?_; rintro e w' ⟨rfl, rfl⟩)
  · have h : ([c] == s.toList) = true := by assumption
    go_ret
    refine ⟨?_, rfl⟩
    have e : s.data.toList = [c] := by rw [← Lib.toList_data]; exact (beq_iff_eq.1 h).symm
    rw [e]
    simp [Lib.indexByte]
  · go_ret
    exact ⟨rfl, rfl⟩
set_option maxHeartbeats 2000000 in
theorem slcut_calls (s : ByteArray) (c : UInt8) (w : World) (hs : s.size ≤ 9223372036854775807) :
    Calls Try.prog 42 #[.string s, .string ⟨#[c]⟩] w fun e w' => e = .returned (.tuple #[.string (cutAt s (Lib.indexByte s.data.toList c)).1, .string (cutAt s (Lib.indexByte s.data.toList c)).2.1, .bool (cutAt s (Lib.indexByte s.data.toList c)).2.2]) ∧ Drawn0 w w' := by
  have hi := index_calls s c w
  have hl := indexByte_lt s.data.toList c
  have hl2 : s.data.toList.length = s.size := by simp
  rw [hl2] at hl
  generalize Lib.indexByte s.data.toList c = i at hi hl ⊢
  clear hl2
  by_cases h0 : 0 ≤ i
  · obtain ⟨j, rfl⟩ : ∃ j : Nat, i = j := ⟨i.toNat, by omega⟩
    have h1 := decide_eq_true h0
    unfold cutAt
    rw [if_pos h0, Int.toNat_natCast]
    have e1 : wrap64 ((j : Int) + 1) = (j : Int) + 1 := IntWalk.wrap64_in _ ⟨by omega, by omega⟩
    go_enter Try.func42, Try.ntmps42
    go_wp2_with (go_at_call 45; refine hi.mono ?_; rintro e w' ⟨rfl, rfl⟩)
    have p1 : ((0 : Int) ≤ (j : Int)) = True := eq_true h0
    have p2 : ((j : Int) ≤ (s.size : Int)) = True := eq_true (by omega)
    have p3 : ((j : Int) + 1 ≤ (s.size : Int)) = True := eq_true (by omega)
    have e2 : ((j : Int) + 1).toNat = j + 1 := by omega
    have p4 : ((0 : Int) ≤ (j : Int) + 1) = True := eq_true (by omega)
    go_quiet (fail)
    go_wp2
    go_ret3
    exact ⟨rfl, ⟨_, rfl⟩⟩
  · have h1 := decide_eq_false h0
    unfold cutAt
    rw [if_neg h0]
    go_enter Try.func42, Try.ntmps42
    go_wp2_with (go_at_call 45; refine hi.mono ?_; rintro e w' ⟨rfl, rfl⟩)
    go_ret3
    exact ⟨rfl, ⟨0, rfl⟩⟩
set_option maxHeartbeats 2000000 in
theorem strings_Cut.calls (a0 a1 : ByteArray) (r1 r2 : ByteArray) (r3 : Bool) (w : World) (h : strings_Cut.f a0 a1 = some (r1, r2, r3)) :
    Calls Try.prog 37 #[.string a0, .string a1] w fun e w' => e = .returned (.tuple #[.string r1, .string r2, .bool r3]) ∧ Drawn0 w w' := by
  unfold strings_Cut.f at h
  split at h
  case isFalse => cases h
  rename_i hs
  split at h
  case h_2 => cases h
  rename_i c hc
  obtain rfl : a1 = ⟨#[c]⟩ := by
    cases a1 with
    | mk d => cases d with
      | mk l => simp at hc; subst hc; rfl
  have hcut := slcut_calls a0 c w hs
  have he := Option.some.inj h
  rw [he] at hcut
  clear he h hc
  go_enter Try.func37, Try.ntmps37
  go_wp2_with (go_at_call 42; refine hcut.mono ?_; rintro e w' ⟨rfl, n, rfl⟩)
  go_ret3
  exact ⟨rfl, ⟨_, rfl⟩⟩
/-! ### upto -/
def IsS37 (w0 W : World) (g : Nat) (f0 : ByteArray) (f1 : Int) : Prop := W.heap[g]? = some (.cells #[.string f0, .int .i64 f1] 37 (0, 0)) ∧ w0.heap.size ≤ g
theorem IsS37.grown {w0 W : World} {g : Nat} {f0 : ByteArray} {f1 : Int} {W1 : World} {row : Option Nat} (h : IsS37 w0 W g f0 f1) (hw : W.grownBy W1 row) (hne : some g ≠ row) : IsS37 w0 W1 g f0 f1 := by
  obtain ⟨hb, hg⟩ := h
  exact ⟨blk_grown hb hw hne, hg⟩
theorem IsS37.own_neN {w0 W : World} {g : Nat} {f0 : ByteArray} {f1 : Int} {α : Type} {d : Kd α} {e : Nat} {base : Nat} {ok : Nat → Prop} {v : Value} {xs : List α} (h : IsS37 w0 W g f0 f1) (ho : Kd.N d e W base ok v xs) (ht : e ≠ 37) : some g ≠ v.ownBlock := by
  obtain ⟨hb, hg⟩ := h
  exact Kd.N_ne ho hb ht
theorem IsS37.fresh {w0 W : World} {g : Nat} {f0 : ByteArray} {f1 : Int} (h : IsS37 w0 W g f0 f1) : ∀ k, W.heap.size ≤ k → k ≠ g := by
  obtain ⟨hb, hg⟩ := h
  exact Kd.freshB hb
theorem IsS37.kept {w0 W : World} {g : Nat} {f0 : ByteArray} {f1 : Int} {W1 : World} {S : Nat → Prop} (h : IsS37 w0 W g f0 f1) (hk : Kept W W1 S) (hne : ¬ S g) : IsS37 w0 W1 g f0 f1 := by
  obtain ⟨hb, hg⟩ := h
  exact ⟨blk_kept hb hk hne, hg⟩
theorem IsS37.below {w0 W : World} {g : Nat} {f0 : ByteArray} {f1 : Int} {W1 : World} (h : IsS37 w0 W g f0 f1) (hw : Below W.heap.size W W1) : IsS37 w0 W1 g f0 f1 := h.grown (grown_of_below hw none) (by simp)
theorem IsS37.alloc {w0 W : World} {g : Nat} {f0 : ByteArray} {f1 : Int} (h : IsS37 w0 W g f0 f1) (o : Obj) : IsS37 w0 (W.alloc o) g f0 f1 := h.below (below_alloc (Below.refl _ _) o)
theorem IsS37.drewN {w0 W : World} {g : Nat} {f0 : ByteArray} {f1 : Int} (h : IsS37 w0 W g f0 f1) (m : Nat) : IsS37 w0 (W.drewN m) g f0 f1 := h
theorem IsS37.drew {w0 W : World} {g : Nat} {f0 : ByteArray} {f1 : Int} (h : IsS37 w0 W g f0 f1) : IsS37 w0 W.drew g f0 f1 := h
theorem IsS37.at_ {w0 W : World} {g : Nat} {f0 : ByteArray} {f1 : Int} {w' : World} {m : Nat} (hq : W.drewN m = w') (h : IsS37 w0 W g f0 f1) : IsS37 w0 w' g f0 f1 := by subst hq; exact IsS37.drewN h m
theorem IsS37.apart {w0 W : World} {g : Nat} {f0 : ByteArray} {f1 : Int} {α : Type} {d : Kd α} {e : Nat} {base : Nat} {ok : Nat → Prop} {v : Value} {xs : List α} (h : IsS37 w0 W g f0 f1) (ho : d.R e W base ok v xs) (ht : ∀ q, q ∈ e :: d.E → q ≠ 37) : d.R e W base (fun k => ok k ∧ k ≠ g) v xs := by
  obtain ⟨hb, hg⟩ := h
  exact Kd.R_types ho hb ht
theorem IsS37.own_ne {w0 W : World} {g : Nat} {f0 : ByteArray} {f1 : Int} {α : Type} {d : Kd α} {e : Nat} {base : Nat} {ok : Nat → Prop} {v : Value} {xs : List α} (h : IsS37 w0 W g f0 f1) (ho : d.R e W base ok v xs) (ht : e ≠ 37) : some g ≠ v.ownBlock := by
  obtain ⟨hb, hg⟩ := h
  exact Kd.R_ne ho hb ht
theorem IsS37.apartQ {w0 W : World} {g : Nat} {f0 : ByteArray} {f1 : Int} {α : Type} {d : Kd α} {e : Nat} {base : Nat} {ok : Nat → Prop} {v : Value} {xs : List α} (h : IsS37 w0 W g f0 f1) (ho : d.Q e W base ok v xs) (ht : ∀ q, q ∈ e :: d.E → q ≠ 37) : d.Q e W base (fun k => ok k ∧ k ≠ g) v xs := by
  obtain ⟨hb, hg⟩ := h
  exact Kd.Q_types ho hb ht
theorem IsS37.own_neQ {w0 W : World} {g : Nat} {f0 : ByteArray} {f1 : Int} {α : Type} {d : Kd α} {e : Nat} {base : Nat} {ok : Nat → Prop} {v : Value} {xs : List α} (h : IsS37 w0 W g f0 f1) (ho : d.Q e W base ok v xs) (ht : e ≠ 37) : some g ≠ v.ownBlock := by
  obtain ⟨hb, hg⟩ := h
  exact Kd.Q_ne ho hb ht
theorem IsS37.apartS {w0 W : World} {g : Nat} {f0 : ByteArray} {f1 : Int} {α : Type} {d : Kd α} {e : Nat} {base : Nat} {ok : Nat → Prop} {v : Value} {xs : List α} (h : IsS37 w0 W g f0 f1) (ho : d.S e W base ok v xs) (ht : ∀ q, q ∈ e :: d.E → q ≠ 37) : d.S e W base (fun k => ok k ∧ k ≠ g) v xs := by
  obtain ⟨hb, hg⟩ := h
  exact Kd.S_types ho hb ht
theorem IsS37.own_neS {w0 W : World} {g : Nat} {f0 : ByteArray} {f1 : Int} {α : Type} {d : Kd α} {e : Nat} {base : Nat} {ok : Nat → Prop} {v : Value} {xs : List α} (h : IsS37 w0 W g f0 f1) (ho : d.S e W base ok v xs) (ht : e ≠ 37) : some g ≠ v.ownBlock := by
  obtain ⟨hb, hg⟩ := h
  exact Kd.S_ne ho hb ht
theorem IsS37.lt {w0 W : World} {g : Nat} {f0 : ByteArray} {f1 : Int} (h : IsS37 w0 W g f0 f1) : g < W.heap.size := by
  obtain ⟨hb, hg⟩ := h
  exact blk_lt hb
theorem IsS37.ge {w0 W : World} {g : Nat} {f0 : ByteArray} {f1 : Int} (h : IsS37 w0 W g f0 f1) : w0.heap.size ≤ g := by
  obtain ⟨hb, hg⟩ := h
  exact hg
theorem IsS37.ne_blk {w0 W : World} {g : Nat} {f0 : ByteArray} {f1 : Int} {a : Nat} {cs : Array Value} {t : TypeId} {fr : Nat × Nat} (h : IsS37 w0 W g f0 f1) (hb2 : W.heap[a]? = some (.cells cs t fr)) (ht : t ≠ 37) : g ≠ a := by
  obtain ⟨hb, hg⟩ := h
  rintro rfl
  rw [hb] at hb2
  injection hb2 with hb2
  injection hb2 with _ ht2
  exact ht ht2.symm
theorem IsS37.far {w0 W : World} {g : Nat} {f0 : ByteArray} {f1 : Int} {p : Addr} (h : IsS37 w0 W g f0 f1) (hne : g ≠ p.block) (u : Value) : IsS37 w0 (W.setCell p u) g f0 f1 := by
  obtain ⟨hb, hg⟩ := h
  exact ⟨blk_far hb hne u, hg⟩
theorem cellS37_0 {W : World} {g : Nat} {f0 : ByteArray} {f1 : Int} (h : W.heap[g]? = some (.cells #[.string f0, .int .i64 f1] 37 (0, 0))) : W.cell? ⟨g, 0, none⟩ = some (.string f0) := (blk_cell h 0).trans rfl
theorem IsS37.set_0 {w0 W : World} {g : Nat} {f0 : ByteArray} {f1 : Int} (h : IsS37 w0 W g f0 f1) (x : ByteArray) : IsS37 w0 (W.setCell ⟨g, 0, none⟩ (.string x)) g x f1 := by
  obtain ⟨hb, hg⟩ := h
  exact ⟨by simpa using blk_set hb 0 (.string x), hg⟩
theorem cellS37_1 {W : World} {g : Nat} {f0 : ByteArray} {f1 : Int} (h : W.heap[g]? = some (.cells #[.string f0, .int .i64 f1] 37 (0, 0))) : W.cell? ⟨g, 1, none⟩ = some (.int .i64 f1) := (blk_cell h 1).trans rfl
theorem IsS37.set_1 {w0 W : World} {g : Nat} {f0 : ByteArray} {f1 : Int} (h : IsS37 w0 W g f0 f1) (x : Int) : IsS37 w0 (W.setCell ⟨g, 1, none⟩ (.int .i64 x)) g f0 x := by
  obtain ⟨hb, hg⟩ := h
  exact ⟨by simpa using blk_set hb 1 (.int .i64 x), hg⟩
theorem IsS37.new (w0 W : World) (f0 : ByteArray) (f1 : Int) (hB : Below w0.heap.size w0 W) : IsS37 w0 (W.alloc (.cells #[.string f0, .int .i64 f1] 37)) W.heap.size f0 f1 := ⟨by simpa using heap_alloc_new W _, hB.size⟩


def scan_cutter_upto.f (s0_0 : ByteArray) (s0_1 : Int) (a1 : Int) : Option (ByteArray × Bool × ByteArray × Int) :=
  if 0 ≤ s0_1 ∧ s0_1 ≤ s0_0.size ∧ s0_0.size ≤ 9223372036854775000 then
    (strings_Cut.f (s0_0.extract s0_1.toNat s0_0.size) (strOfNums [a1])).bind fun r =>
    some (r.1, r.2.2, s0_0, if r.2.2 then s0_1 + (r.1.size + 1) else s0_1) else none
theorem C_byte (w : World) (a : Int) : (Kd.int .u8).C (w.alloc (.cells #[.int .u8 a] 5)).drew (some ⟨w.heap.size, 0, none⟩) 1 [a] :=
  Kd.C_of_reads (d := 0) ⟨rfl, by decide, fun _ => ⟨_, rfl, fun j hj => by
    have : j = 0 := by omega
    subst this
    exact (blk_cell (blk_new w (.cells #[.int .u8 a] 5)) 0).trans rfl⟩⟩
theorem cut_size {s t x1 x2 : ByteArray} {x3 : Bool} (h : strings_Cut.f s t = some (x1, x2, x3)) : x1.size ≤ s.size ∧ (x3 = true → x1.size + 1 ≤ s.size) := by
  unfold strings_Cut.f at h
  split at h
  case isFalse => cases h
  split at h
  case h_2 => cases h
  rename_i c hc
  have hl := indexByte_lt s.data.toList c
  have hl2 : s.data.toList.length = s.size := by simp
  rw [hl2] at hl
  generalize Lib.indexByte s.data.toList c = i at h hl
  have h := Option.some.inj h
  unfold cutAt at h
  split at h
  · injection h with e1 e2
    injection e2 with e2 e3
    subst e1
    rw [ByteArray.size_extract]
    constructor <;> intros <;> omega
  · injection h with e1 e2
    injection e2 with e2 e3
    subst e1 e3
    exact ⟨Nat.le_refl _, fun h => by cases h⟩
set_option maxHeartbeats 4000000 in
theorem scan_cutter_upto.calls (g : Nat) (s0_0 : ByteArray) (s0_1 : Int) (a1 : Int) (r1 : ByteArray) (r2 : Bool) (r3 : ByteArray) (r4 : Int) (w0 w : World) (hI : IsS37 w0 w g s0_0 s0_1) (hB : Below w0.heap.size w0 w) (h : scan_cutter_upto.f s0_0 s0_1 a1 = some (r1, r2, r3, r4)) :
    Calls Try.prog 30 #[.pointer (some ⟨g, 0, none⟩), .int .u8 a1] w fun e w' => e = .returned (.tuple #[.string r1, .bool r2]) ∧ IsS37 w0 w' g r3 r4 ∧ Below w0.heap.size w0 w' ∧ KeepBut w w' g none := by
  unfold scan_cutter_upto.f at h
  split at h
  case isFalse => cases h
  rename_i hc
  obtain ⟨h0, h1, h2⟩ := hc
  cases hx : strings_Cut.f (s0_0.extract s0_1.toNat s0_0.size) (strOfNums [a1]) with
  | none => rw [hx] at h; cases h
  | some x =>
  obtain ⟨x1, x2, x3⟩ := x
  have hz := cut_size hx
  rw [ByteArray.size_extract] at hz
  have HX := Aside0.mk hx
  rw [hx] at h
  simp only [Option.bind_some, Option.some.injEq, Prod.mk.injEq] at h
  obtain ⟨rfl, rfl, rfl, rfl⟩ := h
  obtain ⟨hz1, hz2⟩ := hz
  have hz3 : (x1.size : Int) + s0_1 ≤ s0_0.size := by omega
  have HZ := Aside0.mk hz2
  clear hx hz1 hz2
  have HD := Aside0.mk hI.1
  have hge := hI.2
  clear hI
  have q1 : (0 ≤ s0_1) = True := eq_true h0
  have q2 : (s0_1 ≤ (s0_0.size : Int)) = True := eq_true h1
  go_enter Try.func30, Try.ntmps30
  go_wp2_with fail
  refine start_ (n := 20) (S := fun w' => w'.cell? ⟨g, 0, none⟩ = some (.string s0_0) ∧ w'.cell? ⟨g, 1, none⟩ = some (.int .i64 s0_1)) (ds := []) #[false, false, false, false, false, false, false, false, false, false, false, false, false, false, false, false, false, false, false, false] (by kernel_rfl) rfl rfl (⟨(blk_cell HD.out 0).trans rfl, (blk_cell HD.out 1).trans rfl⟩) (fun hHeld => ?_)
  refine with_tab (rfl : rtab .any (opsOf Try.f30 1) = rtab .any (opsOf Try.f30 1)) (fun HT_ => ?_)
  refine pure_ (i := 0) (N := some 10) (v := ?_) (a' := ?_) #[true, false, false, false, false, false, false, false, false, false, false, false, false, false, false, false, false, false, false, false] rfl rfl (any_of HT_.out (by kernel_rfl)) (fun _ _ _ h => h) (Or.inl ⟨by rfl, ?_⟩) ?_ ?_
  rotate_left
  · intro w'
    go_simp
    with_reducible rfl
  rotate_left
  · simp only [Act.put, List.setIfInBounds_toArray, List.set_cons_zero, List.set_cons_succ, i64_w, i32_w]
    rfl
  refine pure_ (i := 1) (N := some 11) (v := ?_) (a' := ?_) #[true, true, false, false, false, false, false, false, false, false, false, false, false, false, false, false, false, false, false, false] rfl rfl (any_of HT_.out (by kernel_rfl)) (fun _ _ _ h => h) (Or.inl ⟨by rfl, ?_⟩) ?_ ?_
  rotate_left
  · intro w'
    go_simp
    with_reducible rfl
  rotate_left
  · simp only [Act.put, List.setIfInBounds_toArray, List.set_cons_zero, List.set_cons_succ, i64_w, i32_w]
    rfl
  refine pure_ (i := 2) (N := some 12) (v := ?_) (a' := ?_) #[true, true, true, false, false, false, false, false, false, false, false, false, false, false, false, false, false, false, false, false] rfl rfl (any_of HT_.out (by kernel_rfl)) (fun _ _ _ h => h) (Or.inl ⟨by rfl, ?_⟩) ?_ ?_
  rotate_left
  · intro w'
    go_simp
    with_reducible rfl
  rotate_left
  · simp only [Act.put, List.setIfInBounds_toArray, List.set_cons_zero, List.set_cons_succ, i64_w, i32_w]
    rfl
  refine pure_ (i := 4) (N := some 14) (v := ?_) (a' := ?_) #[true, true, true, false, true, false, false, false, false, false, false, false, false, false, false, false, false, false, false, false] rfl rfl (any_of HT_.out (by kernel_rfl)) (fun _ _ _ h => h) (Or.inl ⟨by rfl, ?_⟩) ?_ ?_
  rotate_left
  · intro w'
    go_simp
    with_reducible rfl
  rotate_left
  · simp only [Act.put, List.setIfInBounds_toArray, List.set_cons_zero, List.set_cons_succ, i64_w, i32_w]
    rfl
  refine pure_ (i := 5) (N := some 15) (v := ?_) (a' := ?_) #[true, true, true, false, true, true, false, false, false, false, false, false, false, false, false, false, false, false, false, false] rfl rfl (any_of HT_.out (by kernel_rfl)) (fun _ _ _ h => h) (Or.inl ⟨by rfl, ?_⟩) ?_ ?_
  rotate_left
  · intro w'
    go_simp
    with_reducible rfl
  rotate_left
  · simp only [Act.put, List.setIfInBounds_toArray, List.set_cons_zero, List.set_cons_succ, i64_w, i32_w]
    rfl
  refine pure_ (i := 6) (N := some 16) (v := ?_) (a' := ?_) #[true, true, true, false, true, true, true, false, false, false, false, false, false, false, false, false, false, false, false, false] rfl rfl (any_of HT_.out (by kernel_rfl)) (fun _ _ _ h => h) (Or.inl ⟨by rfl, ?_⟩) ?_ ?_
  rotate_left
  · intro w'
    go_simp
    with_reducible rfl
  rotate_left
  · simp only [Act.put, List.setIfInBounds_toArray, List.set_cons_zero, List.set_cons_succ, i64_w, i32_w]
    rfl
  refine pure_ (i := 9) (N := some 19) (v := ?_) (a' := ?_) #[true, true, true, false, true, true, true, false, false, true, false, false, false, false, false, false, false, false, false, false] rfl rfl (any_of HT_.out (by kernel_rfl)) (fun _ _ _ h => h) (Or.inl ⟨by rfl, ?_⟩) ?_ ?_
  rotate_left
  · intro w'
    go_simp
    with_reducible rfl
  rotate_left
  · simp only [Act.put, List.setIfInBounds_toArray, List.set_cons_zero, List.set_cons_succ, i64_w, i32_w]
    rfl
  refine take_ (i := 3) (N := some 13) (v := ?_) (a' := ?_) #[true, true, true, true, true, true, true, false, false, true, false, false, false, false, false, false, false, false, false, false] rfl rfl (take_of HT_.out (by kernel_rfl)) (fun _ _ _ h => h) (Or.inl ⟨by rfl, ?_⟩) hHeld ?_ ?_
  rotate_left
  · rintro w' hS; go_split_ands
    go_simp
    with_reducible rfl
  rotate_left
  · simp only [Act.put, List.setIfInBounds_toArray, List.set_cons_zero, List.set_cons_succ, i64_w, i32_w]
    rfl
  refine take_ (i := 7) (N := some 17) (v := ?_) (a' := ?_) #[true, true, true, true, true, true, true, true, false, true, false, false, false, false, false, false, false, false, false, false] rfl rfl (take_of HT_.out (by kernel_rfl)) (fun _ _ _ h => h) (Or.inl ⟨by rfl, ?_⟩) hHeld ?_ ?_
  rotate_left
  · rintro w' hS; go_split_ands
    go_simp
    with_reducible rfl
  rotate_left
  · simp only [Act.put, List.setIfInBounds_toArray, List.set_cons_zero, List.set_cons_succ, i64_w, i32_w]
    rfl
  refine pure_ (i := 8) (N := some 18) (v := ?_) (a' := ?_) #[true, true, true, true, true, true, true, true, true, true, false, false, false, false, false, false, false, false, false, false] rfl rfl (any_of HT_.out (by kernel_rfl)) (fun _ _ _ h => h) (Or.inl ⟨by rfl, ?_⟩) ?_ ?_
  rotate_left
  · intro w'
    go_simp
    with_reducible rfl
  rotate_left
  · simp only [Act.put, List.setIfInBounds_toArray, List.set_cons_zero, List.set_cons_succ, i64_w, i32_w]
    rfl
  refine one_ (i := 10) (N := some 20) #[true, true, true, true, true, true, true, true, true, true, true, false, false, false, false, false, false, false, false, false] rfl rfl (one_of HT_.out (by kernel_rfl)) (by decide) (fun K hK => ?_)
  refine value_ (w1 := ?_) (v := ?_) (by rfl) rfl ?_ ?_
  rotate_left 2
  · go_simp
    constructor
    · rfl
    · rfl
  have HD2 := Aside0.mk (blk_alloc HD.out (.cells #[.int .u8 a1] 5))
  clear HD
  have HD := HD2
  clear HD2
  refine hK.out _ _ (⟨(blk_cell HD.out 0).trans rfl, (blk_cell HD.out 1).trans rfl⟩) (fun hHeld => ?_)
  clear hK K
  refine norm_ (a' := ?_) ?_ ?_
  rotate_left
  · show Act.put _ (some 20) _ = _
    simp only [Act.put, List.setIfInBounds_toArray, List.set_cons_zero, List.set_cons_succ, i64_w, i32_w]
    rfl
  refine one_ (i := 11) (N := some 21) #[true, true, true, true, true, true, true, true, true, true, true, true, false, false, false, false, false, false, false, false] rfl rfl (one_of HT_.out (by kernel_rfl)) (by decide) (fun K hK => ?_)
  have hcv := Kd.C_string (P := Try.prog) (src := 50) (dst := 9) (c := 1) Try.underlying50 Try.underlying5 Try.underlying9 (C_byte w a1)
  refine value_ (w1 := ?_) (v := ?_) (by rfl) rfl ?_ ?_
  rotate_left 2
  · go_simp
    constructor
    · rfl
    · rfl
  clear hcv
  refine hK.out _ _ (⟨(blk_cell HD.out 0).trans rfl, (blk_cell HD.out 1).trans rfl⟩) (fun hHeld => ?_)
  clear hK K
  refine norm_ (a' := ?_) ?_ ?_
  rotate_left
  · show Act.put _ (some 21) _ = _
    simp only [Act.put, List.setIfInBounds_toArray, List.set_cons_zero, List.set_cons_succ, i64_w, i32_w]
    rfl
  refine one_ (i := 12) (N := some 22) #[true, true, true, true, true, true, true, true, true, true, true, true, true, false, false, false, false, false, false, false] rfl rfl (one_of HT_.out (by kernel_rfl)) (by decide) (fun K hK => ?_)
  refine goes_ Try.func37 (by kernel_rfl) rfl #[.string (s0_0.extract s0_1.toNat s0_0.size), .string (strOfNums [a1])] (by rfl) rfl rfl (by simp only [List.map_toArray, List.map_cons, List.map_nil]; rfl) ?_
  with_reducible refine (strings_Cut.calls _ _ x1 x2 x3 _ HX.out).mono ?_
  rintro e w3 ⟨rfl, ⟨⟨n, rfl⟩⟩⟩
  refine ⟨_, rfl, ?_⟩
  refine hK.out _ _ (⟨(blk_cell HD.out 0).trans rfl, (blk_cell HD.out 1).trans rfl⟩) (fun hHeld => ?_)
  clear hK K
  refine norm_ (a' := ?_) ?_ ?_
  rotate_left
  · show Act.put _ (some 22) _ = _
    simp only [Act.put, List.setIfInBounds_toArray, List.set_cons_zero, List.set_cons_succ, i64_w, i32_w]
    rfl
  refine pure_ (i := 13) (N := some 9) (v := ?_) (a' := ?_) #[true, true, true, true, true, true, true, true, true, true, true, true, true, true, false, false, false, false, false, false] rfl rfl (any_of HT_.out (by kernel_rfl)) (fun _ _ _ h => h) (Or.inl ⟨by rfl, ?_⟩) ?_ ?_
  rotate_left
  · intro w'
    go_simp
    with_reducible rfl
  rotate_left
  · simp only [Act.put, List.setIfInBounds_toArray, List.set_cons_zero, List.set_cons_succ, i64_w, i32_w]
    rfl
  refine pure_ (i := 14) (N := some 23) (v := ?_) (a' := ?_) #[true, true, true, true, true, true, true, true, true, true, true, true, true, true, true, false, false, false, false, false] rfl rfl (any_of HT_.out (by kernel_rfl)) (fun _ _ _ h => h) (Or.inl ⟨by rfl, ?_⟩) ?_ ?_
  rotate_left
  · intro w'
    go_simp
    with_reducible rfl
  rotate_left
  · simp only [Act.put, List.setIfInBounds_toArray, List.set_cons_zero, List.set_cons_succ, i64_w, i32_w]
    rfl
  refine pure_ (i := 15) (N := some 24) (v := ?_) (a' := ?_) #[true, true, true, true, true, true, true, true, true, true, true, true, true, true, true, true, false, false, false, false] rfl rfl (any_of HT_.out (by kernel_rfl)) (fun _ _ _ h => h) (Or.inl ⟨by rfl, ?_⟩) ?_ ?_
  rotate_left
  · intro w'
    go_simp
    with_reducible rfl
  rotate_left
  · simp only [Act.put, List.setIfInBounds_toArray, List.set_cons_zero, List.set_cons_succ, i64_w, i32_w]
    rfl
  refine pure_ (i := 16) (N := some 25) (v := ?_) (a' := ?_) #[true, true, true, true, true, true, true, true, true, true, true, true, true, true, true, true, true, false, false, false] rfl rfl (any_of HT_.out (by kernel_rfl)) (fun _ _ _ h => h) (Or.inl ⟨by rfl, ?_⟩) ?_ ?_
  rotate_left
  · intro w'
    go_simp
    with_reducible rfl
  rotate_left
  · simp only [Act.put, List.setIfInBounds_toArray, List.set_cons_zero, List.set_cons_succ, i64_w, i32_w]
    rfl
  refine pure_ (i := 17) (N := some 6) (v := ?_) (a' := ?_) #[true, true, true, true, true, true, true, true, true, true, true, true, true, true, true, true, true, true, false, false] rfl rfl (any_of HT_.out (by kernel_rfl)) (fun _ _ _ h => h) (Or.inl ⟨by rfl, ?_⟩) ?_ ?_
  rotate_left
  · intro w'
    go_simp
    with_reducible rfl
  rotate_left
  · simp only [Act.put, List.setIfInBounds_toArray, List.set_cons_zero, List.set_cons_succ, i64_w, i32_w]
    rfl
  refine pure_ (i := 18) (N := some 7) (v := ?_) (a' := ?_) #[true, true, true, true, true, true, true, true, true, true, true, true, true, true, true, true, true, true, true, false] rfl rfl (any_of HT_.out (by kernel_rfl)) (fun _ _ _ h => h) (Or.inl ⟨by rfl, ?_⟩) ?_ ?_
  rotate_left
  · intro w'
    go_simp
    with_reducible rfl
  rotate_left
  · simp only [Act.put, List.setIfInBounds_toArray, List.set_cons_zero, List.set_cons_succ, i64_w, i32_w]
    rfl
  refine pure_ (i := 19) (N := some 8) (v := ?_) (a' := ?_) #[true, true, true, true, true, true, true, true, true, true, true, true, true, true, true, true, true, true, true, true] rfl rfl (any_of HT_.out (by kernel_rfl)) (fun _ _ _ h => h) (Or.inl ⟨by rfl, ?_⟩) ?_ ?_
  rotate_left
  · intro w'
    go_simp
    with_reducible rfl
  rotate_left
  · simp only [Act.put, List.setIfInBounds_toArray, List.set_cons_zero, List.set_cons_succ, i64_w, i32_w]
    rfl
  refine done_ (done_of HT_.out (by kernel_rfl)) ?_
  have HD2 := Aside0.mk (show ((w.alloc (Obj.cells #[Value.int IntKind.u8 a1] 5)).drew.drewN n).heap[g]? = some (.cells #[.string s0_0, .int .i64 s0_1] 37 (0, 0)) from HD.out)
  have HB := Aside0.mk (show Below w0.heap.size w0 ((w.alloc (Obj.cells #[Value.int IntKind.u8 a1] 5)).drew.drewN n) from pw_below_drewN (below_drew1 (below_alloc hB _)) n)
  have HK := Aside0.mk (show KeepBut w ((w.alloc (Obj.cells #[Value.int IntKind.u8 a1] 5)).drew.drewN n) g none from keep_drewN (keep_drew (keep_alloc (KeepBut.refl w g none) _)) n)
  clear hHeld HD hB
  generalize ((w.alloc (Obj.cells #[Value.int IntKind.u8 a1] 5)).drew.drewN n) = w9 at HD2 HB HK ⊢
  have hb0 : w9.cell? ⟨g, 1, none⟩ = some (.int .i64 s0_1) := (blk_cell HD2.out 1).trans rfl
  have hf0 : w9.frozen? ⟨g, 1, none⟩ = false := blk_frozen HD2.out 1
  cases x3 with
  | false =>
    go_wp2_with fail
    refine bodyPost_ret (v := .tuple #[.string x1, .bool false]) (by simp [results, Try.results30, go_sem]) rfl ⟨rfl, ⟨HD2.out, hge⟩, HB.out, HK.out⟩
  | true =>
    have hz4 : (x1.size : Int) + 1 + s0_1 ≤ s0_0.size := by have := HZ.out rfl; omega
    go_wp2_with fail
    refine bodyPost_ret (v := .tuple #[.string x1, .bool true]) (by simp [results, Try.results30, go_sem]) rfl ⟨rfl, ⟨blk_put HD2.out 1 _ rfl, hge⟩, ?_, ?_⟩
    · exact below_set HB.out hge
    · exact KeepBut.set_ HK.out _ _
end Go.Proofs.Ytnnhpbghimjhiaa
