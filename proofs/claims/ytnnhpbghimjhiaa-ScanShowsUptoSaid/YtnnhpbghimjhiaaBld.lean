/- strings.Builder's writing methods, walked at this translation (their inner check is another text here than the shelf's); String and Join are the shelf's. -/
import Derived.Test.YtnnhpbghimjhiaaProg
import Derived.Below
import Derived.Deep.Draws
import Derived.Deep.AppendLies
import Derived.Maps.AppendAt
import Derived.OwnWalk
import Derived.Laws.BytesArg
import Derived.Laws.MakeOwn
import Derived.Laws.OwnMore
import Derived.Deep.OwnRows
import Derived.Tactics
import Derived.Lib.ConvBytes
import Derived.Laws.Slices
import Derived.WalkKit
import Derived.KernelRfl
import Derived.RowKit3
import Derived.Deep.LoopGhost
import Derived.Deep.QuietTactic
import Derived.BigQuiet
import Derived.WideLaws
import Derived.Deep.DeepCutAuto
import Derived.Deep.CutBlock
import Derived.Deep.RegionHeld3
import Derived.Laws.Rows
import Derived.Lib.AppendStr
import Derived.ArgAppend
import Derived.Laws.IdiomCopy
import Derived.OrdersHeld
import Derived.Laws.BitsLemmas
import Derived.RowKit
import Derived.Test.YtnnhpbghimjhiaaWWords
import Derived.Test.YtnnhpbghimjhiaaWLast
import Derived.Test.YtnnhpbghimjhiaaWTab
import Derived.Test.YtnnhpbghimjhiaaWFour
import Derived.Test.YtnnhpbghimjhiaaWQPut
import Derived.Test.YtnnhpbghimjhiaaWApart
import Derived.Test.YtnnhpbghimjhiaaWArr
import Derived.Test.YtnnhpbghimjhiaaWZeros
import Derived.Test.YtnnhpbghimjhiaaWFoot
import Derived.Test.YtnnhpbghimjhiaaWKept
import Derived.Test.YtnnhpbghimjhiaaWShare
import Derived.Test.YtnnhpbghimjhiaaWN
import Derived.Test.YtnnhpbghimjhiaaWFootNe
import Derived.Test.YtnnhpbghimjhiaaWAt
import Derived.Test.YtnnhpbghimjhiaaWEqStruct
import Derived.Test.YtnnhpbghimjhiaaWRepsOne
import Derived.Test.YtnnhpbghimjhiaaWInv
import Derived.Test.YtnnhpbghimjhiaaWInvWords
import Derived.Test.YtnnhpbghimjhiaaWGuard
import Derived.Test.YtnnhpbghimjhiaaWNEv
import Derived.Test.YtnnhpbghimjhiaaWMore
import Derived.Test.YtnnhpbghimjhiaaGiv
import Derived.Test.YtnnhpbghimjhiaaShelf
import Derived.Lib.Builder
import Derived.Lib.UnsafeStr
namespace Go.Proofs.Ytnnhpbghimjhiaa
open Go.RowKit Go.Proofs.YtnnhpbghimjhiaaW.PrintWords Go.Proofs.YtnnhpbghimjhiaaW.PrintLast Go.Proofs.YtnnhpbghimjhiaaW.PrintMore
set_option linter.unusedVariables false
set_option linter.unusedSimpArgs false
/-- A builder in block b that holds the bytes xs; its row lies from b on. -/
def BW (b : Nat) (p : Value) (v : Value) (xs : List UInt8) (W : World) : Prop := W.heap[b]? = some (.cells #[p, v] 52 (0, 0)) ∧ W.ownsRow b 5 1 v xs.length (Lib.byteCells xs)
/-- All but the builder and plain rows of bytes from it on stays. -/
def KB (b : Nat) (w w' : World) : Prop := Below b w w' ∧ ∀ k, k < w.heap.size → k ≠ b → (∀ cur, w.heap[k]? ≠ some (.cells cur 5 (0, 0))) → w'.heap[k]? = w.heap[k]?
theorem KB.trans {b : Nat} {w w1 w2 : World} (h : KB b w w1) (k : KB b w1 w2) : KB b w w2 :=
  ⟨h.1.trans k.1, fun i hi hb hr => by
    have h1 := h.2 i hi hb hr
    exact (k.2 i (Nat.lt_of_lt_of_le hi h.1.size) hb (fun cur => by rw [h1]; exact hr cur)).trans h1⟩
theorem KB.refl (b : Nat) (w : World) : KB b w w := ⟨Below.refl _ _, fun _ _ _ _ => rfl⟩
theorem KB.blk {b : Nat} {w w1 : World} (h : KB b w w1) {k : Nat} {o : Obj} (ho : w.heap[k]? = some o) (hb : k ≠ b) (hr : ∀ cur, o ≠ .cells cur 5 (0, 0)) : w1.heap[k]? = some o := by
  rw [h.2 k (blk_lt ho) hb (fun cur e => by rw [ho] at e; exact hr cur (Option.some.inj e))]; exact ho
theorem own_keep {w w' : World} {base n : Nat} {e : TypeId} {size : Nat} {v : Value} {xs : List Value} (h : w.ownsRow base e size v n xs) (hk : ∀ g, v.ownBlock = some g → w'.heap[g]? = w.heap[g]?) : w'.ownsRow base e size v n xs := by
  refine ⟨h.1, ?_⟩
  rcases h.2 with h2 | ⟨g, cap, cur, hv, h3, h4, h5⟩
  · exact .inl h2
  · refine .inr ⟨g, cap, cur, hv, h3, ?_, h5⟩
    rw [hk g (by rw [hv]; rfl)]
    exact h4
theorem own_ne {w : World} {base n : Nat} {e t : TypeId} {size : Nat} {v : Value} {xs : List Value} {b : Nat} {cs : Array Value} {fr : Nat × Nat} (h : w.ownsRow base e size v n xs) (hb : w.heap[b]? = some (.cells cs t fr)) (hne : e ≠ t ∨ fr ≠ (0, 0)) : v.ownBlock ≠ some b := by
  intro he
  rcases h.2 with ⟨rfl, _⟩ | ⟨g, cap, cur, hv, _, h4, _⟩
  · cases he
  · rw [hv] at he
    have : g = b := Option.some.inj he
    subst this
    rw [h4] at hb
    injection hb with hb
    injection hb with _ h1 h2
    rcases hne with hn | hn
    · exact hn h1
    · exact hn h2.symm
theorem own_set {w : World} {base n : Nat} {e t : TypeId} {size : Nat} {v : Value} {xs : List Value} {b : Nat} {cs : Array Value} {fr : Nat × Nat} (h : w.ownsRow base e size v n xs) (hb : w.heap[b]? = some (.cells cs t fr)) (hne : e ≠ t ∨ fr ≠ (0, 0)) (j : Nat) (u : Value) : (w.setCell ⟨b, j, none⟩ u).ownsRow base e size v n xs :=
  own_keep h fun g hg => Below.heap_setCell w ⟨b, j, none⟩ u g (fun e => own_ne h hb hne (by rw [hg, e]))
theorem KB.set {b : Nat} {w w' : World} (h : KB b w w') (j : Nat) (u : Value) : KB b w (w'.setCell ⟨b, j, none⟩ u) :=
  ⟨h.1.setCell (Nat.le_refl _) _, fun k hk hb hr => (Below.heap_setCell w' ⟨b, j, none⟩ u k hb).trans (h.2 k hk hb hr)⟩
theorem KB.drew {b : Nat} {w w' : World} (h : KB b w w') : KB b w w'.drew := ⟨h.1.drew, h.2⟩
theorem below_drewB {B : Nat} {w W : World} (h : Below B w W) (n : Nat) : Below B w (W.drewN n) := ⟨h.os, h.tape, h.output, h.size, h.block⟩
theorem KB.drewN {b : Nat} {w w' : World} (h : KB b w w') (n : Nat) : KB b w (w'.drewN n) := ⟨below_drewB h.1 n, h.2⟩
theorem KB.alloc {b : Nat} {w w' : World} (h : KB b w w') (hb : b < w.heap.size) (o : Obj) : KB b w (w'.alloc o) :=
  ⟨h.1.alloc (Nat.le_trans (Nat.le_of_lt hb) h.1.size) _, fun k hk hkb hr => (Below.heap_alloc w' o k (Nat.lt_of_lt_of_le hk h.1.size)).trans (h.2 k hk hkb hr)⟩
/-- The builder's own row has grown. -/
theorem KB.grown {b : Nat} {w w1 w2 : World} {v : Value} {n : Nat} {xs : List Value} (h : KB b w w1) (hb : b < w.heap.size) (hown : w1.ownsRow b 5 1 v n xs) (hg : w1.grownBy w2 v.ownBlock) : KB b w w2 :=
  ⟨h.1.grown hg (Nat.le_trans (Nat.le_of_lt hb) h.1.size) (own_base hown), fun k hk hkb hr => by
    have h1 := h.2 k hk hkb hr
    rw [hg.block k (Nat.lt_of_lt_of_le hk h.1.size) (fun e => ?_), h1]
    rcases hown.2 with ⟨rfl, _⟩ | ⟨g, cap, cur, hv, _, h4, _⟩
    · cases e
    · rw [hv] at e
      have : k = g := Option.some.inj e
      subst this
      exact hr cur (by rw [← h1]; exact h4)⟩
def used (p : Value) (b : Nat) : Prop := p = .pointer none ∨ p = .pointer (some ⟨b, 0, none⟩)
set_option maxHeartbeats 1000000 in
set_option maxRecDepth 100000 in
theorem check_calls (b : Nat) (p v : Value) (xs : List UInt8) (w : World) (h : BW b p v xs w) (hp : used p b) :
    Calls Try.prog 35 #[.pointer (some ⟨b, 0, none⟩)] w fun e w' => e = .returned (.tuple #[]) ∧ BW b (.pointer (some ⟨b, 0, none⟩)) v xs w' ∧ KB b w w' := by
  have hb0 : w.cell? ⟨b, 0, none⟩ = some p := (blk_cell h.1 0).trans rfl
  have hf0 := blk_frozen h.1 0
  have hsh : w.shape? b = some (52, 2) := by simp [World.shape?, h.1]
  obtain ⟨j, hj, hjs⟩ := Option.map_eq_some_iff.1 (show (Try.prog.info? 52).map (·.size) = some 2 by kernel_rfl)
  rcases hp with rfl | rfl
  · have H := Aside0.mk h
    clear h
    go_enter Try.func35, Try.ntmps35
    go_wp2
    rw [Lib.run_to_unsafe w ⟨b, 0, none⟩ Try.underlying49 Try.underlying76 hj (by rw [hjs]; decide) hsh (Nat.zero_lt_succ 1)]
    simp only [Result.andThen]
    rw [Oper.upon_value]
    go_wp2
    rw [run_callFunc_extern Try.func40 (by kernel_rfl) (by kernel_rfl) (by kernel_rfl) (e := Extern.AbiNoEscape.same) (by kernel_rfl)]
    rw [Lib.run_noEscape]
    simp only [Result.andThen]
    rw [Oper.upon_value]
    go_wp2
    rw [Lib.run_from_unsafe w ⟨b, 0, none⟩ Try.underlying76 Try.underlying49 hj hsh (by kernel_rfl)]
    simp only [Result.andThen]
    rw [Oper.upon_value]
    go_wp2
    exact bodyPost_end (results_none rfl _ _ _) rfl ⟨rfl, ⟨blk_put H.out.1 0 _ rfl, own_set H.out.2 H.out.1 (.inl (by decide)) 0 _⟩, (KB.refl b w).set 0 _⟩
  · have H := Aside0.mk h
    clear h
    go_enter Try.func35, Try.ntmps35
    go_wp2
    rw [Lib.run_neq_ptr_same w _ Try.underlying49 hj]
    go_wp2
    exact bodyPost_end (results_none rfl _ _ _) rfl ⟨rfl, H.out, KB.refl _ _⟩
set_option maxHeartbeats 2000000 in
theorem writeByte_calls (b : Nat) (p v : Value) (xs : List UInt8) (c : UInt8) (w : World) (h : BW b p v xs w) (hp : used p b) (hx : xs.length ≤ 100000000) :
    Calls Try.prog 24 #[.pointer (some ⟨b, 0, none⟩), .int .u8 c.toNat] w fun e w' => e = .returned .nilIface ∧ (∃ v', BW b (.pointer (some ⟨b, 0, none⟩)) v' (xs ++ [c]) w') ∧ KB b w w' := by
  have hck := check_calls b p v xs w h hp
  have hlt := blk_lt h.1
  clear h hp
  go_enter Try.func24, Try.ntmps24
  go_wp2_with fail
  refine hck.mono ?_
  rintro e w1 ⟨rfl, h1, hk1⟩
  have hb1 : w1.cell? ⟨b, 1, none⟩ = some v := (blk_cell h1.1 1).trans rfl
  obtain ⟨i0, hi0, hi1⟩ : ∃ i0, Try.prog.info? 5 = some i0 ∧ (i0.zero, i0.size, i0.bytes) = (some (.int .u8 0), 1, 1) := by
    have : (Try.prog.info? 5).map (fun i => (i.zero, i.size, i.bytes)) = some (some (.int .u8 0), 1, 1) := by kernel_rfl
    cases hx : Try.prog.info? 5 with
    | none => rw [hx] at this; cases this
    | some i => rw [hx] at this; exact ⟨i, rfl, Option.some.inj this⟩
  injection hi1 with e1 e23
  injection e23 with e2 e3
  have H1 := Aside0.mk h1
  have HK := Aside0.mk hk1
  have hlt1 := hk1.1.size
  have HL := Aside0.mk (Nat.lt_of_lt_of_le hlt hlt1)
  clear h1 hk1
  go_wp2_with (at_builtin; refine wpList_append_own _ rfl _ _ 50 rfl b 5 i0 (.int .u8 0) 1 1 Try.underlying50 hi0 e1 e2 e3 rfl (by decide) _ _ _ rfl (H1.out.2.alloc _) ⟨w1.heap.size, 0, none⟩ 1 1 [.int .u8 c.toNat] rfl rfl ?qc1 ?qc2 ?qc3 ?qc4 ?qc5 ?_)
  case qc1 =>
    intro j u hj
    match j, hj with
    | 0, hj => simp at hj; subst hj; simp [Addr.add]
  case qc2 => intro u hu; simp at hu; subst hu; rfl
  case qc3 => unfold maxLen; omega
  case qc4 => omega
  case qc5 => have := HL.out; simp; omega
  intro v' w2 hown hgrow hnil
  have HO := Aside0.mk (show w2.ownsRow b 5 1 v' (xs ++ [c]).length (Lib.byteCells (xs ++ [c])) from by simpa [Lib.byteCells] using hown)
  have HK2 := Aside0.mk ((HK.out.alloc hlt (.cells #[.int .u8 c.toNat] 5)).grown hlt (H1.out.2.alloc (.cells #[.int .u8 c.toNat] 5)) hgrow)
  have hbk : w2.heap[b]? = some (.cells #[.pointer (some ⟨b, 0, none⟩), v] 52 (0, 0)) := blk_grown (blk_alloc H1.out.1 _) hgrow (fun e => own_ne H1.out.2 H1.out.1 (.inl (by decide)) e.symm)
  have HD := Aside0.mk hbk
  have hb2 : w2.cell? ⟨b, 1, none⟩ = some v := (blk_cell hbk 1).trans rfl
  have hf2 : w2.frozen? ⟨b, 1, none⟩ = false := blk_frozen hbk 1
  clear hown hgrow hnil H1 HK hbk hb1
  obtain ⟨A', c', rfl⟩ : ∃ A' c', v' = .slice A' (xs.length + 1) c' := by
    rcases HO.out.2 with ⟨_, h0⟩ | ⟨g, cap, cur, hv, _⟩
    · simp at h0
    · exact ⟨some ⟨g, 0, none⟩, cap, by rw [hv]; simp⟩
  go_wp2_with fail
  go_ret
  exact ⟨rfl, ⟨_, blk_put HD.out 1 _ rfl, own_set HO.out HD.out (.inl (by decide)) 1 _⟩, HK2.out.set 1 _⟩
set_option maxHeartbeats 2000000 in
theorem writeStr_calls (b : Nat) (p v : Value) (xs : List UInt8) (s : ByteArray) (w : World) (h : BW b p v xs w) (hp : used p b) (hx : xs.length + s.size ≤ 100000000) :
    Calls Try.prog 25 #[.pointer (some ⟨b, 0, none⟩), .string s] w fun e w' => e = .returned (.tuple #[.int .i64 s.size, .nilIface]) ∧ (∃ v', BW b (.pointer (some ⟨b, 0, none⟩)) v' (xs ++ s.data.toList) w') ∧ KB b w w' := by
  have hck := check_calls b p v xs w h hp
  have hlt := blk_lt h.1
  clear h hp
  go_enter Try.func25, Try.ntmps25
  go_wp2_with fail
  refine hck.mono ?_
  rintro e w1 ⟨rfl, h1, hk1⟩
  have hb1 : w1.cell? ⟨b, 1, none⟩ = some v := (blk_cell h1.1 1).trans rfl
  obtain ⟨i0, hi0, hi1⟩ : ∃ i0, Try.prog.info? 5 = some i0 ∧ (i0.zero, i0.size, i0.bytes) = (some (.int .u8 0), 1, 1) := by
    have : (Try.prog.info? 5).map (fun i => (i.zero, i.size, i.bytes)) = some (some (.int .u8 0), 1, 1) := by kernel_rfl
    cases hx : Try.prog.info? 5 with
    | none => rw [hx] at this; cases this
    | some i => rw [hx] at this; exact ⟨i, rfl, Option.some.inj this⟩
  injection hi1 with e1 e23
  injection e23 with e2 e3
  have H1 := Aside0.mk h1
  have HK := Aside0.mk hk1
  have hlt1 := hk1.1.size
  have HL := Aside0.mk (Nat.lt_of_lt_of_le hlt hlt1)
  clear h1 hk1
  go_wp2_with (at_builtin; refine Lib.wpList_append_own_string _ rfl _ _ 50 9 rfl b 5 i0 Try.underlying50 Try.underlying9 hi0 e1 e2 e3 v xs.length (Lib.byteCells xs) rfl H1.out.2 s rfl ?qc1 ?qc2 ?qc3 ?_)
  case qc1 => unfold maxLen; omega
  case qc2 => omega
  case qc3 => have := HL.out; omega
  intro v' w2 hown hgrow hnil
  have hsz : (xs ++ s.data.toList).length = xs.length + s.size := by simp
  have HO := Aside0.mk (show w2.ownsRow b 5 1 v' (xs ++ s.data.toList).length (Lib.byteCells (xs ++ s.data.toList)) from by
    rw [hsz]
    have e : Lib.byteCells (xs ++ s.data.toList) = Lib.byteCells xs ++ Lib.strCells s := by simp [Lib.byteCells, Lib.strCells]
    rw [e]; exact hown)
  have HK2 := Aside0.mk (HK.out.grown hlt H1.out.2 hgrow)
  have hbk : w2.heap[b]? = some (.cells #[.pointer (some ⟨b, 0, none⟩), v] 52 (0, 0)) := blk_grown H1.out.1 hgrow (fun e => own_ne H1.out.2 H1.out.1 (.inl (by decide)) e.symm)
  have HD := Aside0.mk hbk
  have hb2 : w2.cell? ⟨b, 1, none⟩ = some v := (blk_cell hbk 1).trans rfl
  have hf2 : w2.frozen? ⟨b, 1, none⟩ = false := blk_frozen hbk 1
  clear hown hgrow hnil H1 HK hbk hb1 hsz
  obtain ⟨A', n', c', rfl⟩ : ∃ A' n' c', v' = .slice A' n' c' := by
    rcases HO.out.2 with ⟨hv, h0⟩ | ⟨g, cap, cur, hv, _⟩
    · exact ⟨_, _, _, hv⟩
    · exact ⟨_, _, _, hv⟩
  go_wp2_with fail
  refine bodyPost_ret (v := .tuple #[.int .i64 s.size, .nilIface]) (by simp [results, Try.results25, go_sem]) rfl ⟨rfl, ⟨_, blk_put HD.out 1 _ rfl, own_set HO.out HD.out (.inl (by decide)) 1 _⟩, HK2.out.set 1 _⟩
theorem string_calls (b : Nat) (p v : Value) (xs : List UInt8) (w : World) (h : BW b p v xs w) (hp : used p b) :
    Calls Try.prog 26 #[.pointer (some ⟨b, 0, none⟩)] w fun e w' => e = .returned (.string ⟨xs.toArray⟩) ∧ Below b w w' := by
  have hat : Lib.BuilderAt 52 5 b b p (Lib.byteCells xs) w := ⟨Nat.le_refl _, v, h.1, by rw [Lib.byteCells_length]; exact h.2, own_ne h.2 h.1 (.inl (by decide))⟩
  refine Try.Builder_String_any b b xs w ?_ (Nat.le_of_lt (blk_lt h.1))
  rcases hp with rfl | rfl
  · exact .inl hat
  · exact .inr hat
end Go.Proofs.Ytnnhpbghimjhiaa
