/- Steps of a region that draws its order, in short. -/
import Derived.Test.YtmglkgjnhoojaaatQ0
import Derived.Test.YtmglkgjnhoojaaatQ5
import Derived.Shelf.Abstract
import Derived.Test.YtmglkgjnhoojaaatQ2
import Derived.Lib.SliceRun
import Derived.Laws.AppendOwn
import Derived.Lib.Walk
import Derived.StillTailTactics
namespace Go.Proofs.Ytmglkgjnhoojaaa.PCodeRows
open Go.RowKit Go.Proofs.YtmglkgjnhoojaaaW.PrintWords Go.Proofs.YtmglkgjnhoojaaaW.PrintLast Go.Proofs.YtmglkgjnhoojaaaW.PrintMore
set_option linter.unusedVariables false
set_option linter.unusedSimpArgs false
/-- A row of truths, by a number. -/
def bz_ (n m : Nat) : Array Bool := ((List.range n).map fun i => m.testBit i).toArray
theorem cells5 {w : World} {g t : Nat} {a0 a1 a2 a3 a4 : Value} (h : w.heap[g]? = some (.cells #[a0, a1, a2, a3, a4] t (0, 0))) : w.cell? ⟨g, 0, none⟩ = some a0 ∧ w.cell? ⟨g, 1, none⟩ = some a1 ∧ w.cell? ⟨g, 2, none⟩ = some a2 ∧ w.cell? ⟨g, 3, none⟩ = some a3 ∧ w.cell? ⟨g, 4, none⟩ = some a4 :=
  ⟨(blk_cell h 0).trans rfl, (blk_cell h 1).trans rfl, (blk_cell h 2).trans rfl, (blk_cell h 3).trans rfl, (blk_cell h 4).trans rfl⟩
theorem frozen5 {w : World} {g t : Nat} {cs : Array Value} (h : w.heap[g]? = some (.cells cs t (0, 0))) : w.frozen? ⟨g, 0, none⟩ = false ∧ w.frozen? ⟨g, 1, none⟩ = false ∧ w.frozen? ⟨g, 2, none⟩ = false ∧ w.frozen? ⟨g, 3, none⟩ = false ∧ w.frozen? ⟨g, 4, none⟩ = false :=
  ⟨blk_frozen h 0, blk_frozen h 1, blk_frozen h 2, blk_frozen h 3, blk_frozen h 4⟩
section
variable {P : Program} {ops : Array Oper} {Q : Exit → Act → World → Prop} {S : World → Prop} {ds : List Nat} {T : Bool × List (List Nat × List Nat)} {fuel : Nat} {l : Array Bool} {a a' : Act} {w : World} {oi : Oper} {v : Value}
theorem pu_ (i : Nat) (N : Option Tmp) (l' : Array Bool) (HT : Aside0 (rtab .any ops = T)) (hi : ops[i]? = some oi) (hN : oi.dst = N) (hc : anyT T l.toList l'.toList i = true) (hQ : ∀ c a w, Q (.panic c) (a.put oi.dst v) w → Q (.panic c) a w) (hw : Region.wanted oi (yielded ops a.tmps) = true) (hr : ∀ w, (execOp a.eval oi).run P w = .ok (.value v) w) (ha : a.put N v = a')
    (h : wpAnyLast P .any ops Q S ds fuel l' a' w) : wpAnyLast P .any ops Q S ds (fuel + 1) l a w := pure_ l' hi hN (any_of HT.out hc) hQ (.inl ⟨hw, hr⟩) ha h
theorem sk_ (i : Nat) (N : Option Tmp) (l' : Array Bool) (HT : Aside0 (rtab .any ops = T)) (hi : ops[i]? = some oi) (hN : oi.dst = N) (hc : anyT T l.toList l'.toList i = true) (hQ : ∀ c a w, Q (.panic c) (a.put oi.dst undef) w → Q (.panic c) a w) (hw : Region.wanted oi (yielded ops a.tmps) = false) (ha : a.put N undef = a')
    (h : wpAnyLast P .any ops Q S ds fuel l' a' w) : wpAnyLast P .any ops Q S ds (fuel + 1) l a w := pure_ l' hi hN (any_of HT.out hc) hQ (.inr ⟨hw, rfl⟩) ha h
theorem tk_ (i : Nat) (N : Option Tmp) (l' : Array Bool) (HT : Aside0 (rtab .any ops = T)) (hS : S w) (hi : ops[i]? = some oi) (hN : oi.dst = N) (hc : takeT T ds l.toList l'.toList i = true) (hQ : ∀ c a w, Q (.panic c) (a.put oi.dst v) w → Q (.panic c) a w) (hw : Region.wanted oi (yielded ops a.tmps) = true) (hr : ∀ w, S w → (execOp a.eval oi).run P w = .ok (.value v) w) (ha : a.put N v = a')
    (h : wpAnyLast P .any ops Q S ds fuel l' a' w) : wpAnyLast P .any ops Q S ds (fuel + 1) l a w := take_ l' hi hN (take_of HT.out hc) hQ (.inl ⟨hw, hr⟩) hS ha h
end
end Go.Proofs.Ytmglkgjnhoojaaa.PCodeRows
/- code.are: whether each number is that of an instruction of one of the kinds; walked: the closure, slices.IndexFunc, slices.ContainsFunc, slices.Contains. -/
namespace Go.Proofs.Ytmglkgjnhoojaaa.PCodeRows
open Go.RowKit Go.Proofs.YtmglkgjnhoojaaaW.PrintWords Go.Proofs.YtmglkgjnhoojaaaW.PrintLast Go.Proofs.YtmglkgjnhoojaaaW.PrintMore
set_option linter.unusedVariables false
set_option linter.unusedSimpArgs false

def isOf (code : List S37) (ks : List Int) (n : Int) : Bool := decide (0 ≤ n) && (decide (n < code.length) && decide ((rd_T37 code n).f0 ∈ ks))
def areP (code : List S37) (l ks : List Int) : Bool := l.all (isOf code ks)

theorem index_f (l : List Int) (x : Int) (hl : l.length ≤ 9223372036854775807) : ∀ m i : Nat, i + m = l.length → ∃ r, slices_Index_int_int.l0 (m + 1) l x (l.length : Int) (i : Int) = some r ∧ (0 ≤ r ↔ x ∈ l.drop i) := by
  intro m
  induction m with
  | zero =>
    intro i hi
    refine ⟨-1, ?_, ?_⟩
    · simp only [slices_Index_int_int.l0]
      rw [if_neg (by omega)]
    · rw [List.drop_eq_nil_of_le (by omega)]
      simp
  | succ m ih =>
    intro i hi
    have h1 : i < l.length := by omega
    have hr : rd l (i : Int) = l[i] := by simp [rd, List.getD_eq_getElem?_getD, h1]
    have hd := List.drop_eq_getElem_cons h1
    rw [hd]
    unfold slices_Index_int_int.l0
    rw [if_pos (by omega), if_pos (by omega), if_pos (by omega), hr]
    by_cases hx : x = l[i]
    · rw [if_pos hx]
      exact ⟨i, rfl, by rw [List.mem_cons]; exact ⟨fun _ => .inl hx, fun _ => by omega⟩⟩
    · rw [if_neg hx]
      obtain ⟨r, h2, h3⟩ := ih (i + 1) (by omega)
      have hw : wrap64 ((i : Int) + 1) = ((i + 1 : Nat) : Int) := by
        have : wrap64 ((i : Int) + 1) = (i : Int) + 1 := IntWalk.wrap64_in _ ⟨by omega, by omega⟩
        rw [this]; omega
      refine ⟨r, by rw [hw]; exact h2, ?_⟩
      rw [h3, List.mem_cons]
      exact ⟨.inr, fun h => h.resolve_left hx⟩
theorem contains_calls (A : Option Addr) (c : Nat) (l : List Int) (x : Int) (w : World) (hr : Kd.C (Kd.int .i64) w A l.length l) (hc : l.length ≤ c) :
    Calls Try.prog 34 #[.slice A l.length c, .int .i64 x] w fun e w' => e = .returned (.bool (decide (x ∈ l))) ∧ Drawn0 w w' := by
  obtain ⟨r, h1, h2⟩ := index_f l x hr.2.1 l.length 0 (by omega)
  refine slices_Contains_int_int.calls (l.length + 1) A c l x _ w hr hc ?_
  have h3 : slices_Index_int_int.f (l.length + 1) l x = some r := h1
  unfold slices_Contains_int_int.f
  rw [h3]
  rw [List.drop_zero] at h2
  show some (decide (r ≥ 0)) = _
  congr 1
  exact decide_eq_decide.2 h2

set_option maxHeartbeats 2000000 in
theorem are1_calls (d kb : Nat) (A0 : Option Addr) (c0 : Nat) (code : List S37) (v1 v2 v3 v4 : Value) (A : Option Addr) (c : Nat) (ks : List Int) (x : Int) (w : World)
    (hd : w.heap[d]? = some (.cells #[.slice A0 code.length c0, v1, v2, v3, v4] 26 (0, 0))) (hk : w.heap[kb]? = some (.cells #[.slice A ks.length c] 23 (0, 0)))
    (h0 : Kd.C k37 w A0 code.length code) (hr : Kd.C (Kd.int .i64) w A ks.length ks) (hc : ks.length ≤ c) :
    Calls Try.prog 43 #[.int .i64 x, .pointer (some ⟨d, 0, none⟩), .pointer (some ⟨kb, 0, none⟩)] w fun e w' => e = .returned (.bool (!isOf code ks x)) ∧ Below w.heap.size w w' := by
  have hd0 : w.cell? ⟨d, 0, none⟩ = some (.slice A0 code.length c0) := (blk_cell hd 0).trans rfl
  have hk0 : w.cell? ⟨kb, 0, none⟩ = some (.slice A ks.length c) := (blk_cell hk 0).trans rfl
  by_cases p0 : x < 0
  · have hx : isOf code ks x = false := by simp [isOf]; omega
    rw [hx]
    have q0 := decide_eq_true p0
    go_enter Try.func43, Try.ntmps43
    go_wp2_with fail
    go_quiet (fail)
    go_wp2
    go_ret
    exact ⟨rfl, pw_below_drewN (Below.refl _ _) _⟩
  · have q0 := decide_eq_false p0
    by_cases p1 : (code.length : Int) ≤ x
    · have hx : isOf code ks x = false := by simp [isOf]; omega
      rw [hx]
      have q1 := decide_eq_true p1
      go_enter Try.func43, Try.ntmps43
      go_wp2_with fail
      go_quiet (fail)
      go_wp2
      go_ret
      exact ⟨rfl, pw_below_drewN (Below.refl _ _) _⟩
    · have hx : isOf code ks x = decide ((rd_T37 code x).f0 ∈ ks) := by
        have h1 : 0 ≤ x := by omega
        have h2 : x < (code.length : Int) := by omega
        simp [isOf, h1, h2]
      rw [hx]
      have q1 := decide_eq_false p1
      obtain ⟨ad, e, g0, g1⟩ := at_T37 h0 x (by omega) (by omega)
      cases e
      have p2 : (0 ≤ x) = True := eq_true (by omega)
      have p3 : (x < (code.length : Int)) = True := eq_true (by omega)
      have hcon := fun n => contains_calls A c ks (rd_T37 code x).f0 (w.drewN n) (Kd.C_drewN hr n) hc
      generalize decide ((rd_T37 code x).f0 ∈ ks) = b at hcon ⊢
      go_enter Try.func43, Try.ntmps43
      go_wp2_with fail
      go_quiet ((go_at_call 34; refine (hcon _).mono ?_; rintro e w' ⟨rfl, ⟨n, rfl⟩⟩; exact ⟨rfl, _, World.drewN_drewN _ _ _⟩))
      go_wp2
      go_ret
      exact ⟨by cases b <;> rfl, pw_below_drewN (Below.refl _ _) _⟩

set_option maxHeartbeats 2000000 in
theorem indexFunc_calls (d kb : Nat) (p : Int → Bool) (A : Option Addr) (c : Nat) (l : List Int) (w : World)
    (hr : Kd.C (Kd.int .i64) w A l.length l)
    (hp : ∀ W x, Below w.heap.size w W → Calls Try.prog 43 #[.int .i64 x, .pointer (some ⟨d, 0, none⟩), .pointer (some ⟨kb, 0, none⟩)] W fun e w' => e = .returned (.bool (p x)) ∧ Below W.heap.size W w') :
    Calls Try.prog 46 #[.slice A l.length c, .func (.func 43) #[] #[.pointer (some ⟨d, 0, none⟩), .pointer (some ⟨kb, 0, none⟩)]] w fun e w' => ∃ r, e = .returned (.int .i64 r) ∧ (0 ≤ r ↔ ∃ x, x ∈ l ∧ p x = true) ∧ Below w.heap.size w w' := by
  have hl : l.length ≤ 9223372036854775807 := hr.2.1
  have eg : ∀ args w, (callFunc 43 args).run Try.prog w = .ok (.enter 43 args) w := enters_of Try.func43 (by kernel_rfl) rfl
  go_enter Try.func46, Try.ntmps46
  go_wp2
  go_loopg [5, 8] l.length (fun gg _ s8 wr => ∃ kk : Nat, kk ≤ l.length ∧ l.length - kk ≤ gg ∧ s8 = .int .i64 kk ∧ Aside0 (Below w.heap.size w wr) ∧ Aside0 (∀ j, j < kk → ∀ y, l[j]? = some y → p y = false))
  case atStart => exact ⟨0, Nat.zero_le _, by omega, rfl, ⟨Below.refl _ _⟩, ⟨fun j hj => absurd hj (Nat.not_lt_zero _)⟩⟩
  case round =>
    obtain ⟨kk, hkk, hg, rfl, HB, A1⟩ := hrel
    by_cases hlt : kk < l.length
    · have hltz : (kk : Int) < (l.length : Int) := by omega
      obtain ⟨ad, e, g0⟩ := Kd.at_int hr (kk : Int) (by omega) hltz
      cases e
      have g1 := (HB.out.cell (World.block_lt_of_cell? w _ g0)).trans g0
      have hrd : l[kk]? = some (rd l (kk : Int)) := by simp [rd, List.getD_eq_getElem?_getD, hlt]
      rw [Int.toNat_natCast] at g1
      have HC := hp
      generalize hy : rd l (kk : Int) = y at g0 g1 hrd
      have hcon : ∀ W, Below w.heap.size w W → Calls Try.prog 43 #[.int .i64 y, .pointer (some ⟨d, 0, none⟩), .pointer (some ⟨kb, 0, none⟩)] W fun e w' => e = .returned (.bool (p y)) ∧ Below W.heap.size W w' := fun W hW => hp W y hW
      clear hp HC
      have p2 : (0 ≤ (kk : Int)) = True := eq_true (by omega)
      have p3 : ((kk : Int) < (l.length : Int)) = True := eq_true (by omega)
      cases hq : p y with
      | true =>
        rw [hq] at hcon
        go_wp2_with (go_at_fn 43; refine (hcon _ HB.out).mono ?_; rintro e w' ⟨rfl, hb⟩)
        go_ret
        refine ⟨kk, rfl, ?_, HB.out.trans (hb.mono HB.out.size)⟩
        constructor
        · intro _
          exact ⟨y, List.mem_of_getElem? hrd, hq⟩
        · intro _; omega
      | false =>
        rw [hq] at hcon
        go_wp2_with (go_at_fn 43; refine (hcon _ HB.out).mono ?_; rintro e w' ⟨rfl, hb⟩)
        go_roundg (l.length - (kk + 1))
        case measure => omega
        case rel =>
          refine ⟨kk + 1, by omega, by omega, by go_num, ⟨HB.out.trans (hb.mono HB.out.size)⟩, ⟨fun j hj z hz => ?_⟩⟩
          by_cases e : j = kk
          · subst e
            rw [hrd] at hz
            cases hz
            exact hq
          · exact A1.out j (by omega) z hz
    · have hltz : ¬ (kk : Int) < (l.length : Int) := by omega
      have : kk = l.length := by omega
      subst this
      go_wp2
      go_ret
      refine ⟨-1, rfl, ?_, HB.out⟩
      constructor
      · intro h; omega
      · intro h
        obtain ⟨x, hx, hpx⟩ := h
        obtain ⟨j, hj, rfl⟩ := List.getElem_of_mem hx
        rw [A1.out j hj _ (List.getElem?_eq_getElem hj)] at hpx
        cases hpx

theorem containsFunc_calls (d kb : Nat) (p : Int → Bool) (A : Option Addr) (c : Nat) (l : List Int) (w : World)
    (hr : Kd.C (Kd.int .i64) w A l.length l)
    (hp : ∀ W x, Below w.heap.size w W → Calls Try.prog 43 #[.int .i64 x, .pointer (some ⟨d, 0, none⟩), .pointer (some ⟨kb, 0, none⟩)] W fun e w' => e = .returned (.bool (p x)) ∧ Below W.heap.size W w') :
    Calls Try.prog 42 #[.slice A l.length c, .func (.func 43) #[] #[.pointer (some ⟨d, 0, none⟩), .pointer (some ⟨kb, 0, none⟩)]] w fun e w' => e = .returned (.bool (l.any p)) ∧ Below w.heap.size w w' := by
  have hcon := indexFunc_calls d kb p A c l w hr hp
  have hb : ∀ r : Int, (0 ≤ r ↔ ∃ x, x ∈ l ∧ p x = true) → decide (r ≥ 0) = l.any p := fun r h => by
    rw [← List.any_eq_true] at h
    cases hx : l.any p <;> rw [hx] at h
    · exact decide_eq_false (fun h2 => by simpa using h.1 h2)
    · exact decide_eq_true (h.2 rfl)
  generalize l.any p = b at hb ⊢
  clear hp hr
  go_enter Try.func42, Try.ntmps42
  go_wp2_with (go_at_call 46; refine hcon.mono ?_; rintro e w' ⟨r, rfl, h1, hbb⟩; have h1' := hb r h1; clear h1 hb)
  go_ret
  exact ⟨by rw [← h1']; rfl, hbb⟩

/-- A draft that is read: its five slices. -/
structure DrC (w : World) (A0 A1 A2 A3 A4 : Option Addr) (c0 c1 c2 c3 c4 : Nat) (code : List S37) (origs dests : List Int) (loops cases : List S59) : Prop where
  r0 : Kd.C k37 w A0 code.length code
  r1 : Kd.C (Kd.int .i64) w A1 origs.length origs
  r2 : Kd.C (Kd.int .i64) w A2 dests.length dests
  r3 : Kd.C k59 w A3 loops.length loops
  r4 : Kd.C k59 w A4 cases.length cases
  l0 : code.length ≤ c0
  l1 : origs.length ≤ c1
  l2 : dests.length ≤ c2
  l3 : loops.length ≤ c3
  l4 : cases.length ≤ c4
abbrev drV (A0 A1 A2 A3 A4 : Option Addr) (c0 c1 c2 c3 c4 n0 n1 n2 n3 n4 : Nat) : Value := .agg #[.slice A0 n0 c0, .slice A1 n1 c1, .slice A2 n2 c2, .slice A3 n3 c3, .slice A4 n4 c4]

set_option maxHeartbeats 2000000 in
theorem are_calls (A0 A1 A2 A3 A4 : Option Addr) (c0 c1 c2 c3 c4 : Nat) (code : List S37) (v1 v2 v3 v4 : Value) (B : Option Addr) (b : Nat) (l : List Int) (K : Option Addr) (k : Nat) (ks : List Int) (w : World) (h0 : Kd.C k37 w A0 code.length code)
    (hr : Kd.C (Kd.int .i64) w B l.length l) (hk : Kd.C (Kd.int .i64) w K ks.length ks) (hkk : ks.length ≤ k) :
    Calls Try.prog 29 #[.agg #[.slice A0 code.length c0, v1, v2, v3, v4], .slice B l.length b, .slice K ks.length k] w fun e w' => e = .returned (.bool (areP code l ks)) ∧ Below w.heap.size w w' := by
  go_enter Try.func29, Try.ntmps29
  go_wp2_with fail
  have hd : ((w.alloc (Obj.cells #[Value.slice A0 code.length c0, v1, v2, v3, v4] 26)).alloc (Obj.cells #[Value.slice K ks.length k] 23)).heap[w.heap.size]? = some (.cells #[Value.slice A0 code.length c0, v1, v2, v3, v4] 26 (0, 0)) := blk_alloc (blk_new w _) _
  have hkb : ((w.alloc (Obj.cells #[Value.slice A0 code.length c0, v1, v2, v3, v4] 26)).alloc (Obj.cells #[Value.slice K ks.length k] 23)).heap[w.heap.size + 1]? = some (.cells #[Value.slice K ks.length k] 23 (0, 0)) := by
    have := blk_new (w.alloc (Obj.cells #[Value.slice A0 code.length c0, v1, v2, v3, v4] 26)) (Obj.cells #[Value.slice K ks.length k] 23)
    simpa using this
  refine (containsFunc_calls w.heap.size (w.heap.size + 1) (fun x => !isOf code ks x) B b l _ (Kd.C_alloc (Kd.C_alloc hr _) _) ?_).mono ?_
  · intro W x hb
    exact are1_calls w.heap.size (w.heap.size + 1) A0 c0 code v1 v2 v3 v4 K k ks x W (blk_below hd hb) (blk_below hkb hb) (Kd.C_below (Kd.C_alloc (Kd.C_alloc h0 _) _) hb) (Kd.C_below (Kd.C_alloc (Kd.C_alloc hk _) _) hb) hkk
  · rintro e w' ⟨rfl, hb⟩
    have hB : Below w.heap.size w w' := (below_alloc (below_alloc (Below.refl _ _) _) _).trans (hb.mono (by simp; omega))
    have hx : (!(l.any fun x => !isOf code ks x)) = areP code l ks := by
      simp [areP, List.all_eq_not_any_not]
    generalize (l.any fun x => !isOf code ks x) = r at hx ⊢
    clear hd hkb hb h0 hr hk
    go_wp2
    go_ret
    exact ⟨by rw [← hx]; rfl, hB⟩

theorem pw_below_drewN' {B : Nat} {w W : World} (h : Below B w W) (n : Nat) : Below B w (W.drewN n) := ⟨h.os, h.tape, h.output, h.size, h.block⟩
theorem ret_bool {a b : Bool} (h : a = b) : Ending.returned (.bool a) = .returned (.bool b) := by rw [h]
theorem cell_new (w : World) (cs : Array Value) (t i : Nat) : (w.alloc (.cells cs t)).cell? ⟨w.heap.size, i, none⟩ = cs[i]? := blk_cell (blk_new w _) i
theorem C_new1 (w : World) (a : Int) {k : Nat} (hk : k = w.heap.size) : (Kd.int .i64).C (w.alloc (.cells #[.int .i64 a] 3)) (some ⟨k, 0, none⟩) 1 [a] := by
  subst hk
  exact Kd.C_of_reads (d := 0) ⟨rfl, by decide, fun _ => ⟨_, rfl, fun j hj => by
    have : j = 0 := by omega
    subst this
    exact (cell_new w _ 3 0).trans rfl⟩⟩
theorem C_new2 (w : World) (a b : Int) {k : Nat} (hk : k = w.heap.size) : (Kd.int .i64).C (w.alloc (.cells #[.int .i64 a, .int .i64 b] 3)) (some ⟨k, 0, none⟩) 2 [a, b] := by
  subst hk
  exact Kd.C_of_reads (d := 0) ⟨rfl, by decide, fun _ => ⟨_, rfl, fun j hj => by
    match j, hj with
    | 0, _ => exact (cell_new w _ 3 0).trans rfl
    | 1, _ => exact (cell_new w _ 3 1).trans rfl⟩⟩
end Go.Proofs.Ytmglkgjnhoojaaa.PCodeRows
/- The reference's kind and all: what they answer. -/
namespace Go.Proofs.Ytmglkgjnhoojaaa.PCodeRows
open Go.RowKit Go.Proofs.YtmglkgjnhoojaaaW.PrintWords Go.Proofs.YtmglkgjnhoojaaaW.PrintLast Go.Proofs.YtmglkgjnhoojaaaW.PrintMore
set_option linter.unusedVariables false
set_option linter.unusedSimpArgs false
def kindOf (code : List S37) (n : Int) : Int := if 0 ≤ n ∧ n < code.length then (rd_T37 code n).f0 else 0
theorem kind_f (code : List S37) (a b : List Int) (c d : List S59) (n : Int) : tinderref10_kind.f code a b c d n = some (kindOf code n) := by
  unfold tinderref10_kind.f kindOf
  by_cases h0 : n < 0
  · rw [if_pos h0, if_neg (by omega)]
  · rw [if_neg h0]
    by_cases h1 : n ≥ (code.length : Int)
    · rw [if_pos h1, if_neg (by omega)]
    · rw [if_neg h1, if_pos (by omega), if_pos (by omega), if_pos (by omega)]
theorem isOf_kind (code : List S37) (ks : List Int) (h : (0 : Int) ∉ ks) (n : Int) : isOf code ks n = decide (kindOf code n ∈ ks) := by
  unfold isOf kindOf
  by_cases h0 : 0 ≤ n <;> by_cases h1 : n < (code.length : Int) <;> simp [h0, h1, h]
def allK (code : List S37) (l : List Int) (k : Int) : Bool := l.all fun n => decide (kindOf code n = k)
theorem all_f (code : List S37) (o b : List Int) (c d : List S59) (l : List Int) (k : Int) (hl : l.length ≤ 9223372036854775807) : ∀ m i : Nat, i + m = l.length → tinderref10_all.l0 (m + 1) l k (i : Int) code o b c d = some (allK code (l.drop i) k) := by
  intro m
  induction m with
  | zero =>
    intro i hi
    rw [List.drop_eq_nil_of_le (by omega)]
    simp only [tinderref10_all.l0]
    rw [if_neg (by omega)]
    rfl
  | succ m ih =>
    intro i hi
    have h1 : i < l.length := by omega
    have hr : rd l (i : Int) = l[i] := by simp [rd, List.getD_eq_getElem?_getD, h1]
    have hd := List.drop_eq_getElem_cons h1
    rw [hd]
    unfold tinderref10_all.l0
    rw [if_pos (by omega), if_pos (by omega), hr, kind_f, Option.bind_some]
    have hw : wrap64 ((i : Int) + 1) = ((i + 1 : Nat) : Int) := by
      have : wrap64 ((i : Int) + 1) = (i : Int) + 1 := IntWalk.wrap64_in _ ⟨by omega, by omega⟩
      rw [this]; omega
    unfold allK at ih ⊢
    rw [List.all_cons]
    by_cases hx : kindOf code l[i] = k
    · rw [if_pos hx, hw, ih (i + 1) (by omega), decide_eq_true hx, Bool.true_and]
    · rw [if_neg hx, decide_eq_false hx, Bool.false_and]
theorem all_areP (code : List S37) (l : List Int) (k : Int) (hk : k ≠ 0) : allK code l k = areP code l [k] := by
  unfold allK areP
  congr 1
  funext n
  rw [isOf_kind code [k] (by simp; omega)]
  simp
theorem kind_calls (A0 A1 A2 A3 A4 : Option Addr) (c0 c1 c2 c3 c4 : Nat) (code : List S37) (origs dests : List Int) (loops cases : List S59) (w : World)
    (h : DrC w A0 A1 A2 A3 A4 c0 c1 c2 c3 c4 code origs dests loops cases) (n : Int) :
    Calls Try.prog 30 #[drV A0 A1 A2 A3 A4 c0 c1 c2 c3 c4 code.length origs.length dests.length loops.length cases.length, .int .i64 n] w fun e w' => e = .returned (.int .i64 (kindOf code n)) ∧ Below w.heap.size w w' :=
  tinderref10_kind.calls A0 c0 code A1 c1 origs A2 c2 dests A3 c3 loops A4 c4 cases n _ w h.r0 h.l0 h.r1 h.l1 h.r2 h.l2 h.r3 h.l3 h.r4 h.l4 (kind_f _ _ _ _ _ _)
theorem all_calls (A0 A1 A2 A3 A4 : Option Addr) (c0 c1 c2 c3 c4 : Nat) (code : List S37) (origs dests : List Int) (loops cases : List S59) (w : World)
    (h : DrC w A0 A1 A2 A3 A4 c0 c1 c2 c3 c4 code origs dests loops cases) (B : Option Addr) (cB : Nat) (l : List Int) (k : Int) (hk : k ≠ 0) (hB : Kd.C (Kd.int .i64) w B l.length l) (hcB : l.length ≤ cB) :
    Calls Try.prog 31 #[drV A0 A1 A2 A3 A4 c0 c1 c2 c3 c4 code.length origs.length dests.length loops.length cases.length, .slice B l.length cB, .int .i64 k] w fun e w' => e = .returned (.bool (areP code l [k])) ∧ Below w.heap.size w w' :=
  tinderref10_all.calls (l.length + 1) A0 c0 code A1 c1 origs A2 c2 dests A3 c3 loops A4 c4 cases B cB l k _ w h.r0 h.l0 h.r1 h.l1 h.r2 h.l2 h.r3 h.l3 h.r4 h.l4 hB hcB (by
    rw [← all_areP code l k hk]
    have := all_f code origs dests loops cases l k hB.2.1 l.length 0 (by omega)
    rw [List.drop_zero] at this
    exact this)
theorem DrC.below {w w' : World} {A0 A1 A2 A3 A4 : Option Addr} {c0 c1 c2 c3 c4 : Nat} {code : List S37} {origs dests : List Int} {loops cases : List S59}
    (h : DrC w A0 A1 A2 A3 A4 c0 c1 c2 c3 c4 code origs dests loops cases) (hb : Below w.heap.size w w') : DrC w' A0 A1 A2 A3 A4 c0 c1 c2 c3 c4 code origs dests loops cases :=
  ⟨Kd.C_below h.r0 hb, Kd.C_below h.r1 hb, Kd.C_below h.r2 hb, Kd.C_below h.r3 hb, Kd.C_below h.r4 hb, h.l0, h.l1, h.l2, h.l3, h.l4⟩
end Go.Proofs.Ytmglkgjnhoojaaa.PCodeRows
/- slices.Clone at the three element types of this program, walked: a row of the call's own, of the same cells. -/
namespace Go.Proofs.Ytmglkgjnhoojaaa.PCodeRows
open Go.RowKit Go.Proofs.YtmglkgjnhoojaaaW.PrintWords Go.Proofs.YtmglkgjnhoojaaaW.PrintLast Go.Proofs.YtmglkgjnhoojaaaW.PrintMore
set_option linter.unusedVariables false
set_option linter.unusedSimpArgs false
/-- A row that is read: its cells in line. -/
theorem C_inner {α : Type} {d : Kd α} {w : World} {ad : Addr} {xs : List α} (h : d.C w (some ad) xs.length xs) :
    ∃ inner, Reps (d.K w) d.sz xs inner ∧ ∀ j u, inner[j]? = some u → w.cell? (ad.add j) = some u := by
  have key : ∀ m, m ≤ xs.length → ∃ inner, Reps (d.K w) d.sz (xs.take m) inner ∧ ∀ j u, inner[j]? = some u → w.cell? (ad.add j) = some u := by
    intro m
    induction m with
    | zero => exact fun _ => ⟨[], by rw [List.take_zero]; exact Reps.none _ _, fun j u hu => by simp at hu⟩
    | succ m ih =>
      intro hm
      obtain ⟨inner, hI, hc⟩ := ih (by omega)
      obtain ⟨ad', e, hcell⟩ := h.2.2 (by omega)
      cases e
      obtain ⟨c, hs, hK, hu⟩ := hcell m xs[m] (List.getElem?_eq_getElem (by omega))
      refine ⟨inner ++ c, ?_, ?_⟩
      · rw [List.take_add_one, List.getElem?_eq_getElem (by omega)]
        exact hI.snoc hK hs
      · intro j u hj
        have hl : inner.length = m * d.sz := by rw [hI.1, List.length_take, Nat.min_eq_left (by omega)]
        rcases Nat.lt_or_ge j inner.length with h1 | h1
        · rw [List.getElem?_append_left h1] at hj
          exact hc j u hj
        · rw [List.getElem?_append_right h1] at hj
          have := hu (j - inner.length) u hj
          rw [hl] at this
          rwa [Nat.add_sub_cancel' (by omega)] at this
  obtain ⟨inner, h1, h2⟩ := key xs.length (Nat.le_refl _)
  rw [List.take_length] at h1
  exact ⟨inner, h1, h2⟩
theorem reps_one {α : Type} {d : Kd α} {w : World} {xs : List α} {inner : List Value} (h : Reps (d.K w) d.sz xs inner) (h0 : 0 < d.sz) : ∀ u ∈ inner, u.oneCell' = true := by
  intro u hu
  obtain ⟨j, hj, rfl⟩ := List.getElem_of_mem hu
  have hl := h.1
  have hq : j / d.sz < xs.length := Nat.div_lt_of_lt_mul (by rw [Nat.mul_comm, ← hl]; exact hj)
  have hk := h.2 (j / d.sz) _ (List.getElem?_eq_getElem hq)
  refine d.K_one hk _ ?_
  have hm : j % d.sz < d.sz := Nat.mod_lt _ h0
  have he : j = j / d.sz * d.sz + j % d.sz := by rw [Nat.mul_comm]; exact (Nat.div_add_mod _ _).symm
  rw [List.mem_iff_getElem?]
  refine ⟨j % d.sz, ?_⟩
  rw [List.getElem?_take_of_lt hm, List.getElem?_drop, ← he, List.getElem?_eq_getElem hj]
abbrev Cloned {α : Type} (d : Kd α) (t : Nat) (l : List α) (w : World) (v : Value) (w' : World) : Prop := OwnRow (d.K w) t d.sz w' w.heap.size v l ∧ Below w.heap.size w w'
set_option maxHeartbeats 2000000 in
theorem clone36_calls (A : Option Addr) (c : Nat) (l : List S37) (w : World) (hr : Kd.C k37 w A l.length l) (hb : l.length * 16 ≤ 140737488355328) :
    Calls Try.prog 36 #[.slice A l.length c] w fun e w' => ∃ v, e = .returned v ∧ Cloned k37 37 l w v w' := by
  have q22 : ∀ (w : World) (a : Option Addr) (n c n' c' : Nat), (binOp .eql 22 (.slice a n c) (.slice none n' c')).run Try.prog w = .ok (.bool a.isNone) w := fun w a n c n' c' => Lib.run_eql_slice_nil w _ _ a n c n' c' Try.underlying22
  cases A with
  | none =>
    have h0 : l = [] := by
      cases l with
      | nil => rfl
      | cons x xs =>
        obtain ⟨ad, e, _⟩ := hr.2.2 (by simp)
        cases e
    subst h0
    go_enter Try.func36, Try.ntmps36
    go_wp2
    go_ret
    exact ⟨_, rfl, OwnRow.none_ _ _ _ _ _, Below.refl _ _⟩
  | some ad =>
    obtain ⟨inner, hI, hc⟩ := C_inner hr
    have h1 := reps_one hI (by decide)
    have HI := Aside0.mk hI
    have HC := Aside0.mk hc
    have H1 := Aside0.mk h1
    have hlen := hr.2.1
    clear hI hc h1 hr
    obtain ⟨i0, hi0, hi1⟩ : ∃ i0, Try.prog.info? 37 = some i0 ∧ (i0.zero, i0.size, i0.bytes) = (some (.agg #[(.int .i64 0), (.int .u32 0)]), 2, 16) := by
      have := info37
      cases hx : Try.prog.info? 37 with
      | none => rw [hx] at this; cases this
      | some i => rw [hx] at this; exact ⟨i, rfl, Option.some.inj this⟩
    injection hi1 with e1 e23
    injection e23 with e2 e3
    go_enter Try.func36, Try.ntmps36
    go_wp2_with (at_builtin; refine wpList_append_own _ rfl _ _ 22 rfl w.heap.size 37 i0 (.agg #[(.int .i64 0), (.int .u32 0)]) 2 16 Try.underlying22 hi0 e1 e2 e3 rfl (by decide) _ _ _ rfl (World.ownsRow_made w #[] 0 (Nat.le_refl _) (Nat.zero_le _) (by simp)) ad l.length c inner rfl ?qc1 ?qc2 ?qc3 ?qc4 ?qc5 ?qc6 ?_)
    case qc1 => exact HI.out.1
    case qc2 => exact fun j u hj => Lib.cell?_alloc_some _ (HC.out j u hj)
    case qc3 => exact H1.out
    case qc4 => rw [Nat.zero_add]; unfold maxLen; omega
    case qc5 => rw [Nat.zero_add]; exact hb
    case qc6 => simp
    intro v' w1 hown hgrow hnil
    go_wp2
    go_ret
    exact ⟨v', rfl, ⟨inner, hown, HI.out⟩, ((Below.refl _ w).alloc (Nat.le_refl _) _).grown hgrow (by simp) (by intro k hk; simp [Value.ownBlock] at hk; omega)⟩
set_option maxHeartbeats 2000000 in
theorem clone37_calls (A : Option Addr) (c : Nat) (l : List Int) (w : World) (hr : Kd.C (Kd.int .i64) w A l.length l) (hb : l.length * 8 ≤ 140737488355328) :
    Calls Try.prog 37 #[.slice A l.length c] w fun e w' => ∃ v, e = .returned v ∧ Cloned (Kd.int .i64) 3 l w v w' := by
  have q22 : ∀ (w : World) (a : Option Addr) (n c n' c' : Nat), (binOp .eql 23 (.slice a n c) (.slice none n' c')).run Try.prog w = .ok (.bool a.isNone) w := fun w a n c n' c' => Lib.run_eql_slice_nil w _ _ a n c n' c' Try.underlying23
  cases A with
  | none =>
    have h0 : l = [] := by
      cases l with
      | nil => rfl
      | cons x xs =>
        obtain ⟨ad, e, _⟩ := hr.2.2 (by simp)
        cases e
    subst h0
    go_enter Try.func37, Try.ntmps37
    go_wp2
    go_ret
    exact ⟨_, rfl, OwnRow.none_ _ _ _ _ _, Below.refl _ _⟩
  | some ad =>
    obtain ⟨inner, hI, hc⟩ := C_inner hr
    have h1 := reps_one hI (by decide)
    have HI := Aside0.mk hI
    have HC := Aside0.mk hc
    have H1 := Aside0.mk h1
    have hlen := hr.2.1
    clear hI hc h1 hr
    obtain ⟨i0, hi0, hi1⟩ : ∃ i0, Try.prog.info? 3 = some i0 ∧ (i0.zero, i0.size, i0.bytes) = (some (.int .i64 0), 1, 8) := by
      have := info3
      cases hx : Try.prog.info? 3 with
      | none => rw [hx] at this; cases this
      | some i => rw [hx] at this; exact ⟨i, rfl, Option.some.inj this⟩
    injection hi1 with e1 e23
    injection e23 with e2 e3
    go_enter Try.func37, Try.ntmps37
    go_wp2_with (at_builtin; refine wpList_append_own _ rfl _ _ 23 rfl w.heap.size 3 i0 (.int .i64 0) 1 8 Try.underlying23 hi0 e1 e2 e3 rfl (by decide) _ _ _ rfl (World.ownsRow_made w #[] 0 (Nat.le_refl _) (Nat.zero_le _) (by simp)) ad l.length c inner rfl ?qc1 ?qc2 ?qc3 ?qc4 ?qc5 ?qc6 ?_)
    case qc1 => exact HI.out.1
    case qc2 => exact fun j u hj => Lib.cell?_alloc_some _ (HC.out j u hj)
    case qc3 => exact H1.out
    case qc4 => rw [Nat.zero_add]; unfold maxLen; omega
    case qc5 => rw [Nat.zero_add]; exact hb
    case qc6 => simp
    intro v' w1 hown hgrow hnil
    go_wp2
    go_ret
    exact ⟨v', rfl, ⟨inner, hown, HI.out⟩, ((Below.refl _ w).alloc (Nat.le_refl _) _).grown hgrow (by simp) (by intro k hk; simp [Value.ownBlock] at hk; omega)⟩
set_option maxHeartbeats 2000000 in
theorem clone45_calls (A : Option Addr) (c : Nat) (l : List S59) (w : World) (hr : Kd.C k59 w A l.length l) (hb : l.length * 32 ≤ 140737488355328) :
    Calls Try.prog 45 #[.slice A l.length c] w fun e w' => ∃ v, e = .returned v ∧ Cloned k59 59 l w v w' := by
  have q22 : ∀ (w : World) (a : Option Addr) (n c n' c' : Nat), (binOp .eql 24 (.slice a n c) (.slice none n' c')).run Try.prog w = .ok (.bool a.isNone) w := fun w a n c n' c' => Lib.run_eql_slice_nil w _ _ a n c n' c' Try.underlying24
  cases A with
  | none =>
    have h0 : l = [] := by
      cases l with
      | nil => rfl
      | cons x xs =>
        obtain ⟨ad, e, _⟩ := hr.2.2 (by simp)
        cases e
    subst h0
    go_enter Try.func45, Try.ntmps45
    go_wp2
    go_ret
    exact ⟨_, rfl, OwnRow.none_ _ _ _ _ _, Below.refl _ _⟩
  | some ad =>
    obtain ⟨inner, hI, hc⟩ := C_inner hr
    have h1 := reps_one hI (by decide)
    have HI := Aside0.mk hI
    have HC := Aside0.mk hc
    have H1 := Aside0.mk h1
    have hlen := hr.2.1
    clear hI hc h1 hr
    obtain ⟨i0, hi0, hi1⟩ : ∃ i0, Try.prog.info? 59 = some i0 ∧ (i0.zero, i0.size, i0.bytes) = (some (.agg #[(.int .i64 0), (.slice none 0 0)]), 2, 32) := by
      have := info59
      cases hx : Try.prog.info? 59 with
      | none => rw [hx] at this; cases this
      | some i => rw [hx] at this; exact ⟨i, rfl, Option.some.inj this⟩
    injection hi1 with e1 e23
    injection e23 with e2 e3
    go_enter Try.func45, Try.ntmps45
    go_wp2_with (at_builtin; refine wpList_append_own _ rfl _ _ 24 rfl w.heap.size 59 i0 (.agg #[(.int .i64 0), (.slice none 0 0)]) 2 32 Try.underlying24 hi0 e1 e2 e3 rfl (by decide) _ _ _ rfl (World.ownsRow_made w #[] 0 (Nat.le_refl _) (Nat.zero_le _) (by simp)) ad l.length c inner rfl ?qc1 ?qc2 ?qc3 ?qc4 ?qc5 ?qc6 ?_)
    case qc1 => exact HI.out.1
    case qc2 => exact fun j u hj => Lib.cell?_alloc_some _ (HC.out j u hj)
    case qc3 => exact H1.out
    case qc4 => rw [Nat.zero_add]; unfold maxLen; omega
    case qc5 => rw [Nat.zero_add]; exact hb
    case qc6 => simp
    intro v' w1 hown hgrow hnil
    go_wp2
    go_ret
    exact ⟨v', rfl, ⟨inner, hown, HI.out⟩, ((Below.refl _ w).alloc (Nat.le_refl _) _).grown hgrow (by simp) (by intro k hk; simp [Value.ownBlock] at hk; omega)⟩
end Go.Proofs.Ytmglkgjnhoojaaa.PCodeRows
/- last, taken off a list of the builder's. -/
namespace Go.Proofs.Ytmglkgjnhoojaaa.PCodeRows
open Go.RowKit Go.Proofs.YtmglkgjnhoojaaaW.PrintWords Go.Proofs.YtmglkgjnhoojaaaW.PrintLast Go.Proofs.YtmglkgjnhoojaaaW.PrintMore
set_option linter.unusedVariables false
set_option linter.unusedSimpArgs false
set_option maxHeartbeats 2000000 in
theorem lastInt_calls (bb i : Nat) (A : Option Addr) (n c : Nat) (xs : List Int) (x : Int) (w : World) (cs : Array Value)
    (hB : w.heap[bb]? = some (.cells cs 53 (0, 0))) (hi : cs[i]? = some (.slice A (n + 1) c)) (hc : n + 1 ≤ c) (hC : Kd.C (Kd.int .i64) w A (n + 1) (xs ++ [x])) :
    Calls Try.prog 39 #[.pointer (some ⟨bb, i, none⟩)] w fun e w' => e = .returned (.tuple #[.int .i64 x, .bool true]) ∧ ∃ m, w' = (w.drewN m).setCell ⟨bb, i, none⟩ (.slice A n c) := by
  have hb0 : w.cell? ⟨bb, i, none⟩ = some (.slice A (n + 1) c) := (blk_cell hB i).trans hi
  have hf : w.frozen? ⟨bb, i, none⟩ = false := blk_frozen hB i
  have hlen := hC.2.1
  have hxs : xs.length = n := by have := hC.1; simpa using this
  obtain ⟨ad, e, g0⟩ := Kd.at_int hC (n : Int) (by omega) (by omega)
  cases e
  rw [Int.toNat_natCast] at g0
  have hx : rd (xs ++ [x]) (n : Int) = x := by simp [rd, List.getD_eq_getElem?_getD, ← hxs]
  rw [hx] at g0
  clear hC hx
  have e0 : ((n : Int) + 1 == 0) = false := by simp; omega
  have e1 : (n : Int) + 1 - 1 = n := by omega
  have e2 : wrap64 (n : Int) = n := IntWalk.wrap64_in _ ⟨by omega, by omega⟩
  have p3 : (0 ≤ (n : Int) ∧ (n : Int) ≤ (c : Int)) = True := eq_true ⟨by omega, by omega⟩
  have p0 : (0 ≤ (n : Int)) = True := eq_true (by omega)
  have p1 : ((n : Int) < (n : Int) + 1) = True := eq_true (by omega)
  have p2 : ((n : Int) ≤ (c : Int)) = True := eq_true (by omega)
  go_enter Try.func39, Try.ntmps39
  go_wp2_with fail
  go_quiet (fail)
  have hb1 : (w.drewN nq).cell? ⟨bb, i, none⟩ = some (.slice (some ad) (n + 1) c) := hb0
  have hf1 : (w.drewN nq).frozen? ⟨bb, i, none⟩ = false := hf
  go_wp2_with fail
  refine start_ (n := 12) (S := fun w' => w'.cell? ⟨bb, i, none⟩ = some (.slice (some ad) (n + 1) c) ∧ w'.cell? (ad.add n) = some (.int .i64 x)) (ds := [11]) #[false, false, false, false, false, false, false, false, false, false, false, false] (by kernel_rfl) rfl rfl (⟨hb0, g0⟩) (fun hHeld => ?_)
  refine with_tab (rfl : rtab .any (opsOf Try.f39 4) = rtab .any (opsOf Try.f39 4)) (fun HT_ => ?_)
  have hb2 : (w.drewN nq).drew.cell? ⟨bb, i, none⟩ = some (.slice (some ad) (n + 1) c) := hb0
  have hf2 : (w.drewN nq).drew.frozen? ⟨bb, i, none⟩ = false := hf
  generalize hW : (w.drewN nq).drew = w9 at hb2 hf2 hHeld ⊢
  refine pure_ (i := 0) (N := some 20) (v := ?_) (a' := ?_) #[true, false, false, false, false, false, false, false, false, false, false, false] rfl rfl (any_of HT_.out (by kernel_rfl)) (fun _ _ _ h => h) (Or.inl ⟨by rfl, ?_⟩) ?_ ?_
  rotate_left
  · intro w'
    go_simp
    with_reducible rfl
  rotate_left
  · simp only [Act.put, List.setIfInBounds_toArray, List.set_cons_zero, List.set_cons_succ, i64_w, i32_w]
    rfl
  refine pure_ (i := 1) (N := some 21) (v := ?_) (a' := ?_) #[true, true, false, false, false, false, false, false, false, false, false, false] rfl rfl (any_of HT_.out (by kernel_rfl)) (fun _ _ _ h => h) (Or.inl ⟨by rfl, ?_⟩) ?_ ?_
  rotate_left
  · intro w'
    go_simp
    with_reducible rfl
  rotate_left
  · simp only [Act.put, List.setIfInBounds_toArray, List.set_cons_zero, List.set_cons_succ, i64_w, i32_w]
    rfl
  refine pure_ (i := 2) (N := some 22) (v := ?_) (a' := ?_) #[true, true, true, false, false, false, false, false, false, false, false, false] rfl rfl (any_of HT_.out (by kernel_rfl)) (fun _ _ _ h => h) (Or.inl ⟨by rfl, ?_⟩) ?_ ?_
  rotate_left
  · intro w'
    go_simp
    with_reducible rfl
  rotate_left
  · simp only [Act.put, List.setIfInBounds_toArray, List.set_cons_zero, List.set_cons_succ, i64_w, i32_w]
    rfl
  refine pure_ (i := 4) (N := some 24) (v := ?_) (a' := ?_) #[true, true, true, false, true, false, false, false, false, false, false, false] rfl rfl (any_of HT_.out (by kernel_rfl)) (fun _ _ _ h => h) (Or.inl ⟨by rfl, ?_⟩) ?_ ?_
  rotate_left
  · intro w'
    go_simp
    with_reducible rfl
  rotate_left
  · simp only [Act.put, List.setIfInBounds_toArray, List.set_cons_zero, List.set_cons_succ, i64_w, i32_w]
    rfl
  refine pure_ (i := 5) (N := some 25) (v := ?_) (a' := ?_) #[true, true, true, false, true, true, false, false, false, false, false, false] rfl rfl (any_of HT_.out (by kernel_rfl)) (fun _ _ _ h => h) (Or.inl ⟨by rfl, ?_⟩) ?_ ?_
  rotate_left
  · intro w'
    go_simp
    with_reducible rfl
  rotate_left
  · simp only [Act.put, List.setIfInBounds_toArray, List.set_cons_zero, List.set_cons_succ, i64_w, i32_w]
    rfl
  refine take_ (i := 3) (N := some 23) (v := ?_) (a' := ?_) #[true, true, true, true, true, true, false, false, false, false, false, false] rfl rfl (take_of HT_.out (by kernel_rfl)) (fun _ _ _ h => h) (Or.inl ⟨by rfl, ?_⟩) hHeld ?_ ?_
  rotate_left
  · rintro w' hS; go_split_ands
    go_simp
    with_reducible rfl
  rotate_left
  · simp only [Act.put, List.setIfInBounds_toArray, List.set_cons_zero, List.set_cons_succ, i64_w, i32_w]
    rfl
  refine take_ (i := 6) (N := some 26) (v := ?_) (a' := ?_) #[true, true, true, true, true, true, true, false, false, false, false, false] rfl rfl (take_of HT_.out (by kernel_rfl)) (fun _ _ _ h => h) (Or.inl ⟨by rfl, ?_⟩) hHeld ?_ ?_
  rotate_left
  · rintro w' hS; go_split_ands
    go_simp
    with_reducible rfl
  rotate_left
  · simp only [Act.put, List.setIfInBounds_toArray, List.set_cons_zero, List.set_cons_succ, i64_w, i32_w]
    rfl
  refine pure_ (i := 7) (N := some 27) (v := ?_) (a' := ?_) #[true, true, true, true, true, true, true, true, false, false, false, false] rfl rfl (any_of HT_.out (by kernel_rfl)) (fun _ _ _ h => h) (Or.inl ⟨by rfl, ?_⟩) ?_ ?_
  rotate_left
  · intro w'
    go_simp
    with_reducible rfl
  rotate_left
  · simp only [Act.put, List.setIfInBounds_toArray, List.set_cons_zero, List.set_cons_succ, i64_w, i32_w]
    rfl
  refine pure_ (i := 8) (N := some 28) (v := ?_) (a' := ?_) #[true, true, true, true, true, true, true, true, true, false, false, false] rfl rfl (any_of HT_.out (by kernel_rfl)) (fun _ _ _ h => h) (Or.inl ⟨by rfl, ?_⟩) ?_ ?_
  rotate_left
  · intro w'
    go_simp
    with_reducible rfl
  rotate_left
  · simp only [Act.put, List.setIfInBounds_toArray, List.set_cons_zero, List.set_cons_succ, i64_w, i32_w]
    rfl
  refine pure_ (i := 9) (N := some 29) (v := ?_) (a' := ?_) #[true, true, true, true, true, true, true, true, true, true, false, false] rfl rfl (any_of HT_.out (by kernel_rfl)) (fun _ _ _ h => h) (Or.inl ⟨by rfl, ?_⟩) ?_ ?_
  rotate_left
  · intro w'
    go_simp
    with_reducible rfl
  rotate_left
  · simp only [Act.put, List.setIfInBounds_toArray, List.set_cons_zero, List.set_cons_succ, i64_w, i32_w]
    rfl
  refine pure_ (i := 10) (N := some 30) (v := ?_) (a' := ?_) #[true, true, true, true, true, true, true, true, true, true, true, false] rfl rfl (any_of HT_.out (by kernel_rfl)) (fun _ _ _ h => h) (Or.inl ⟨by rfl, ?_⟩) ?_ ?_
  rotate_left
  · intro w'
    go_simp
    with_reducible rfl
  rotate_left
  · simp only [Act.put, List.setIfInBounds_toArray, List.set_cons_zero, List.set_cons_succ, i64_w, i32_w]
    rfl
  refine last_ (i := 11) (N := none) #[true, true, true, true, true, true, true, true, true, true, true, true] rfl rfl (one_of HT_.out (by kernel_rfl)) (by decide) (fun K hK => ?_)
  go_simp
  refine hK.out _ _ ?_
  clear hK K
  refine done_ (done_of HT_.out (by kernel_rfl)) ?_
  go_wp2_with fail
  refine bodyPost_ret (v := .tuple #[.int .i64 x, .bool true]) (by simp [results, Try.results39, go_sem]) rfl ⟨rfl, nq + 1, ?_⟩
  rw [← hW]
  rfl
set_option maxHeartbeats 2000000 in
theorem lastInt_empty (bb i : Nat) (A : Option Addr) (c : Nat) (w : World) (cs : Array Value)
    (hB : w.heap[bb]? = some (.cells cs 53 (0, 0))) (hi : cs[i]? = some (.slice A 0 c)) :
    Calls Try.prog 39 #[.pointer (some ⟨bb, i, none⟩)] w fun e w' => e = .returned (.tuple #[.int .i64 0, .bool false]) ∧ w' = w := by
  have hb0 : w.cell? ⟨bb, i, none⟩ = some (.slice A 0 c) := (blk_cell hB i).trans hi
  go_enter Try.func39, Try.ntmps39
  go_wp2_with fail
  exact bodyPost_ret (v := .tuple #[.int .i64 0, .bool false]) (by simp [results, Try.results39, go_sem]) rfl ⟨rfl, rfl⟩
end Go.Proofs.Ytmglkgjnhoojaaa.PCodeRows
/- last[Open], taken off a list of the builder's. -/
namespace Go.Proofs.Ytmglkgjnhoojaaa.PCodeRows
open Go.RowKit Go.Proofs.YtmglkgjnhoojaaaW.PrintWords Go.Proofs.YtmglkgjnhoojaaaW.PrintLast Go.Proofs.YtmglkgjnhoojaaaW.PrintMore
set_option linter.unusedVariables false
set_option linter.unusedSimpArgs false
set_option maxHeartbeats 2000000 in
theorem lastOpen_empty (bb i : Nat) (A : Option Addr) (c : Nat) (w : World) (cs : Array Value)
    (hB : w.heap[bb]? = some (.cells cs 53 (0, 0))) (hi : cs[i]? = some (.slice A 0 c)) :
    Calls Try.prog 41 #[.pointer (some ⟨bb, i, none⟩)] w fun e w' => e = .returned (.tuple #[.agg #[.int .i64 0, .slice none 0 0], .bool false]) ∧ Below w.heap.size w w' := by
  have hb0 : (w.alloc (.cells #[.int .i64 0, .slice none 0 0] 59)).cell? ⟨bb, i, none⟩ = some (.slice A 0 c) := (blk_cell (blk_alloc hB _) i).trans hi
  go_enter Try.func41, Try.ntmps41
  go_wp2_with fail
  exact bodyPost_ret (v := .tuple #[.agg #[.int .i64 0, .slice none 0 0], .bool false]) (by simp [results, Try.results41, go_sem]) rfl ⟨rfl, below_alloc (Below.refl _ _) _⟩
set_option maxHeartbeats 2000000 in
theorem lastOpen_calls (base bb i : Nat) (hbb : base ≤ bb) (ad : Addr) (n c : Nat) (at_ : Int) (B : Option Addr) (m cB : Nat) (w : World) (cs : Array Value)
    (hB : w.heap[bb]? = some (.cells cs 53 (0, 0))) (hi : cs[i]? = some (.slice (some ad) (n + 1) c)) (hc : n + 1 ≤ c) (hlen : n + 1 ≤ 9223372036854775807)
    (g0 : w.cell? (ad.add (n * 2)) = some (.int .i64 at_)) (g1 : w.cell? ⟨(ad.add (n * 2)).block, (ad.add (n * 2)).off + 1, none⟩ = some (.slice B m cB)) :
    Calls Try.prog 41 #[.pointer (some ⟨bb, i, none⟩)] w fun e w' => e = .returned (.tuple #[.agg #[.int .i64 at_, .slice B m cB], .bool true]) ∧ w'.heap[bb]? = some (.cells (cs.setIfInBounds i (.slice (some ad) n c)) 53 (0, 0)) ∧ Kept w w' (fun k => k = bb) ∧ Below base w w' := by
  have HB := Aside0.mk (blk_alloc hB (.cells #[.int .i64 0, .slice none 0 0] 59))
  have HZ := Aside0.mk (blk_new w (.cells #[.int .i64 0, .slice none 0 0] 59))
  have hb0 := (blk_cell HB.out i).trans hi
  have hz0 := blk_frozen HZ.out 0
  have hz1 := blk_frozen HZ.out 1
  have G0 := Aside0.mk (pw_cell_below (below_alloc (Below.refl w.heap.size w) (.cells #[.int .i64 0, .slice none 0 0] 59)) g0)
  have G1 := Aside0.mk (pw_cell_below (below_alloc (Below.refl w.heap.size w) (.cells #[.int .i64 0, .slice none 0 0] 59)) g1)
  have e0 : ((n : Int) + 1 == 0) = false := by simp; omega
  have e1 : (n : Int) + 1 - 1 = n := by omega
  have e2 : wrap64 (n : Int) = n := IntWalk.wrap64_in _ ⟨by omega, by omega⟩
  have p3 : (0 ≤ (n : Int) ∧ (n : Int) ≤ (c : Int)) = True := eq_true ⟨by omega, by omega⟩
  have p0 : (0 ≤ (n : Int)) = True := eq_true (by omega)
  have p1 : ((n : Int) < (n : Int) + 1) = True := eq_true (by omega)
  have p2 : ((n : Int) ≤ (c : Int)) = True := eq_true (by omega)
  go_enter Try.func41, Try.ntmps41
  go_wp2_with fail
  refine start_ (n := 11) (S := fun w' => w'.cell? ⟨bb, i, none⟩ = some (.slice (some ad) (n + 1) c) ∧ w'.cell? (ad.add (n * 2)) = some (.int .i64 at_) ∧ w'.cell? ⟨(ad.add (n * 2)).block, (ad.add (n * 2)).off + 1, none⟩ = some (.slice B m cB)) (ds := [10]) #[false, false, false, false, false, false, false, false, false, false, false] (by kernel_rfl) rfl rfl (⟨hb0, G0.out, G1.out⟩) (fun hHeld => ?_)
  refine with_tab (rfl : rtab .any (opsOf Try.f41 3) = rtab .any (opsOf Try.f41 3)) (fun HT_ => ?_)
  have HZ2 := Aside0.mk (blk_drew HZ.out)
  refine pure_ (i := 0) (N := some 10) (v := ?_) (a' := ?_) #[true, false, false, false, false, false, false, false, false, false, false] rfl rfl (any_of HT_.out (by kernel_rfl)) (fun _ _ _ h => h) (Or.inl ⟨by rfl, ?_⟩) ?_ ?_
  rotate_left
  · intro w'
    go_simp
    with_reducible rfl
  rotate_left
  · simp only [Act.put, List.setIfInBounds_toArray, List.set_cons_zero, List.set_cons_succ, i64_w, i32_w]
    rfl
  refine pure_ (i := 1) (N := some 11) (v := ?_) (a' := ?_) #[true, true, false, false, false, false, false, false, false, false, false] rfl rfl (any_of HT_.out (by kernel_rfl)) (fun _ _ _ h => h) (Or.inl ⟨by rfl, ?_⟩) ?_ ?_
  rotate_left
  · intro w'
    go_simp
    with_reducible rfl
  rotate_left
  · simp only [Act.put, List.setIfInBounds_toArray, List.set_cons_zero, List.set_cons_succ, i64_w, i32_w]
    rfl
  refine pure_ (i := 3) (N := some 13) (v := ?_) (a' := ?_) #[true, true, false, true, false, false, false, false, false, false, false] rfl rfl (any_of HT_.out (by kernel_rfl)) (fun _ _ _ h => h) (Or.inl ⟨by rfl, ?_⟩) ?_ ?_
  rotate_left
  · intro w'
    go_simp
    with_reducible rfl
  rotate_left
  · simp only [Act.put, List.setIfInBounds_toArray, List.set_cons_zero, List.set_cons_succ, i64_w, i32_w]
    rfl
  refine pure_ (i := 4) (N := some 14) (v := ?_) (a' := ?_) #[true, true, false, true, true, false, false, false, false, false, false] rfl rfl (any_of HT_.out (by kernel_rfl)) (fun _ _ _ h => h) (Or.inl ⟨by rfl, ?_⟩) ?_ ?_
  rotate_left
  · intro w'
    go_simp
    with_reducible rfl
  rotate_left
  · simp only [Act.put, List.setIfInBounds_toArray, List.set_cons_zero, List.set_cons_succ, i64_w, i32_w]
    rfl
  refine take_ (i := 2) (N := some 12) (v := ?_) (a' := ?_) #[true, true, true, true, true, false, false, false, false, false, false] rfl rfl (take_of HT_.out (by kernel_rfl)) (fun _ _ _ h => h) (Or.inl ⟨by rfl, ?_⟩) hHeld ?_ ?_
  rotate_left
  · rintro w' hS; go_split_ands
    go_simp
    with_reducible rfl
  rotate_left
  · simp only [Act.put, List.setIfInBounds_toArray, List.set_cons_zero, List.set_cons_succ, i64_w, i32_w]
    rfl
  refine take_ (i := 5) (N := some 15) (v := ?_) (a' := ?_) #[true, true, true, true, true, true, false, false, false, false, false] rfl rfl (take_of HT_.out (by kernel_rfl)) (fun _ _ _ h => h) (Or.inl ⟨by rfl, ?_⟩) hHeld ?_ ?_
  rotate_left
  · rintro w' hS; go_split_ands
    go_simp
    with_reducible rfl
  rotate_left
  · simp only [Act.put, List.setIfInBounds_toArray, List.set_cons_zero, List.set_cons_succ, i64_w, i32_w]
    rfl
  refine pure_ (i := 6) (N := some 16) (v := ?_) (a' := ?_) #[true, true, true, true, true, true, true, false, false, false, false] rfl rfl (any_of HT_.out (by kernel_rfl)) (fun _ _ _ h => h) (Or.inl ⟨by rfl, ?_⟩) ?_ ?_
  rotate_left
  · intro w'
    go_simp
    with_reducible rfl
  rotate_left
  · simp only [Act.put, List.setIfInBounds_toArray, List.set_cons_zero, List.set_cons_succ, i64_w, i32_w]
    rfl
  refine pure_ (i := 7) (N := some 17) (v := ?_) (a' := ?_) #[true, true, true, true, true, true, true, true, false, false, false] rfl rfl (any_of HT_.out (by kernel_rfl)) (fun _ _ _ h => h) (Or.inl ⟨by rfl, ?_⟩) ?_ ?_
  rotate_left
  · intro w'
    go_simp
    with_reducible rfl
  rotate_left
  · simp only [Act.put, List.setIfInBounds_toArray, List.set_cons_zero, List.set_cons_succ, i64_w, i32_w]
    rfl
  refine pure_ (i := 8) (N := some 18) (v := ?_) (a' := ?_) #[true, true, true, true, true, true, true, true, true, false, false] rfl rfl (any_of HT_.out (by kernel_rfl)) (fun _ _ _ h => h) (Or.inl ⟨by rfl, ?_⟩) ?_ ?_
  rotate_left
  · intro w'
    go_simp
    with_reducible rfl
  rotate_left
  · simp only [Act.put, List.setIfInBounds_toArray, List.set_cons_zero, List.set_cons_succ, i64_w, i32_w]
    rfl
  refine take_ (i := 9) (N := some 19) (v := ?_) (a' := ?_) #[true, true, true, true, true, true, true, true, true, true, false] rfl rfl (take_of HT_.out (by kernel_rfl)) (fun _ _ _ h => h) (Or.inl ⟨by rfl, ?_⟩) hHeld ?_ ?_
  rotate_left
  · rintro w' hS; go_split_ands
    go_simp
    with_reducible rfl
  rotate_left
  · simp only [Act.put, List.setIfInBounds_toArray, List.set_cons_zero, List.set_cons_succ, i64_w, i32_w]
    rfl
  refine last_ (i := 10) (N := none) #[true, true, true, true, true, true, true, true, true, true, true] rfl rfl (one_of HT_.out (by kernel_rfl)) (by decide) (fun K hK => ?_)
  go_simp
  refine hK.out _ _ ?_
  clear hK K
  refine done_ (done_of HT_.out (by kernel_rfl)) ?_
  clear HZ2 hHeld HT_ hz0 hz1 hb0 G0 G1 HB HZ
  have HB := Aside0.mk (blk_alloc hB (.cells #[.int .i64 at_, .slice B m cB] 59))
  have HZ := Aside0.mk (blk_new w (.cells #[.int .i64 at_, .slice B m cB] 59))
  have hb0 : (w.alloc (.cells #[.int .i64 at_, .slice B m cB] 59)).drew.cell? ⟨bb, i, none⟩ = some (.slice (some ad) (n + 1) c) := (blk_cell HB.out i).trans hi
  have hf : (w.alloc (.cells #[.int .i64 at_, .slice B m cB] 59)).drew.frozen? ⟨bb, i, none⟩ = false := blk_frozen HB.out i
  go_wp2_with fail
  refine start_ (n := 12) (S := fun w' => w'.cell? ⟨bb, i, none⟩ = some (.slice (some ad) (n + 1) c)) (ds := [11]) #[false, false, false, false, false, false, false, false, false, false, false, false] (by kernel_rfl) rfl rfl (hb0) (fun hHeld => ?_)
  refine with_tab (rfl : rtab .any (opsOf Try.f41 4) = rtab .any (opsOf Try.f41 4)) (fun HT_ => ?_)
  have hb2 : (w.alloc (.cells #[.int .i64 at_, .slice B m cB] 59)).drew.drew.cell? ⟨bb, i, none⟩ = some (.slice (some ad) (n + 1) c) := hb0
  have hf2 : (w.alloc (.cells #[.int .i64 at_, .slice B m cB] 59)).drew.drew.frozen? ⟨bb, i, none⟩ = false := hf
  refine pure_ (i := 0) (N := some 20) (v := ?_) (a' := ?_) #[true, false, false, false, false, false, false, false, false, false, false, false] rfl rfl (any_of HT_.out (by kernel_rfl)) (fun _ _ _ h => h) (Or.inl ⟨by rfl, ?_⟩) ?_ ?_
  rotate_left
  · intro w'
    go_simp
    with_reducible rfl
  rotate_left
  · simp only [Act.put, List.setIfInBounds_toArray, List.set_cons_zero, List.set_cons_succ, i64_w, i32_w]
    rfl
  refine pure_ (i := 1) (N := some 21) (v := ?_) (a' := ?_) #[true, true, false, false, false, false, false, false, false, false, false, false] rfl rfl (any_of HT_.out (by kernel_rfl)) (fun _ _ _ h => h) (Or.inl ⟨by rfl, ?_⟩) ?_ ?_
  rotate_left
  · intro w'
    go_simp
    with_reducible rfl
  rotate_left
  · simp only [Act.put, List.setIfInBounds_toArray, List.set_cons_zero, List.set_cons_succ, i64_w, i32_w]
    rfl
  refine pure_ (i := 2) (N := some 22) (v := ?_) (a' := ?_) #[true, true, true, false, false, false, false, false, false, false, false, false] rfl rfl (any_of HT_.out (by kernel_rfl)) (fun _ _ _ h => h) (Or.inl ⟨by rfl, ?_⟩) ?_ ?_
  rotate_left
  · intro w'
    go_simp
    with_reducible rfl
  rotate_left
  · simp only [Act.put, List.setIfInBounds_toArray, List.set_cons_zero, List.set_cons_succ, i64_w, i32_w]
    rfl
  refine pure_ (i := 4) (N := some 24) (v := ?_) (a' := ?_) #[true, true, true, false, true, false, false, false, false, false, false, false] rfl rfl (any_of HT_.out (by kernel_rfl)) (fun _ _ _ h => h) (Or.inl ⟨by rfl, ?_⟩) ?_ ?_
  rotate_left
  · intro w'
    go_simp
    with_reducible rfl
  rotate_left
  · simp only [Act.put, List.setIfInBounds_toArray, List.set_cons_zero, List.set_cons_succ, i64_w, i32_w]
    rfl
  refine pure_ (i := 5) (N := some 25) (v := ?_) (a' := ?_) #[true, true, true, false, true, true, false, false, false, false, false, false] rfl rfl (any_of HT_.out (by kernel_rfl)) (fun _ _ _ h => h) (Or.inl ⟨by rfl, ?_⟩) ?_ ?_
  rotate_left
  · intro w'
    go_simp
    with_reducible rfl
  rotate_left
  · simp only [Act.put, List.setIfInBounds_toArray, List.set_cons_zero, List.set_cons_succ, i64_w, i32_w]
    rfl
  refine take_ (i := 3) (N := some 23) (v := ?_) (a' := ?_) #[true, true, true, true, true, true, false, false, false, false, false, false] rfl rfl (take_of HT_.out (by kernel_rfl)) (fun _ _ _ h => h) (Or.inl ⟨by rfl, ?_⟩) hHeld ?_ ?_
  rotate_left
  · rintro w' hS; go_split_ands
    go_simp
    with_reducible rfl
  rotate_left
  · simp only [Act.put, List.setIfInBounds_toArray, List.set_cons_zero, List.set_cons_succ, i64_w, i32_w]
    rfl
  refine take_ (i := 6) (N := some 26) (v := ?_) (a' := ?_) #[true, true, true, true, true, true, true, false, false, false, false, false] rfl rfl (take_of HT_.out (by kernel_rfl)) (fun _ _ _ h => h) (Or.inl ⟨by rfl, ?_⟩) hHeld ?_ ?_
  rotate_left
  · rintro w' hS; go_split_ands
    go_simp
    with_reducible rfl
  rotate_left
  · simp only [Act.put, List.setIfInBounds_toArray, List.set_cons_zero, List.set_cons_succ, i64_w, i32_w]
    rfl
  refine pure_ (i := 7) (N := some 27) (v := ?_) (a' := ?_) #[true, true, true, true, true, true, true, true, false, false, false, false] rfl rfl (any_of HT_.out (by kernel_rfl)) (fun _ _ _ h => h) (Or.inl ⟨by rfl, ?_⟩) ?_ ?_
  rotate_left
  · intro w'
    go_simp
    with_reducible rfl
  rotate_left
  · simp only [Act.put, List.setIfInBounds_toArray, List.set_cons_zero, List.set_cons_succ, i64_w, i32_w]
    rfl
  refine pure_ (i := 8) (N := some 28) (v := ?_) (a' := ?_) #[true, true, true, true, true, true, true, true, true, false, false, false] rfl rfl (any_of HT_.out (by kernel_rfl)) (fun _ _ _ h => h) (Or.inl ⟨by rfl, ?_⟩) ?_ ?_
  rotate_left
  · intro w'
    go_simp
    with_reducible rfl
  rotate_left
  · simp only [Act.put, List.setIfInBounds_toArray, List.set_cons_zero, List.set_cons_succ, i64_w, i32_w]
    rfl
  refine pure_ (i := 9) (N := some 29) (v := ?_) (a' := ?_) #[true, true, true, true, true, true, true, true, true, true, false, false] rfl rfl (any_of HT_.out (by kernel_rfl)) (fun _ _ _ h => h) (Or.inl ⟨by rfl, ?_⟩) ?_ ?_
  rotate_left
  · intro w'
    go_simp
    with_reducible rfl
  rotate_left
  · simp only [Act.put, List.setIfInBounds_toArray, List.set_cons_zero, List.set_cons_succ, i64_w, i32_w]
    rfl
  refine pure_ (i := 10) (N := some 30) (v := ?_) (a' := ?_) #[true, true, true, true, true, true, true, true, true, true, true, false] rfl rfl (any_of HT_.out (by kernel_rfl)) (fun _ _ _ h => h) (Or.inl ⟨by rfl, ?_⟩) ?_ ?_
  rotate_left
  · intro w'
    go_simp
    with_reducible rfl
  rotate_left
  · simp only [Act.put, List.setIfInBounds_toArray, List.set_cons_zero, List.set_cons_succ, i64_w, i32_w]
    rfl
  refine last_ (i := 11) (N := none) #[true, true, true, true, true, true, true, true, true, true, true, true] rfl rfl (one_of HT_.out (by kernel_rfl)) (by decide) (fun K hK => ?_)
  go_simp
  refine hK.out _ _ ?_
  clear hK K
  refine done_ (done_of HT_.out (by kernel_rfl)) ?_
  have hlt := blk_lt hB
  have hz := blk_far HZ.out (p := ⟨bb, i, none⟩) (by show w.heap.size ≠ bb; omega) (.slice (some ad) n c)
  have hb := blk_set HB.out i (.slice (some ad) n c)
  generalize hW : ((w.alloc (Obj.cells #[.int .i64 at_, .slice B m cB] 59)).setCell ⟨bb, i, none⟩ (.slice (some ad) n c)).drew.drew = w9
  have hz9 : w9.heap[w.heap.size]? = some (.cells #[.int .i64 at_, .slice B m cB] 59 (0, 0)) := by rw [← hW]; exact hz
  have hb9 : w9.heap[bb]? = some (.cells (cs.setIfInBounds i (.slice (some ad) n c)) 53 (0, 0)) := by rw [← hW]; exact hb
  have hk9 : Kept w w9 (fun k => k = bb) := by
    rw [← hW]
    refine ⟨by simp, fun k hk hn => ?_⟩
    show ((w.alloc _).setCell _ _).heap[k]? = _
    rw [Below.heap_setCell _ _ _ k hn, Below.heap_alloc w _ k hk]
  have hbel9 : Below base w w9 := by
    rw [← hW]
    exact ((((Below.refl base w).alloc (by omega) _).setCell hbb _).drew).drew
  have z0 : w9.cell? ⟨w.heap.size, 0, none⟩ = some (.int .i64 at_) := (blk_cell hz9 0).trans rfl
  have z1 : w9.cell? ⟨w.heap.size, 1, none⟩ = some (.slice B m cB) := (blk_cell hz9 1).trans rfl
  have f0 := blk_frozen hz9 0
  have f1 := blk_frozen hz9 1
  clear hz hb hb0 hf hHeld HT_ hb2 hf2 HB HZ
  go_wp2_with fail
  refine bodyPost_ret (v := .tuple #[.agg #[.int .i64 at_, .slice B m cB], .bool true]) (by
    have y0 := (blk_cell (blk_set (blk_set hz9 0 (.int .i64 at_)) 1 (.slice B m cB)) 0).trans rfl
    have y1 := (blk_cell (blk_set (blk_set hz9 0 (.int .i64 at_)) 1 (.slice B m cB)) 1).trans rfl
    simp [results, Try.results41, go_sem, y0, y1]) rfl ⟨rfl, ?_, ?_, (hbel9.setCell (by show base ≤ w.heap.size; omega) _).setCell (by show base ≤ w.heap.size; omega) _⟩
  · exact blk_far (blk_far hb9 (p := ⟨w.heap.size, 0, none⟩) (by show bb ≠ w.heap.size; omega) _) (p := ⟨w.heap.size, 1, none⟩) (by show bb ≠ w.heap.size; omega) _
  · refine ⟨by have := hk9.1; simpa using this, fun k hk hn => ?_⟩
    rw [Below.heap_setCell _ _ _ k (by show k ≠ w.heap.size; omega), Below.heap_setCell _ _ _ k (by show k ≠ w.heap.size; omega)]
    exact hk9.2 k hk hn
end Go.Proofs.Ytmglkgjnhoojaaa.PCodeRows
/- The builder's aim. -/
namespace Go.Proofs.Ytmglkgjnhoojaaa.PCodeRows
open Go.RowKit Go.Proofs.YtmglkgjnhoojaaaW.PrintWords Go.Proofs.YtmglkgjnhoojaaaW.PrintLast Go.Proofs.YtmglkgjnhoojaaaW.PrintMore
set_option linter.unusedVariables false
set_option linter.unusedSimpArgs false
def aim1 (t : Int) (code : List S37) (n : Int) : List S37 := code.set n.toNat ⟨(rd_T37 code n).f0, t⟩
def aimed (t : Int) (code : List S37) (l : List Int) : List S37 := l.foldl (aim1 t) code
theorem aimed_len (t : Int) (l : List Int) : ∀ code : List S37, (aimed t code l).length = code.length := by
  induction l with
  | nil => intro code; rfl
  | cons x xs ih => intro code; exact (ih _).trans (by simp [aim1])
theorem aimed_snoc (t : Int) (code : List S37) (l : List Int) (x : Int) : aimed t code (l ++ [x]) = aim1 t (aimed t code l) x := by simp [aimed]
set_option maxHeartbeats 4000000 in
theorem aim_calls (bb base base2 : Nat) (v0 v1 v2 v3 v4 vl : Value) (code : List S37) (okc okl : Nat → Prop) (l : List Int) (w : World)
    (hB : w.heap[bb]? = some (.cells #[v0, v1, v2, v3, v4] 53 (0, 0))) (hR : Kd.R k37 37 w base okc v0 code) (hL : Kd.R (Kd.int .i64) 3 w base2 okl vl l) (hin : ∀ x ∈ l, 0 ≤ x ∧ x < (code.length : Int)) (h256 : code.length ≤ 256) :
    Calls Try.prog 40 #[.pointer (some ⟨bb, 0, none⟩), vl] w fun e w' => e = .returned (.tuple #[]) ∧ Kd.R k37 37 w' base okc v0 (aimed code.length code l) ∧ Kept w w' (fun k => some k = v0.ownBlock) ∧ Below base w w' := by
  obtain ⟨A, c, rfl, hc, hC⟩ := Kd.R_reads hR
  obtain ⟨L, cl, rfl, hcl, hCL⟩ := Kd.R_reads hL
  have hlen := hCL.2.1
  have hne : some bb ≠ (Value.slice A code.length c).ownBlock := Kd.R_ne hR hB (by decide)
  go_enter Try.func40, Try.ntmps40
  go_wp2_with fail
  go_loopg [8] l.length (fun gg s8 wr => ∃ kk : Nat, kk ≤ l.length ∧ l.length - kk ≤ gg ∧ s8 = .int .i64 kk ∧ Aside0 (Kd.R k37 37 wr base okc (.slice A code.length c) (aimed code.length code (l.take kk))) ∧ Aside0 (Kept w wr (fun k => some k = (Value.slice A code.length c).ownBlock)) ∧ Aside0 (Below base w wr) ∧ Aside0 (Kd.R (Kd.int .i64) 3 wr base2 okl (.slice L l.length cl) l))
  case atStart => exact ⟨0, Nat.zero_le _, by omega, rfl, ⟨hR⟩, ⟨Kept.refl _ _⟩, ⟨Below.refl _ _⟩, ⟨hL⟩⟩
  case round =>
    obtain ⟨kk, hkk, hg, rfl, HR, HK, HBW, HL⟩ := hrel
    by_cases hlt : kk < l.length
    · have hltz : (kk : Int) < (l.length : Int) := by omega
      have hxm : l[kk]'hlt ∈ l := List.getElem_mem hlt
      obtain ⟨hx0, hx1⟩ := hin _ hxm
      have htake : l.take (kk + 1) = l.take kk ++ [l[kk]'hlt] := by rw [List.take_add_one, List.getElem?_eq_getElem hlt]; rfl
      obtain ⟨L2, cl2, eL, _, hCL2⟩ := Kd.R_reads HL.out
      injection eL with eL1 _ eL3
      subst eL1 eL3
      obtain ⟨ad, e, g0⟩ := Kd.at_int hCL2 (kk : Int) (by omega) hltz
      cases e
      rw [Int.toNat_natCast] at g0
      have hrd : rd l (kk : Int) = l[kk]'hlt := by simp [rd, List.getD_eq_getElem?_getD, hlt]
      rw [hrd] at g0
      clear hrd hCL2 hxm
      generalize l[kk]'hlt = x at g0 hx0 hx1 htake
      obtain ⟨g, rfl⟩ : ∃ g, A = some ⟨g, 0, none⟩ := by
        cases A with
        | none =>
          obtain ⟨ad', e', _⟩ := hC.2.2 (by omega)
          cases e'
        | some a =>
          obtain ⟨g, e⟩ := Kd.R_head hR
          exact ⟨g, by rw [e]⟩
      obtain ⟨cc, hcl2, hM, hcc, hfr⟩ := Kd.R_elem HR.out z37 x hx0 hx1
      have hz := k37_openM hM
      subst hz
      have hBr : wr.heap[bb]? = some (.cells #[.slice (some ⟨g, 0, none⟩) code.length c, v1, v2, v3, v4] 53 (0, 0)) := (HK.out.2 bb (blk_lt hB) hne).trans hB
      have hb0 : wr.cell? ⟨bb, 0, none⟩ = some (.slice (some ⟨g, 0, none⟩) code.length c) := (blk_cell hBr 0).trans rfl
      have hb1 : wr.drew.cell? ⟨bb, 0, none⟩ = some (.slice (some ⟨g, 0, none⟩) code.length c) := hb0
      have hc1 : wr.drew.cell? ⟨g, x.toNat * 2 + 1, none⟩ = some (.int .u32 ((aimed code.length code (l.take kk)).getD x.toNat z37).f1) := hcc 1 _ rfl
      have hf1 : wr.drew.frozen? ⟨g, x.toNat * 2 + 1, none⟩ = false := hfr 1
      have p0 : (0 ≤ x) = True := eq_true hx0
      have p1 : (x < (code.length : Int)) = True := eq_true hx1
      have m0 : (code.length : Int) % 4294967296 = code.length := by omega
      have hseg := Kd.R_seg HR.out x hx0 hx1 (seg := [.int .u32 code.length]) (j := 1) hcl2 hcc (by show 1 + 1 ≤ 2; omega) (x' := ⟨((aimed code.length code (l.take kk)).getD x.toNat z37).f0, code.length⟩) (okp := fun _ => False) (k37_mkM _ _ _ _) (fun _ h => h.elim)
      go_wp2_with fail
      refine start_ (n := 16) (S := fun w' => w'.cell? ⟨bb, 0, none⟩ = some (.slice (some ⟨g, 0, none⟩) code.length c)) (ds := [15]) (bz_ 16 0) (by kernel_rfl) rfl rfl (hb0) (fun hHeld => ?_)
      refine with_tab (rfl : rtab .any (opsOf Try.f40 3) = rtab .any (opsOf Try.f40 3)) (fun HT_ => ?_)
      apply pu_ 0 (some 12) (bz_ 16 1) HT_ rfl rfl (by kernel_rfl) (fun _ _ _ h => h) (by rfl)
      · intro _; go_simp; with_reducible rfl
      · go_simp; rfl
      apply pu_ 1 (some 13) (bz_ 16 3) HT_ rfl rfl (by kernel_rfl) (fun _ _ _ h => h) (by rfl)
      · intro _; go_simp; with_reducible rfl
      · go_simp; rfl
      apply pu_ 2 (some 14) (bz_ 16 7) HT_ rfl rfl (by kernel_rfl) (fun _ _ _ h => h) (by rfl)
      · intro _; go_simp; with_reducible rfl
      · go_simp; rfl
      apply pu_ 3 (some 15) (bz_ 16 15) HT_ rfl rfl (by kernel_rfl) (fun _ _ _ h => h) (by rfl)
      · intro _; go_simp; with_reducible rfl
      · go_simp; rfl
      apply pu_ 5 (some 17) (bz_ 16 47) HT_ rfl rfl (by kernel_rfl) (fun _ _ _ h => h) (by rfl)
      · intro _; go_simp; with_reducible rfl
      · go_simp; rfl
      apply pu_ 6 (some 18) (bz_ 16 111) HT_ rfl rfl (by kernel_rfl) (fun _ _ _ h => h) (by rfl)
      · intro _; go_simp; with_reducible rfl
      · go_simp; rfl
      apply pu_ 7 (some 19) (bz_ 16 239) HT_ rfl rfl (by kernel_rfl) (fun _ _ _ h => h) (by rfl)
      · intro _; go_simp; with_reducible rfl
      · go_simp; rfl
      apply pu_ 8 (some 20) (bz_ 16 495) HT_ rfl rfl (by kernel_rfl) (fun _ _ _ h => h) (by rfl)
      · intro _; go_simp; with_reducible rfl
      · go_simp; rfl
      apply pu_ 9 (some 21) (bz_ 16 1007) HT_ rfl rfl (by kernel_rfl) (fun _ _ _ h => h) (by rfl)
      · intro _; go_simp; with_reducible rfl
      · go_simp; rfl
      apply tk_ 4 (some 16) (bz_ 16 1023) HT_ hHeld rfl rfl (by kernel_rfl) (fun _ _ _ h => h) (by rfl)
      · intro _ hS; go_split_ands; go_simp; with_reducible rfl
      · go_simp; rfl
      apply tk_ 10 (some 22) (bz_ 16 2047) HT_ hHeld rfl rfl (by kernel_rfl) (fun _ _ _ h => h) (by rfl)
      · intro _ hS; go_split_ands; go_simp; with_reducible rfl
      · go_simp; rfl
      apply pu_ 11 (some 23) (bz_ 16 4095) HT_ rfl rfl (by kernel_rfl) (fun _ _ _ h => h) (by rfl)
      · intro _; go_simp; with_reducible rfl
      · go_simp; rfl
      apply pu_ 12 (some 24) (bz_ 16 8191) HT_ rfl rfl (by kernel_rfl) (fun _ _ _ h => h) (by rfl)
      · intro _; go_simp; with_reducible rfl
      · go_simp; rfl
      apply pu_ 13 (some 25) (bz_ 16 16383) HT_ rfl rfl (by kernel_rfl) (fun _ _ _ h => h) (by rfl)
      · intro _; go_simp; with_reducible rfl
      · go_simp; rfl
      apply pu_ 14 (some 26) (bz_ 16 32767) HT_ rfl rfl (by kernel_rfl) (fun _ _ _ h => h) (by rfl)
      · intro _; go_simp; with_reducible rfl
      · go_simp; rfl
      refine last_ (i := 15) (N := none) (bz_ 16 65535) rfl rfl (one_of HT_.out (by kernel_rfl)) (by decide) (fun K hK => ?_)
      go_simp
      refine hK.out _ _ ?_
      clear hK K
      refine done_ (done_of HT_.out (by kernel_rfl)) ?_
      clear HT_ hHeld hb1 hc1 hf1
      go_wp2_with fail
      have hg2 : wr.grownBy (wr.setCell ⟨g, x.toNat * 2 + 1, none⟩ (.int .u32 code.length)) (some g) := hseg.2
      have hbase : base ≤ g := Kd.R_base HR.out g (by simp [Value.ownBlock])
      go_roundg (l.length - (kk + 1))
      case measure => omega
      case rel =>
        refine ⟨kk + 1, by omega, by omega, by go_num, ⟨Kd.R_drew ?_⟩, ⟨?_⟩, ⟨(HBW.out.setCell hbase _).drew⟩, ⟨Kd.R_drew ?_⟩⟩
        · rw [htake, aimed_snoc]
          exact hseg.1
        · refine HK.out.then_ (S2 := fun k => some k = (Value.slice (some ⟨g, 0, none⟩) code.length c).ownBlock) ⟨hg2.size, fun k hk hn => hg2.block k hk (fun h => hn h)⟩ (fun k hk => .inl hk)
        · obtain ⟨gl, ecl, hgl⟩ : ∃ cells, wr.heap[g]? = some (.cells cells 37 (0, 0)) ∧ True := by
            obtain ⟨cells, h⟩ := Kd.R_typed HR.out g (by simp [Value.ownBlock])
            exact ⟨cells, h, trivial⟩
          exact Kd.R_set HL.out ecl (by decide) _ _
    · have hltz : ¬ (kk : Int) < (l.length : Int) := by omega
      have : kk = l.length := by omega
      subst this
      rw [List.take_length] at HR
      clear hC hCL
      go_wp2_with fail
      exact bodyPost_end (results_none rfl _ _ _) rfl ⟨rfl, HR.out, HK.out, HBW.out⟩
end Go.Proofs.Ytmglkgjnhoojaaa.PCodeRows
/- The builder's lay. -/
namespace Go.Proofs.Ytmglkgjnhoojaaa.PCodeRows
open Go.RowKit Go.Proofs.YtmglkgjnhoojaaaW.PrintWords Go.Proofs.YtmglkgjnhoojaaaW.PrintLast Go.Proofs.YtmglkgjnhoojaaaW.PrintMore
set_option linter.unusedVariables false
set_option linter.unusedSimpArgs false
set_option maxHeartbeats 2000000 in
theorem lay_calls (bb base : Nat) (v0 v1 v2 v3 v4 : Value) (code : List S37) (kind n : Int) (w : World) (ok : Nat → Prop)
    (hB : w.heap[bb]? = some (.cells #[v0, v1, v2, v3, v4] 53 (0, 0))) (hbb : base ≤ bb) (hR : Kd.R k37 37 w base ok v0 code) (hok : ∀ k, w.heap.size ≤ k → ok k) (hl : code.length < 256) :
    Calls Try.prog 35 #[.pointer (some ⟨bb, 0, none⟩), .int .i64 kind, .int .i64 n] w fun e w' => ∃ v0', e = .returned (.tuple #[.int .i64 code.length, .int .i64 0]) ∧ w'.heap[bb]? = some (.cells #[v0', v1, v2, v3, v4] 53 (0, 0)) ∧ Kd.R k37 37 w' base ok v0' (code ++ [⟨kind, n % 4294967296⟩]) ∧ Kept w w' (fun k => k = bb ∨ some k = v0.ownBlock) ∧ Below base w w' := by
  obtain ⟨A, c, rfl, hc, hC⟩ := Kd.R_reads hR
  have hb0 : w.cell? ⟨bb, 0, none⟩ = some (.slice A code.length c) := (blk_cell hB 0).trans rfl
  have q0 : ((256 : Int) ≤ (code.length : Int)) = False := eq_false (by omega)
  have q1 : decide ((256 : Int) ≤ (code.length : Int)) = false := by simp; omega
  go_enter Try.func35, Try.ntmps35
  go_wp2_with (at_builtin; refine Kd.R_append k37 (w0 := w) (W := w) base rfl _ _ 22 37 (.agg #[(.int .i64 0), (.int .u32 0)]) 16 rfl Try.underlying22 info37 rfl (by decide) (by decide) (.slice A code.length c) code ⟨kind, n % 4294967296⟩ [.int .i64 kind, .int .u32 (n % 4294967296)] ok (fun _ => False) rfl rfl (k37_mkM _ _ _ _) (fun _ h => h.elim) hok hR (Below.refl _ _) (Nat.le_trans hbb (Nat.le_of_lt (blk_lt hB))) (by omega) ?_)
  intro v1' w1 hR1 hB1 hg hat
  have hne : some bb ≠ (Value.slice A code.length c).ownBlock := Kd.R_ne hR hB (by decide)
  have hbk := blk_grown hB hg hne
  have hne1 : some bb ≠ v1'.ownBlock := Kd.R_ne hR1 hbk (by decide)
  have hf : w1.frozen? ⟨bb, 0, none⟩ = false := blk_frozen hbk 0
  obtain ⟨A1, cc1, rfl, hcc1, hC1⟩ := Kd.R_reads hR1
  have hsz : (code ++ [(⟨kind, n % 4294967296⟩ : S37)]).length = code.length + 1 := by simp
  rw [hsz] at hR1 hne1 hC1 ⊢
  have hb1 : w1.cell? ⟨bb, 0, none⟩ = some (.slice A code.length c) := (blk_cell hbk 0).trans rfl
  have hb2 : (w1.setCell ⟨bb, 0, none⟩ (.slice A1 (code.length + 1) cc1)).cell? ⟨bb, 0, none⟩ = some (.slice A1 (code.length + 1) cc1) := (blk_cell (blk_set hbk 0 _) 0).trans rfl
  go_wp2_with fail
  refine bodyPost_ret (v := .tuple #[.int .i64 code.length, .int .i64 0]) (by simp [results, Try.results35, go_sem]) rfl ⟨_, rfl, blk_put hbk 0 _ rfl, Kd.R_set hR1 hbk (by decide) 0 _, ?_, hB1.setCell hbb _⟩
  refine ⟨by simpa using hg.size, fun k hk hn => ?_⟩
  rw [Below.heap_setCell w1 _ _ k (fun h => hn (.inl h))]
  exact hg.block k hk (fun h => hn (.inr h))
set_option maxHeartbeats 2000000 in
theorem lay_long (bb : Nat) (A : Option Addr) (n0 c : Nat) (v1 v2 v3 v4 : Value) (kind n : Int) (w : World)
    (hB : w.heap[bb]? = some (.cells #[.slice A n0 c, v1, v2, v3, v4] 53 (0, 0))) (hl : 256 ≤ n0) :
    Calls Try.prog 35 #[.pointer (some ⟨bb, 0, none⟩), .int .i64 kind, .int .i64 n] w fun e w' => e = .returned (.tuple #[.int .i64 0, .int .i64 3]) ∧ w' = w := by
  have hb0 : w.cell? ⟨bb, 0, none⟩ = some (.slice A n0 c) := (blk_cell hB 0).trans rfl
  have q1 : decide ((256 : Int) ≤ (n0 : Int)) = true := by simp; omega
  go_enter Try.func35, Try.ntmps35
  go_wp2_with fail
  exact bodyPost_ret (v := .tuple #[.int .i64 0, .int .i64 3]) (by simp [results, Try.results35, go_sem]) rfl ⟨rfl, rfl⟩
end Go.Proofs.Ytmglkgjnhoojaaa.PCodeRows
