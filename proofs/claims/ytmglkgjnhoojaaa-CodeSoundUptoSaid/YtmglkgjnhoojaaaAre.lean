/- code.are: whether each number is that of an instruction of one of the kinds; walked: the closure, slices.IndexFunc, slices.ContainsFunc, slices.Contains. -/
import Derived.Test.YtmglkgjnhoojaaaPCodeRowsx5
import Derived.Shelf.Abstract
namespace Go.Proofs.Ytmglkgjnhoojaaa.PCodeRows
open Go.RowKit Go.Proofs.YtmglkgjnhoojaaaW.PrintWords Go.Proofs.YtmglkgjnhoojaaaW.PrintLast Go.Proofs.YtmglkgjnhoojaaaW.PrintMore
set_option linter.unusedVariables false
set_option linter.unusedSimpArgs false

def isOf (code : List S37) (ks : List Int) (n : Int) : Bool := decide (0 ≤ n) && (decide (n < code.length) && decide ((rd_T37 code n).f0 ∈ ks))
def areP (code : List S37) (l ks : List Int) : Bool := l.all (isOf code ks)

theorem index_f (l : List Int) (x : Int) (hl : l.length ≤ 9223372036854775807) : ∀ m i : Nat, i + m = l.length → ∃ r, slices_Index_int_int.l0 (m + 1) l x (l.length : Int) (i : Int) = some r ∧ (0 ≤ r ↔ x ∈ l.drop i) := by
  intro m
  induction m with
  | zero =>
    intro i hi
    refine ⟨-1, ?_, ?_⟩
    · simp only [slices_Index_int_int.l0]
      rw [if_neg (by omega)]
    · rw [List.drop_eq_nil_of_le (by omega)]
      simp
  | succ m ih =>
    intro i hi
    have h1 : i < l.length := by omega
    have hr : rd l (i : Int) = l[i] := by simp [rd, List.getD_eq_getElem?_getD, h1]
    have hd := List.drop_eq_getElem_cons h1
    rw [hd]
    unfold slices_Index_int_int.l0
    rw [if_pos (by omega), if_pos (by omega), if_pos (by omega), hr]
    by_cases hx : x = l[i]
    · rw [if_pos hx]
      exact ⟨i, rfl, by rw [List.mem_cons]; exact ⟨fun _ => .inl hx, fun _ => by omega⟩⟩
    · rw [if_neg hx]
      obtain ⟨r, h2, h3⟩ := ih (i + 1) (by omega)
      have hw : wrap64 ((i : Int) + 1) = ((i + 1 : Nat) : Int) := by
        have : wrap64 ((i : Int) + 1) = (i : Int) + 1 := IntWalk.wrap64_in _ ⟨by omega, by omega⟩
        rw [this]; omega
      refine ⟨r, by rw [hw]; exact h2, ?_⟩
      rw [h3, List.mem_cons]
      exact ⟨.inr, fun h => h.resolve_left hx⟩
theorem contains_calls (A : Option Addr) (c : Nat) (l : List Int) (x : Int) (w : World) (hr : Kd.C (Kd.int .i64) w A l.length l) (hc : l.length ≤ c) :
    Calls Try.prog 34 #[.slice A l.length c, .int .i64 x] w fun e w' => e = .returned (.bool (decide (x ∈ l))) ∧ Drawn0 w w' := by
  obtain ⟨r, h1, h2⟩ := index_f l x hr.2.1 l.length 0 (by omega)
  refine slices_Contains_int_int.calls (l.length + 1) A c l x _ w hr hc ?_
  have h3 : slices_Index_int_int.f (l.length + 1) l x = some r := h1
  unfold slices_Contains_int_int.f
  rw [h3]
  rw [List.drop_zero] at h2
  show some (decide (r ≥ 0)) = _
  congr 1
  exact decide_eq_decide.2 h2

set_option maxHeartbeats 2000000 in
theorem are1_calls (d kb : Nat) (A0 : Option Addr) (c0 : Nat) (code : List S37) (v1 v2 v3 v4 : Value) (A : Option Addr) (c : Nat) (ks : List Int) (x : Int) (w : World)
    (hd : w.heap[d]? = some (.cells #[.slice A0 code.length c0, v1, v2, v3, v4] 26 (0, 0))) (hk : w.heap[kb]? = some (.cells #[.slice A ks.length c] 23 (0, 0)))
    (h0 : Kd.C k37 w A0 code.length code) (hr : Kd.C (Kd.int .i64) w A ks.length ks) (hc : ks.length ≤ c) :
    Calls Try.prog 43 #[.int .i64 x, .pointer (some ⟨d, 0, none⟩), .pointer (some ⟨kb, 0, none⟩)] w fun e w' => e = .returned (.bool (!isOf code ks x)) ∧ Below w.heap.size w w' := by
  have hd0 : w.cell? ⟨d, 0, none⟩ = some (.slice A0 code.length c0) := (blk_cell hd 0).trans rfl
  have hk0 : w.cell? ⟨kb, 0, none⟩ = some (.slice A ks.length c) := (blk_cell hk 0).trans rfl
  by_cases p0 : x < 0
  · have hx : isOf code ks x = false := by simp [isOf]; omega
    rw [hx]
    have q0 := decide_eq_true p0
    go_enter Try.func43, Try.ntmps43
    go_wp2_with fail
    go_quiet (fail)
    go_wp2
    go_ret
    exact ⟨rfl, pw_below_drewN (Below.refl _ _) _⟩
  · have q0 := decide_eq_false p0
    by_cases p1 : (code.length : Int) ≤ x
    · have hx : isOf code ks x = false := by simp [isOf]; omega
      rw [hx]
      have q1 := decide_eq_true p1
      go_enter Try.func43, Try.ntmps43
      go_wp2_with fail
      go_quiet (fail)
      go_wp2
      go_ret
      exact ⟨rfl, pw_below_drewN (Below.refl _ _) _⟩
    · have hx : isOf code ks x = decide ((rd_T37 code x).f0 ∈ ks) := by
        have h1 : 0 ≤ x := by omega
        have h2 : x < (code.length : Int) := by omega
        simp [isOf, h1, h2]
      rw [hx]
      have q1 := decide_eq_false p1
      obtain ⟨ad, e, g0, g1⟩ := at_T37 h0 x (by omega) (by omega)
      cases e
      have p2 : (0 ≤ x) = True := eq_true (by omega)
      have p3 : (x < (code.length : Int)) = True := eq_true (by omega)
      have hcon := fun n => contains_calls A c ks (rd_T37 code x).f0 (w.drewN n) (Kd.C_drewN hr n) hc
      generalize decide ((rd_T37 code x).f0 ∈ ks) = b at hcon ⊢
      go_enter Try.func43, Try.ntmps43
      go_wp2_with fail
      go_quiet ((go_at_call 34; refine (hcon _).mono ?_; rintro e w' ⟨rfl, ⟨n, rfl⟩⟩; exact ⟨rfl, _, World.drewN_drewN _ _ _⟩))
      go_wp2
      go_ret
      exact ⟨by cases b <;> rfl, pw_below_drewN (Below.refl _ _) _⟩

set_option maxHeartbeats 2000000 in
theorem indexFunc_calls (d kb : Nat) (p : Int → Bool) (A : Option Addr) (c : Nat) (l : List Int) (w : World)
    (hr : Kd.C (Kd.int .i64) w A l.length l)
    (hp : ∀ W x, Below w.heap.size w W → Calls Try.prog 43 #[.int .i64 x, .pointer (some ⟨d, 0, none⟩), .pointer (some ⟨kb, 0, none⟩)] W fun e w' => e = .returned (.bool (p x)) ∧ Below W.heap.size W w') :
    Calls Try.prog 46 #[.slice A l.length c, .func (.func 43) #[] #[.pointer (some ⟨d, 0, none⟩), .pointer (some ⟨kb, 0, none⟩)]] w fun e w' => ∃ r, e = .returned (.int .i64 r) ∧ (0 ≤ r ↔ ∃ x, x ∈ l ∧ p x = true) ∧ Below w.heap.size w w' := by
  have hl : l.length ≤ 9223372036854775807 := hr.2.1
  have eg : ∀ args w, (callFunc 43 args).run Try.prog w = .ok (.enter 43 args) w := enters_of Try.func43 (by kernel_rfl) rfl
  go_enter Try.func46, Try.ntmps46
  go_wp2
  go_loopg [5, 8] l.length (fun gg _ s8 wr => ∃ kk : Nat, kk ≤ l.length ∧ l.length - kk ≤ gg ∧ s8 = .int .i64 kk ∧ Aside0 (Below w.heap.size w wr) ∧ Aside0 (∀ j, j < kk → ∀ y, l[j]? = some y → p y = false))
  case atStart => exact ⟨0, Nat.zero_le _, by omega, rfl, ⟨Below.refl _ _⟩, ⟨fun j hj => absurd hj (Nat.not_lt_zero _)⟩⟩
  case round =>
    obtain ⟨kk, hkk, hg, rfl, HB, A1⟩ := hrel
    by_cases hlt : kk < l.length
    · have hltz : (kk : Int) < (l.length : Int) := by omega
      obtain ⟨ad, e, g0⟩ := Kd.at_int hr (kk : Int) (by omega) hltz
      cases e
      have g1 := (HB.out.cell (World.block_lt_of_cell? w _ g0)).trans g0
      have hrd : l[kk]? = some (rd l (kk : Int)) := by simp [rd, List.getD_eq_getElem?_getD, hlt]
      rw [Int.toNat_natCast] at g1
      have HC := hp
      generalize hy : rd l (kk : Int) = y at g0 g1 hrd
      have hcon : ∀ W, Below w.heap.size w W → Calls Try.prog 43 #[.int .i64 y, .pointer (some ⟨d, 0, none⟩), .pointer (some ⟨kb, 0, none⟩)] W fun e w' => e = .returned (.bool (p y)) ∧ Below W.heap.size W w' := fun W hW => hp W y hW
      clear hp HC
      have p2 : (0 ≤ (kk : Int)) = True := eq_true (by omega)
      have p3 : ((kk : Int) < (l.length : Int)) = True := eq_true (by omega)
      cases hq : p y with
      | true =>
        rw [hq] at hcon
        go_wp2_with (go_at_fn 43; refine (hcon _ HB.out).mono ?_; rintro e w' ⟨rfl, hb⟩)
        go_ret
        refine ⟨kk, rfl, ?_, HB.out.trans (hb.mono HB.out.size)⟩
        constructor
        · intro _
          exact ⟨y, List.mem_of_getElem? hrd, hq⟩
        · intro _; omega
      | false =>
        rw [hq] at hcon
        go_wp2_with (go_at_fn 43; refine (hcon _ HB.out).mono ?_; rintro e w' ⟨rfl, hb⟩)
        go_roundg (l.length - (kk + 1))
        case measure => omega
        case rel =>
          refine ⟨kk + 1, by omega, by omega, by go_num, ⟨HB.out.trans (hb.mono HB.out.size)⟩, ⟨fun j hj z hz => ?_⟩⟩
          by_cases e : j = kk
          · subst e
            rw [hrd] at hz
            cases hz
            exact hq
          · exact A1.out j (by omega) z hz
    · have hltz : ¬ (kk : Int) < (l.length : Int) := by omega
      have : kk = l.length := by omega
      subst this
      go_wp2
      go_ret
      refine ⟨-1, rfl, ?_, HB.out⟩
      constructor
      · intro h; omega
      · intro h
        obtain ⟨x, hx, hpx⟩ := h
        obtain ⟨j, hj, rfl⟩ := List.getElem_of_mem hx
        rw [A1.out j hj _ (List.getElem?_eq_getElem hj)] at hpx
        cases hpx

theorem containsFunc_calls (d kb : Nat) (p : Int → Bool) (A : Option Addr) (c : Nat) (l : List Int) (w : World)
    (hr : Kd.C (Kd.int .i64) w A l.length l)
    (hp : ∀ W x, Below w.heap.size w W → Calls Try.prog 43 #[.int .i64 x, .pointer (some ⟨d, 0, none⟩), .pointer (some ⟨kb, 0, none⟩)] W fun e w' => e = .returned (.bool (p x)) ∧ Below W.heap.size W w') :
    Calls Try.prog 42 #[.slice A l.length c, .func (.func 43) #[] #[.pointer (some ⟨d, 0, none⟩), .pointer (some ⟨kb, 0, none⟩)]] w fun e w' => e = .returned (.bool (l.any p)) ∧ Below w.heap.size w w' := by
  have hcon := indexFunc_calls d kb p A c l w hr hp
  have hb : ∀ r : Int, (0 ≤ r ↔ ∃ x, x ∈ l ∧ p x = true) → decide (r ≥ 0) = l.any p := fun r h => by
    rw [← List.any_eq_true] at h
    cases hx : l.any p <;> rw [hx] at h
    · exact decide_eq_false (fun h2 => by simpa using h.1 h2)
    · exact decide_eq_true (h.2 rfl)
  generalize l.any p = b at hb ⊢
  clear hp hr
  go_enter Try.func42, Try.ntmps42
  go_wp2_with (go_at_call 46; refine hcon.mono ?_; rintro e w' ⟨r, rfl, h1, hbb⟩; have h1' := hb r h1; clear h1 hb)
  go_ret
  exact ⟨by rw [← h1']; rfl, hbb⟩

/-- A draft that is read: its five slices. -/
structure DrC (w : World) (A0 A1 A2 A3 A4 : Option Addr) (c0 c1 c2 c3 c4 : Nat) (code : List S37) (origs dests : List Int) (loops cases : List S59) : Prop where
  r0 : Kd.C k37 w A0 code.length code
  r1 : Kd.C (Kd.int .i64) w A1 origs.length origs
  r2 : Kd.C (Kd.int .i64) w A2 dests.length dests
  r3 : Kd.C k59 w A3 loops.length loops
  r4 : Kd.C k59 w A4 cases.length cases
  l0 : code.length ≤ c0
  l1 : origs.length ≤ c1
  l2 : dests.length ≤ c2
  l3 : loops.length ≤ c3
  l4 : cases.length ≤ c4
abbrev drV (A0 A1 A2 A3 A4 : Option Addr) (c0 c1 c2 c3 c4 n0 n1 n2 n3 n4 : Nat) : Value := .agg #[.slice A0 n0 c0, .slice A1 n1 c1, .slice A2 n2 c2, .slice A3 n3 c3, .slice A4 n4 c4]

set_option maxHeartbeats 2000000 in
theorem are_calls (A0 A1 A2 A3 A4 : Option Addr) (c0 c1 c2 c3 c4 : Nat) (code : List S37) (v1 v2 v3 v4 : Value) (B : Option Addr) (b : Nat) (l : List Int) (K : Option Addr) (k : Nat) (ks : List Int) (w : World) (h0 : Kd.C k37 w A0 code.length code)
    (hr : Kd.C (Kd.int .i64) w B l.length l) (hk : Kd.C (Kd.int .i64) w K ks.length ks) (hkk : ks.length ≤ k) :
    Calls Try.prog 29 #[.agg #[.slice A0 code.length c0, v1, v2, v3, v4], .slice B l.length b, .slice K ks.length k] w fun e w' => e = .returned (.bool (areP code l ks)) ∧ Below w.heap.size w w' := by
  go_enter Try.func29, Try.ntmps29
  go_wp2_with fail
  have hd : ((w.alloc (Obj.cells #[Value.slice A0 code.length c0, v1, v2, v3, v4] 26)).alloc (Obj.cells #[Value.slice K ks.length k] 23)).heap[w.heap.size]? = some (.cells #[Value.slice A0 code.length c0, v1, v2, v3, v4] 26 (0, 0)) := blk_alloc (blk_new w _) _
  have hkb : ((w.alloc (Obj.cells #[Value.slice A0 code.length c0, v1, v2, v3, v4] 26)).alloc (Obj.cells #[Value.slice K ks.length k] 23)).heap[w.heap.size + 1]? = some (.cells #[Value.slice K ks.length k] 23 (0, 0)) := by
    have := blk_new (w.alloc (Obj.cells #[Value.slice A0 code.length c0, v1, v2, v3, v4] 26)) (Obj.cells #[Value.slice K ks.length k] 23)
    simpa using this
  refine (containsFunc_calls w.heap.size (w.heap.size + 1) (fun x => !isOf code ks x) B b l _ (Kd.C_alloc (Kd.C_alloc hr _) _) ?_).mono ?_
  · intro W x hb
    exact are1_calls w.heap.size (w.heap.size + 1) A0 c0 code v1 v2 v3 v4 K k ks x W (blk_below hd hb) (blk_below hkb hb) (Kd.C_below (Kd.C_alloc (Kd.C_alloc h0 _) _) hb) (Kd.C_below (Kd.C_alloc (Kd.C_alloc hk _) _) hb) hkk
  · rintro e w' ⟨rfl, hb⟩
    have hB : Below w.heap.size w w' := (below_alloc (below_alloc (Below.refl _ _) _) _).trans (hb.mono (by simp; omega))
    have hx : (!(l.any fun x => !isOf code ks x)) = areP code l ks := by
      simp [areP, List.all_eq_not_any_not]
    generalize (l.any fun x => !isOf code ks x) = r at hx ⊢
    clear hd hkb hb h0 hr hk
    go_wp2
    go_ret
    exact ⟨by rw [← hx]; rfl, hB⟩

theorem pw_below_drewN' {B : Nat} {w W : World} (h : Below B w W) (n : Nat) : Below B w (W.drewN n) := ⟨h.os, h.tape, h.output, h.size, h.block⟩
theorem ret_bool {a b : Bool} (h : a = b) : Ending.returned (.bool a) = .returned (.bool b) := by rw [h]
theorem cell_new (w : World) (cs : Array Value) (t i : Nat) : (w.alloc (.cells cs t)).cell? ⟨w.heap.size, i, none⟩ = cs[i]? := blk_cell (blk_new w _) i
theorem C_new1 (w : World) (a : Int) {k : Nat} (hk : k = w.heap.size) : (Kd.int .i64).C (w.alloc (.cells #[.int .i64 a] 3)) (some ⟨k, 0, none⟩) 1 [a] := by
  subst hk
  exact Kd.C_of_reads (d := 0) ⟨rfl, by decide, fun _ => ⟨_, rfl, fun j hj => by
    have : j = 0 := by omega
    subst this
    exact (cell_new w _ 3 0).trans rfl⟩⟩
theorem C_new2 (w : World) (a b : Int) {k : Nat} (hk : k = w.heap.size) : (Kd.int .i64).C (w.alloc (.cells #[.int .i64 a, .int .i64 b] 3)) (some ⟨k, 0, none⟩) 2 [a, b] := by
  subst hk
  exact Kd.C_of_reads (d := 0) ⟨rfl, by decide, fun _ => ⟨_, rfl, fun j hj => by
    match j, hj with
    | 0, _ => exact (cell_new w _ 3 0).trans rfl
    | 1, _ => exact (cell_new w _ 3 1).trans rfl⟩⟩
end Go.Proofs.Ytmglkgjnhoojaaa.PCodeRows
