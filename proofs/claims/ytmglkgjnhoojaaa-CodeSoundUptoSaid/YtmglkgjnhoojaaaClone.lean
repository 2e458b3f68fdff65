/- slices.Clone at the three element types of this program, walked: a row of the call's own, of the same cells. -/
import Derived.Test.YtmglkgjnhoojaaaRKind
import Derived.Lib.SliceRun
import Derived.Laws.AppendOwn
import Derived.Lib.Walk
namespace Go.Proofs.Ytmglkgjnhoojaaa.PCodeRows
open Go.RowKit Go.Proofs.YtmglkgjnhoojaaaW.PrintWords Go.Proofs.YtmglkgjnhoojaaaW.PrintLast Go.Proofs.YtmglkgjnhoojaaaW.PrintMore
set_option linter.unusedVariables false
set_option linter.unusedSimpArgs false
/-- A row that is read: its cells in line. -/
theorem C_inner {α : Type} {d : Kd α} {w : World} {ad : Addr} {xs : List α} (h : d.C w (some ad) xs.length xs) :
    ∃ inner, Reps (d.K w) d.sz xs inner ∧ ∀ j u, inner[j]? = some u → w.cell? (ad.add j) = some u := by
  have key : ∀ m, m ≤ xs.length → ∃ inner, Reps (d.K w) d.sz (xs.take m) inner ∧ ∀ j u, inner[j]? = some u → w.cell? (ad.add j) = some u := by
    intro m
    induction m with
    | zero => exact fun _ => ⟨[], by rw [List.take_zero]; exact Reps.none _ _, fun j u hu => by simp at hu⟩
    | succ m ih =>
      intro hm
      obtain ⟨inner, hI, hc⟩ := ih (by omega)
      obtain ⟨ad', e, hcell⟩ := h.2.2 (by omega)
      cases e
      obtain ⟨c, hs, hK, hu⟩ := hcell m xs[m] (List.getElem?_eq_getElem (by omega))
      refine ⟨inner ++ c, ?_, ?_⟩
      · rw [List.take_add_one, List.getElem?_eq_getElem (by omega)]
        exact hI.snoc hK hs
      · intro j u hj
        have hl : inner.length = m * d.sz := by rw [hI.1, List.length_take, Nat.min_eq_left (by omega)]
        rcases Nat.lt_or_ge j inner.length with h1 | h1
        · rw [List.getElem?_append_left h1] at hj
          exact hc j u hj
        · rw [List.getElem?_append_right h1] at hj
          have := hu (j - inner.length) u hj
          rw [hl] at this
          rwa [Nat.add_sub_cancel' (by omega)] at this
  obtain ⟨inner, h1, h2⟩ := key xs.length (Nat.le_refl _)
  rw [List.take_length] at h1
  exact ⟨inner, h1, h2⟩
theorem reps_one {α : Type} {d : Kd α} {w : World} {xs : List α} {inner : List Value} (h : Reps (d.K w) d.sz xs inner) (h0 : 0 < d.sz) : ∀ u ∈ inner, u.oneCell' = true := by
  intro u hu
  obtain ⟨j, hj, rfl⟩ := List.getElem_of_mem hu
  have hl := h.1
  have hq : j / d.sz < xs.length := Nat.div_lt_of_lt_mul (by rw [Nat.mul_comm, ← hl]; exact hj)
  have hk := h.2 (j / d.sz) _ (List.getElem?_eq_getElem hq)
  refine d.K_one hk _ ?_
  have hm : j % d.sz < d.sz := Nat.mod_lt _ h0
  have he : j = j / d.sz * d.sz + j % d.sz := by rw [Nat.mul_comm]; exact (Nat.div_add_mod _ _).symm
  rw [List.mem_iff_getElem?]
  refine ⟨j % d.sz, ?_⟩
  rw [List.getElem?_take_of_lt hm, List.getElem?_drop, ← he, List.getElem?_eq_getElem hj]
abbrev Cloned {α : Type} (d : Kd α) (t : Nat) (l : List α) (w : World) (v : Value) (w' : World) : Prop := OwnRow (d.K w) t d.sz w' w.heap.size v l ∧ Below w.heap.size w w'
set_option maxHeartbeats 2000000 in
theorem clone36_calls (A : Option Addr) (c : Nat) (l : List S37) (w : World) (hr : Kd.C k37 w A l.length l) (hb : l.length * 16 ≤ 140737488355328) :
    Calls Try.prog 36 #[.slice A l.length c] w fun e w' => ∃ v, e = .returned v ∧ Cloned k37 37 l w v w' := by
  have q22 : ∀ (w : World) (a : Option Addr) (n c n' c' : Nat), (binOp .eql 22 (.slice a n c) (.slice none n' c')).run Try.prog w = .ok (.bool a.isNone) w := fun w a n c n' c' => Lib.run_eql_slice_nil w _ _ a n c n' c' Try.underlying22
  cases A with
  | none =>
    have h0 : l = [] := by
      cases l with
      | nil => rfl
      | cons x xs =>
        obtain ⟨ad, e, _⟩ := hr.2.2 (by simp)
        cases e
    subst h0
    go_enter Try.func36, Try.ntmps36
    go_wp2
    go_ret
    exact ⟨_, rfl, OwnRow.none_ _ _ _ _ _, Below.refl _ _⟩
  | some ad =>
    obtain ⟨inner, hI, hc⟩ := C_inner hr
    have h1 := reps_one hI (by decide)
    have HI := Aside0.mk hI
    have HC := Aside0.mk hc
    have H1 := Aside0.mk h1
    have hlen := hr.2.1
    clear hI hc h1 hr
    obtain ⟨i0, hi0, hi1⟩ : ∃ i0, Try.prog.info? 37 = some i0 ∧ (i0.zero, i0.size, i0.bytes) = (some (.agg #[(.int .i64 0), (.int .u32 0)]), 2, 16) := by
      have := info37
      cases hx : Try.prog.info? 37 with
      | none => rw [hx] at this; cases this
      | some i => rw [hx] at this; exact ⟨i, rfl, Option.some.inj this⟩
    injection hi1 with e1 e23
    injection e23 with e2 e3
    go_enter Try.func36, Try.ntmps36
    go_wp2_with (at_builtin; refine wpList_append_own _ rfl _ _ 22 rfl w.heap.size 37 i0 (.agg #[(.int .i64 0), (.int .u32 0)]) 2 16 Try.underlying22 hi0 e1 e2 e3 rfl (by decide) _ _ _ rfl (World.ownsRow_made w #[] 0 (Nat.le_refl _) (Nat.zero_le _) (by simp)) ad l.length c inner rfl ?qc1 ?qc2 ?qc3 ?qc4 ?qc5 ?qc6 ?_)
    case qc1 => exact HI.out.1
    case qc2 => exact fun j u hj => Lib.cell?_alloc_some _ (HC.out j u hj)
    case qc3 => exact H1.out
    case qc4 => rw [Nat.zero_add]; unfold maxLen; omega
    case qc5 => rw [Nat.zero_add]; exact hb
    case qc6 => simp
    intro v' w1 hown hgrow hnil
    go_wp2
    go_ret
    exact ⟨v', rfl, ⟨inner, hown, HI.out⟩, ((Below.refl _ w).alloc (Nat.le_refl _) _).grown hgrow (by simp) (by intro k hk; simp [Value.ownBlock] at hk; omega)⟩
set_option maxHeartbeats 2000000 in
theorem clone37_calls (A : Option Addr) (c : Nat) (l : List Int) (w : World) (hr : Kd.C (Kd.int .i64) w A l.length l) (hb : l.length * 8 ≤ 140737488355328) :
    Calls Try.prog 37 #[.slice A l.length c] w fun e w' => ∃ v, e = .returned v ∧ Cloned (Kd.int .i64) 3 l w v w' := by
  have q22 : ∀ (w : World) (a : Option Addr) (n c n' c' : Nat), (binOp .eql 23 (.slice a n c) (.slice none n' c')).run Try.prog w = .ok (.bool a.isNone) w := fun w a n c n' c' => Lib.run_eql_slice_nil w _ _ a n c n' c' Try.underlying23
  cases A with
  | none =>
    have h0 : l = [] := by
      cases l with
      | nil => rfl
      | cons x xs =>
        obtain ⟨ad, e, _⟩ := hr.2.2 (by simp)
        cases e
    subst h0
    go_enter Try.func37, Try.ntmps37
    go_wp2
    go_ret
    exact ⟨_, rfl, OwnRow.none_ _ _ _ _ _, Below.refl _ _⟩
  | some ad =>
    obtain ⟨inner, hI, hc⟩ := C_inner hr
    have h1 := reps_one hI (by decide)
    have HI := Aside0.mk hI
    have HC := Aside0.mk hc
    have H1 := Aside0.mk h1
    have hlen := hr.2.1
    clear hI hc h1 hr
    obtain ⟨i0, hi0, hi1⟩ : ∃ i0, Try.prog.info? 3 = some i0 ∧ (i0.zero, i0.size, i0.bytes) = (some (.int .i64 0), 1, 8) := by
      have := info3
      cases hx : Try.prog.info? 3 with
      | none => rw [hx] at this; cases this
      | some i => rw [hx] at this; exact ⟨i, rfl, Option.some.inj this⟩
    injection hi1 with e1 e23
    injection e23 with e2 e3
    go_enter Try.func37, Try.ntmps37
    go_wp2_with (at_builtin; refine wpList_append_own _ rfl _ _ 23 rfl w.heap.size 3 i0 (.int .i64 0) 1 8 Try.underlying23 hi0 e1 e2 e3 rfl (by decide) _ _ _ rfl (World.ownsRow_made w #[] 0 (Nat.le_refl _) (Nat.zero_le _) (by simp)) ad l.length c inner rfl ?qc1 ?qc2 ?qc3 ?qc4 ?qc5 ?qc6 ?_)
    case qc1 => exact HI.out.1
    case qc2 => exact fun j u hj => Lib.cell?_alloc_some _ (HC.out j u hj)
    case qc3 => exact H1.out
    case qc4 => rw [Nat.zero_add]; unfold maxLen; omega
    case qc5 => rw [Nat.zero_add]; exact hb
    case qc6 => simp
    intro v' w1 hown hgrow hnil
    go_wp2
    go_ret
    exact ⟨v', rfl, ⟨inner, hown, HI.out⟩, ((Below.refl _ w).alloc (Nat.le_refl _) _).grown hgrow (by simp) (by intro k hk; simp [Value.ownBlock] at hk; omega)⟩
set_option maxHeartbeats 2000000 in
theorem clone45_calls (A : Option Addr) (c : Nat) (l : List S59) (w : World) (hr : Kd.C k59 w A l.length l) (hb : l.length * 32 ≤ 140737488355328) :
    Calls Try.prog 45 #[.slice A l.length c] w fun e w' => ∃ v, e = .returned v ∧ Cloned k59 59 l w v w' := by
  have q22 : ∀ (w : World) (a : Option Addr) (n c n' c' : Nat), (binOp .eql 24 (.slice a n c) (.slice none n' c')).run Try.prog w = .ok (.bool a.isNone) w := fun w a n c n' c' => Lib.run_eql_slice_nil w _ _ a n c n' c' Try.underlying24
  cases A with
  | none =>
    have h0 : l = [] := by
      cases l with
      | nil => rfl
      | cons x xs =>
        obtain ⟨ad, e, _⟩ := hr.2.2 (by simp)
        cases e
    subst h0
    go_enter Try.func45, Try.ntmps45
    go_wp2
    go_ret
    exact ⟨_, rfl, OwnRow.none_ _ _ _ _ _, Below.refl _ _⟩
  | some ad =>
    obtain ⟨inner, hI, hc⟩ := C_inner hr
    have h1 := reps_one hI (by decide)
    have HI := Aside0.mk hI
    have HC := Aside0.mk hc
    have H1 := Aside0.mk h1
    have hlen := hr.2.1
    clear hI hc h1 hr
    obtain ⟨i0, hi0, hi1⟩ : ∃ i0, Try.prog.info? 59 = some i0 ∧ (i0.zero, i0.size, i0.bytes) = (some (.agg #[(.int .i64 0), (.slice none 0 0)]), 2, 32) := by
      have := info59
      cases hx : Try.prog.info? 59 with
      | none => rw [hx] at this; cases this
      | some i => rw [hx] at this; exact ⟨i, rfl, Option.some.inj this⟩
    injection hi1 with e1 e23
    injection e23 with e2 e3
    go_enter Try.func45, Try.ntmps45
    go_wp2_with (at_builtin; refine wpList_append_own _ rfl _ _ 24 rfl w.heap.size 59 i0 (.agg #[(.int .i64 0), (.slice none 0 0)]) 2 32 Try.underlying24 hi0 e1 e2 e3 rfl (by decide) _ _ _ rfl (World.ownsRow_made w #[] 0 (Nat.le_refl _) (Nat.zero_le _) (by simp)) ad l.length c inner rfl ?qc1 ?qc2 ?qc3 ?qc4 ?qc5 ?qc6 ?_)
    case qc1 => exact HI.out.1
    case qc2 => exact fun j u hj => Lib.cell?_alloc_some _ (HC.out j u hj)
    case qc3 => exact H1.out
    case qc4 => rw [Nat.zero_add]; unfold maxLen; omega
    case qc5 => rw [Nat.zero_add]; exact hb
    case qc6 => simp
    intro v' w1 hown hgrow hnil
    go_wp2
    go_ret
    exact ⟨v', rfl, ⟨inner, hown, HI.out⟩, ((Below.refl _ w).alloc (Nat.le_refl _) _).grown hgrow (by simp) (by intro k hk; simp [Value.ownBlock] at hk; omega)⟩
end Go.Proofs.Ytmglkgjnhoojaaa.PCodeRows
