/- ScanBack: what is shown of tokens is cut to the same tokens, where it isn't too long. For tokens of bulk at most 1048576. -/
import Derived.Test.YtnnhpbghimjhiaaShowS
import Derived.Test.YtnnhpbghimjhiaaQScanSx7
namespace Go.Proofs.Ytnnhpbghimjhiaa.PureBack
open Go.RowKit Go.Proofs.YtnnhpbghimjhiaaW.PrintWords Go.Proofs.YtnnhpbghimjhiaaW.PrintLast Go.Proofs.YtnnhpbghimjhiaaW.PrintMore Go.Proofs.Ytnnhpbghimjhiaa.QScanS
theorem alive_ev : Ev (fun k => tinderlaw06_alive.f k) true := by
  refine Ev.of tinderlaw06_alive.mono (k := 60) ?_
  decide +kernel
theorem at_get (N : Int) : ∀ (l : List S30) (i : Nat), i < l.length → rd_T30 (atL N l) (i : Int) = ⟨(rd_T30 l i).f0, (rd_T30 l i).f1, N - (showS (l.drop i)).length⟩
  | [], i, h => by simp at h
  | x :: l, 0, h => rfl
  | x :: l, i + 1, h => at_get N l i (by simpa using h)
theorem show_drop (l : List S30) (i : Nat) (h : i + 1 < l.length) : (showS (l.drop (i + 1))).length < (showS (l.drop i)).length := by
  have e : l.drop i = l[i] :: l.drop (i + 1) := List.drop_eq_getElem_cons (by omega)
  rw [e]
  obtain ⟨rest, hs, hr⟩ := showS_cons l[i] (l.drop (i + 1))
  rw [hs, List.length_append]
  rcases hr with ⟨h0, _⟩ | ⟨_, rfl⟩
  · rw [List.drop_eq_nil_iff] at h0; omega
  · simp; omega
theorem loop_ev (N : Int) (l : List S30) (hl : l.length ≤ 1048576) : ∀ n i : Nat, i + n = l.length → Ev (fun k => tinderlaw06_ScanBack.l0 k l (atL N l) (i : Int)) true := by
  intro n
  induction n with
  | zero =>
    intro i hi
    refine Ev.step (f := fun k => tinderlaw06_ScanBack.l0 (k + 1) _ _ _) (fun k => rfl) ?_
    simp only [tinderlaw06_ScanBack.l0, show ¬ ((i : Int) < (l.length : Int)) by omega, ↓reduceIte]
    exact Ev.now _
  | succ n ih =>
    intro i hi
    refine Ev.step (f := fun k => tinderlaw06_ScanBack.l0 (k + 1) _ _ _) (fun k => rfl) ?_
    have hw : wrap64 ((i : Int) + 1) = ((i + 1 : Nat) : Int) := by rw [w64 (by omega) (by omega)]; omega
    simp only [tinderlaw06_ScanBack.l0, show (i : Int) < (l.length : Int) by omega, show (0 : Int) ≤ i by omega, ↓reduceIte, atL_len, at_get N l i (by omega), hw]
    cases i with
    | zero =>
      simp only [show ¬ (((0 : Nat) : Int) > 0) by decide, ↓reduceIte]
      exact ih 1 (by omega)
    | succ j =>
      have hj : wrap64 (((j + 1 : Nat) : Int) - 1) = (j : Int) := by rw [w64 (by omega) (by omega)]; omega
      have hd := show_drop l j (by omega)
      simp only [show ((j + 1 : Nat) : Int) > 0 by omega, ↓reduceIte, hj, show (0 : Int) ≤ j by omega, show (j : Int) < (l.length : Int) by omega, at_get N l j (by omega), show ¬ (N - ((showS (l.drop (j + 1))).length : Int) ≤ N - ((showS (l.drop j)).length : Int)) by omega]
      exact ih (j + 2) (by omega)
theorem ScanBack (l : List S30) (hs : ∀ x ∈ l, x.f1.size ≤ 1048576) (hn : l.length ≤ 1048576) : ∃ k, tinderlaw06_ScanBack.f k l = some true := by
  refine Ev.rounds (g := fun k => tinderlaw06_ScanBack.f k l) ?_
  unfold tinderlaw06_ScanBack.f
  refine Ev.bind alive_ev ?_
  simp only [↓reduceIte]
  by_cases hr : ∀ x ∈ l, rightP x = true
  case neg =>
    have hb : ∃ x ∈ l, rightP x = false := by
      simp only [Classical.not_forall] at hr
      obtain ⟨x, hx, h⟩ := hr
      exact ⟨x, hx, by simpa using h⟩
    refine Ev.bind (show_bad l hb hs hn) ?_
    simp only [show ¬ ((1 : Int) = 0) by decide, byt_toList, ↓reduceIte]
    exact Ev.now _
  refine Ev.bind (show_ev l hr hs hn) ?_
  simp only [↓reduceIte]
  by_cases hb : (byt (showS l)).size ≤ 4096
  case neg =>
    refine Ev.bind (cut_big _ (by omega)) ?_
    have : ((byt (showS l)).size : Int) > 4096 := by omega
    simp only [this, ↓reduceIte]
    exact Ev.now _
  have hk := cutS (byt (showS l)) hb (back l hr)
  refine Ev.bind hk ?_
  have h6 : ¬ (((byt (showS l)).size : Int) > 4096) := by omega
  unfold fin
  simp only [h6, ↓reduceIte, List.nil_append]
  refine Ev.step (f := fun k => tinderlaw06_ScanBack.j0 (k + 1) _ _ _) (fun k => rfl) ?_
  simp only [tinderlaw06_ScanBack.j0, atL_len, bne_self_eq_false, Bool.false_eq_true, ↓reduceIte]
  exact loop_ev _ l hn l.length 0 (by omega)
end Go.Proofs.Ytnnhpbghimjhiaa.PureBack
