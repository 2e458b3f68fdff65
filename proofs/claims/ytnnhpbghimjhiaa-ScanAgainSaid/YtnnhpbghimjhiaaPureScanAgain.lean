/- ScanAgain: the tokens of a text can be shown, and what is shown stays the same when it is cut and shown again. No condition. -/
import Derived.Test.YtnnhpbghimjhiaaShowS
import Derived.Test.YtnnhpbghimjhiaaQScanSx7
namespace Go.Proofs.Ytnnhpbghimjhiaa.Pure
open Go.RowKit Go.Proofs.YtnnhpbghimjhiaaW.PrintWords Go.Proofs.YtnnhpbghimjhiaaW.PrintLast Go.Proofs.YtnnhpbghimjhiaaW.PrintMore Go.Proofs.Ytnnhpbghimjhiaa.QScanS
theorem alive_ev : Ev (fun k => tinderlaw06_alive.f k) true := by
  refine Ev.of tinderlaw06_alive.mono (k := 60) ?_
  decide +kernel
theorem ScanAgain : tinderlaw06_ScanAgain.Pure := by
  intro s hs
  refine Ev.rounds (g := fun k => tinderlaw06_ScanAgain.f k s) ?_
  unfold tinderlaw06_ScanAgain.f
  refine Ev.bind alive_ev ?_
  simp only [↓reduceIte]
  by_cases h : s.size ≤ 4096
  case neg =>
    refine Ev.bind (cut_big s (by omega)) ?_
    simp only [show ¬ ((3 : Int) = 0) by decide, ↓reduceIte]
    exact Ev.now _
  obtain ⟨q, hq⟩ := cut_ex (s.size : Int) _ s.data.toList (Nat.lt_succ_self _)
  refine Ev.bind (cutS s h hq) ?_
  unfold fin
  by_cases h0 : q.1 = 0
  case neg =>
    simp only [h0, ↓reduceIte]
    exact Ev.now _
  simp only [h0, ↓reduceIte, List.nil_append]
  have hc := cut_count hq
  have hz := cut_sizes hq
  have hr := cut_right hq
  rw [size_len] at hc
  have hz' : ∀ x ∈ q.2, x.f1.size ≤ 1048576 := fun x hx => by have := hz x hx; rw [size_len] at this; omega
  refine Ev.bind (show_ev q.2 hr hz' (by omega)) ?_
  simp only [↓reduceIte]
  by_cases hb : (byt (showS q.2)).size ≤ 4096
  case neg =>
    refine Ev.bind (cut_big _ (by omega)) ?_
    have : ((byt (showS q.2)).size : Int) > 4096 := by omega
    simp only [this, ↓reduceIte]
    exact Ev.now _
  have hk := cutS (byt (showS q.2)) hb (back q.2 hr)
  refine Ev.bind hk ?_
  have h6 : ¬ (((byt (showS q.2)).size : Int) > 4096) := by omega
  unfold fin
  simp only [h6, ↓reduceIte, List.nil_append]
  have hsh := show_ev (atL ((byt (showS q.2)).size : Int) q.2) (atL_right hr) (atL_size hz') (by rw [atL_len]; omega)
  rw [atL_show] at hsh
  refine Ev.bind hsh ?_
  simp only [↓reduceIte, atL_len, beq_self_eq_true]
  exact Ev.now _
end Go.Proofs.Ytnnhpbghimjhiaa.Pure
