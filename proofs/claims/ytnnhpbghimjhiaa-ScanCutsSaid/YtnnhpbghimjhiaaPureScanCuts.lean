/- ScanCuts: each source text is cut into tokens, or refused, by the program as by the reference. No condition. -/
import Derived.Test.YtnnhpbghimjhiaaCutC
namespace Go.Proofs.Ytnnhpbghimjhiaa.Pure
open Go.RowKit Go.Proofs.YtnnhpbghimjhiaaW.PrintWords Go.Proofs.YtnnhpbghimjhiaaW.PrintLast Go.Proofs.YtnnhpbghimjhiaaW.PrintMore Go.Proofs.Ytnnhpbghimjhiaa.QScan
theorem alive_ev : Ev (fun k => tinderlaw06_alive.f k) true := by
  refine Ev.of tinderlaw06_alive.mono (k := 60) ?_
  decide +kernel
theorem ScanCuts : tinderlaw06_ScanCuts.Pure := by
  intro s hs
  refine Ev.rounds (g := fun k => tinderlaw06_ScanCuts.f k s) ?_
  unfold tinderlaw06_ScanCuts.f
  refine Ev.bind alive_ev ?_
  simp only [↓reduceIte]
  by_cases h : s.size ≤ 4096
  · obtain ⟨q, hq⟩ := cut_ex (s.size : Int) _ s.data.toList (Nat.lt_succ_self _)
    obtain ⟨h1, h2⟩ := cuts s h hq
    have hc := cut_count hq
    rw [size_len] at hc
    refine Ev.bind h1 (Ev.bind h2 (Ev.bind (same_f _ ?_) ?_))
    · unfold fin; dsimp only; split
      · simp; omega
      · simp
    · simp only [↓reduceIte, beq_self_eq_true]
      exact Ev.now _
  · have h1 : Ev (fun k => scan_Cut.f k s) ([], 3) := by
      simp only [scan_Cut.f, show (s.size : Int) > 4096 by omega, ↓reduceIte]
      exact Ev.now _
    have h2 : Ev (fun k => tinderref06_Cut.f k s) ([], 3) := by
      simp only [tinderref06_Cut.f, show (s.size : Int) > 4096 by omega, ↓reduceIte]
      exact Ev.now _
    refine Ev.bind h1 (Ev.bind h2 (Ev.bind (same_f _ (by simp)) ?_))
    simp only [↓reduceIte, beq_self_eq_true]
    exact Ev.now _
end Go.Proofs.Ytnnhpbghimjhiaa.Pure
