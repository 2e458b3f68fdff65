/- CellWides, the walk: a double divided by a cell in three ways, and a product of two cells, are the reference's. No condition. -/
import Derived.Test.YtdjpodpibkcnaabQCellWidesx1
import Derived.Test.YtdjpodpibkcnaabQCellWidesx2
import Derived.Test.YtdjpodpibkcnaabQCellWidesx3
import Derived.Test.YtdjpodpibkcnaabQCellWidesx4
import Derived.Test.YtdjpodpibkcnaabPureCellWides
namespace Go.Proofs.Ytdjpodpibkcnaab.WidesLaw
open Go.RowKit Go.Proofs.Ytdjpodpibkcnaab.QCellWides Go.Proofs.YtdjpodpibkcnaabW.PrintWords Go.Proofs.YtdjpodpibkcnaabW.PrintLast Go.Proofs.YtdjpodpibkcnaabW.PrintMore
set_option linter.unusedVariables false
set_option linter.unusedSimpArgs false
set_option maxHeartbeats 1000000 in
theorem law_calls (k : Nat) (op a b d q r e l h : Int) (w : World) (ha : tinderlaw01_alive.f k = some true)
    (h1 : cell_Wide.f k op a b d = some (q, r, e)) (h2 : tinderref01_Wide.f k op a b d = some (q, r, e))
    (h3 : cell_Times.f a b = some (l, h)) (h4 : tinderref01_Times.f a b = some (l, h)) :
    Calls Try.prog 3 #[.int .i64 op, .agg #[.int .u32 a, .int .u32 b], .int .u32 d] w fun e w' => e = .returned (.bool true) ∧ Below w.heap.size w w' := by
  have HA := Aside0.mk ha
  have H1 := Aside0.mk h1
  have H2 := Aside0.mk h2
  have H3 := Aside0.mk h3
  have H4 := Aside0.mk h4
  clear ha h1 h2 h3 h4
  go_enter Try.func3, Try.ntmps3
  go_wp2_with fail
  refine (tinderlaw01_alive.calls k true _ HA.out).mono ?_
  rintro e1 w1 ⟨rfl, hb1⟩
  have x0 : w1.cell? ⟨w.heap.size, 0, none⟩ = some (.int .u32 a) := (hb1.cell (p := ⟨w.heap.size, 0, none⟩) (by simp)).trans (by simp)
  have x1 : w1.cell? ⟨w.heap.size, 1, none⟩ = some (.int .u32 b) := (hb1.cell (p := ⟨w.heap.size, 1, none⟩) (by simp)).trans (by simp)
  have B1 := Aside0.mk ((((Below.refl _ _).alloc (Nat.le_refl _) _).trans (hb1.mono (by simp))) : Below w.heap.size w w1)
  clear hb1
  go_wp2_with fail
  refine (cell_Wide.calls k op a b d q r e w1 H1.out).mono ?_
  rintro e2 w2 ⟨rfl, ⟨n2, rfl⟩⟩
  go_wp2_with fail
  refine (tinderref01_Wide.calls k op a b d q r e _ H2.out).mono ?_
  rintro e3 w3 ⟨rfl, hb3⟩
  have y0 : w3.cell? ⟨w.heap.size, 0, none⟩ = some (.int .u32 a) := pw_cell_below hb3 (by simpa using x0)
  have y1 : w3.cell? ⟨w.heap.size, 1, none⟩ = some (.int .u32 b) := pw_cell_below hb3 (by simpa using x1)
  have B3 := Aside0.mk ((pw_below_drewN B1.out n2).trans (hb3.mono (pw_below_drewN B1.out n2).size) : Below w.heap.size w w3)
  clear hb3 x0 x1 B1
  go_wp2_with fail
  refine (cell_Times.calls a b l h _ H3.out).mono ?_
  rintro e4 w4 ⟨rfl, ⟨n4, rfl⟩⟩
  go_wp2_with fail
  refine (tinderref01_Times.calls a b l h _ H4.out).mono ?_
  rintro e5 w5 ⟨rfl, ⟨n5, rfl⟩⟩
  go_wp2_with fail
  go_ret
  exact ⟨by simp, pw_below_drewN B3.out _⟩
open Go.Proofs.Ytdjpodpibkcnaab.M in
theorem all (op a b d : Int) (w : World) (_ : (Lit.int .i64 op).wf = true) (ha : (Lit.int .u32 a).wf = true) (hb : (Lit.int .u32 b).wf = true) (hd : (Lit.int .u32 d).wf = true) :
    Calls Try.prog 3 #[.int .i64 op, .agg #[.int .u32 a, .int .u32 b], .int .u32 d] w fun e w' => e = .returned (.bool true) ∧ Below w.heap.size w w' := by
  have xa := wf32 ha
  have xb := wf32 hb
  have xd := wf32 hd
  obtain ⟨q, r, e, h1, h2⟩ := Wides.sameWide op a b d xa.1 xa.2 xb.1 xb.2 xd.1 xd.2
  obtain ⟨l, h, h3, h4⟩ := Wides.sameTimes a b xa.1 xa.2 xb.1 xb.2
  exact law_calls 7 op a b d q r e l h w (Wides.alive 5) h1 h2 h3 h4
end Go.Proofs.Ytdjpodpibkcnaab.WidesLaw
