/- CellDoubles, the walk of the law: sums and differences of doubles are the reference's, and a sum is undone by a difference. No condition. -/
import Derived.Test.YtdjpodpibkcnaaaQCellDoublesx1
import Derived.Test.YtdjpodpibkcnaaaPureCellDoubles
import Derived.Test.YtdjpodpibkcnaaaDoubles
import Derived.Test.YtdjpodpibkcnaaaArrEq
namespace Go.Proofs.Ytdjpodpibkcnaaa.DoublesLaw
open Go.RowKit Go.Proofs.Ytdjpodpibkcnaaa.QCellDoubles Go.Proofs.YtdjpodpibkcnaaaW.PrintWords Go.Proofs.YtdjpodpibkcnaaaW.PrintLast Go.Proofs.YtdjpodpibkcnaaaW.PrintMore
set_option linter.unusedVariables false
set_option linter.unusedSimpArgs false
def Dbl (f : FuncId) (op a0 a1 b0 b1 c0 c1 e' : Int) : Prop := ∀ W : World, Calls Try.prog f #[.int .i64 op, .agg #[.int .u32 a0, .int .u32 a1], .agg #[.int .u32 b0, .int .u32 b1]] W fun e w' => e = .returned (.tuple #[.agg #[.int .u32 c0, .int .u32 c1], .int .i64 e']) ∧ Below W.heap.size W w'
theorem keep {W w1 : World} (hb : Below W.heap.size W w1) {b o : Nat} {v : Value} (h : W.cell? ⟨b, o, none⟩ = some v) : w1.cell? ⟨b, o, none⟩ = some v := pw_cell_below hb h
theorem keepA {W : World} {b o : Nat} {v : Value} (x : Obj) (h : W.cell? ⟨b, o, none⟩ = some v) : (W.alloc x).cell? ⟨b, o, none⟩ = some v := pw_cell_below ((Below.refl _ _).alloc (Nat.le_refl _) x) h
set_option maxHeartbeats 2000000 in
theorem law_calls (k : Nat) (op a0 a1 b0 b1 x0 x1 e s0 s1 : Int) (w : World) (ha : tinderlaw01_alive.f k = some true)
    (h1 : Dbl 19 op a0 a1 b0 b1 x0 x1 e) (h2 : Dbl 20 op a0 a1 b0 b1 x0 x1 e) (h3 : Dbl 19 216 a0 a1 b0 b1 s0 s1 0) (h4 : Dbl 19 217 s0 s1 b0 b1 a0 a1 0) :
    Calls Try.prog 7 #[.int .i64 op, .agg #[.int .u32 a0, .int .u32 a1], .agg #[.int .u32 b0, .int .u32 b1]] w fun e w' => e = .returned (.bool true) ∧ Below w.heap.size w w' := by
  have HA := Aside0.mk ha
  have H1 := Aside0.mk h1
  have H2 := Aside0.mk h2
  have H3 := Aside0.mk h3
  have H4 := Aside0.mk h4
  clear ha h1 h2 h3 h4
  have hq := ArrEq.dbl_eq
  go_enter Try.func7, Try.ntmps7
  go_wp2_with fail
  refine (tinderlaw01_alive.calls k true _ HA.out).mono ?_
  rintro e1 w1 ⟨rfl, hb1⟩
  have B1 := Aside0.mk (((((Below.refl _ _).alloc (Nat.le_refl _) _).alloc (by simp) _).trans (hb1.mono (by simp; omega))) : Below w.heap.size w w1)
  have f1_0_0 : w1.cell? ⟨w.heap.size, 0, none⟩ = some (.int .u32 a0) := keep hb1 (by simp)
  have f1_0_1 : w1.cell? ⟨w.heap.size, 1, none⟩ = some (.int .u32 a1) := keep hb1 (by simp)
  have f1_1_0 : w1.cell? ⟨(w.heap.size + 1), 0, none⟩ = some (.int .u32 b0) := keep hb1 (by simp)
  have f1_1_1 : w1.cell? ⟨(w.heap.size + 1), 1, none⟩ = some (.int .u32 b1) := keep hb1 (by simp)
  clear hb1
  go_wp2_with fail
  refine (H1.out w1).mono ?_
  rintro e2 w2 ⟨rfl, hb2⟩
  have B2 := Aside0.mk (B1.out.trans (hb2.mono B1.out.size) : Below w.heap.size w w2)
  have f2_0_0 : w2.cell? ⟨w.heap.size, 0, none⟩ = some (.int .u32 a0) := keep hb2 f1_0_0
  have f2_0_1 : w2.cell? ⟨w.heap.size, 1, none⟩ = some (.int .u32 a1) := keep hb2 f1_0_1
  have f2_1_0 : w2.cell? ⟨(w.heap.size + 1), 0, none⟩ = some (.int .u32 b0) := keep hb2 f1_1_0
  have f2_1_1 : w2.cell? ⟨(w.heap.size + 1), 1, none⟩ = some (.int .u32 b1) := keep hb2 f1_1_1
  clear f1_0_0 f1_0_1 f1_1_0 f1_1_1
  clear hb2
  have g2_0_0 : (w2.alloc (.cells #[.int .u32 x0, .int .u32 x1] 36)).cell? ⟨w.heap.size, 0, none⟩ = some (.int .u32 a0) := keepA _ f2_0_0
  have g2_0_1 : (w2.alloc (.cells #[.int .u32 x0, .int .u32 x1] 36)).cell? ⟨w.heap.size, 1, none⟩ = some (.int .u32 a1) := keepA _ f2_0_1
  have g2_1_0 : (w2.alloc (.cells #[.int .u32 x0, .int .u32 x1] 36)).cell? ⟨(w.heap.size + 1), 0, none⟩ = some (.int .u32 b0) := keepA _ f2_1_0
  have g2_1_1 : (w2.alloc (.cells #[.int .u32 x0, .int .u32 x1] 36)).cell? ⟨(w.heap.size + 1), 1, none⟩ = some (.int .u32 b1) := keepA _ f2_1_1
  clear f2_0_0 f2_0_1 f2_1_0 f2_1_1
  have g2_2_0 : (w2.alloc (.cells #[.int .u32 x0, .int .u32 x1] 36)).cell? ⟨w2.heap.size, 0, none⟩ = some (.int .u32 x0) := by simp
  have g2_2_1 : (w2.alloc (.cells #[.int .u32 x0, .int .u32 x1] 36)).cell? ⟨w2.heap.size, 1, none⟩ = some (.int .u32 x1) := by simp
  go_wp2_with fail
  refine (H2.out (w2.alloc (.cells #[.int .u32 x0, .int .u32 x1] 36))).mono ?_
  rintro e3 w3 ⟨rfl, hb3⟩
  have B3 := Aside0.mk ((B2.out.alloc B2.out.size _).trans (hb3.mono (Nat.le_trans B2.out.size (by simp))) : Below w.heap.size w w3)
  have f3_0_0 : w3.cell? ⟨w.heap.size, 0, none⟩ = some (.int .u32 a0) := keep hb3 g2_0_0
  have f3_0_1 : w3.cell? ⟨w.heap.size, 1, none⟩ = some (.int .u32 a1) := keep hb3 g2_0_1
  have f3_1_0 : w3.cell? ⟨(w.heap.size + 1), 0, none⟩ = some (.int .u32 b0) := keep hb3 g2_1_0
  have f3_1_1 : w3.cell? ⟨(w.heap.size + 1), 1, none⟩ = some (.int .u32 b1) := keep hb3 g2_1_1
  have f3_2_0 : w3.cell? ⟨w2.heap.size, 0, none⟩ = some (.int .u32 x0) := keep hb3 g2_2_0
  have f3_2_1 : w3.cell? ⟨w2.heap.size, 1, none⟩ = some (.int .u32 x1) := keep hb3 g2_2_1
  clear g2_0_0 g2_0_1 g2_1_0 g2_1_1 g2_2_0 g2_2_1
  clear hb3
  have g3_0_0 : (w3.alloc (.cells #[.int .u32 x0, .int .u32 x1] 36)).cell? ⟨w.heap.size, 0, none⟩ = some (.int .u32 a0) := keepA _ f3_0_0
  have g3_0_1 : (w3.alloc (.cells #[.int .u32 x0, .int .u32 x1] 36)).cell? ⟨w.heap.size, 1, none⟩ = some (.int .u32 a1) := keepA _ f3_0_1
  have g3_1_0 : (w3.alloc (.cells #[.int .u32 x0, .int .u32 x1] 36)).cell? ⟨(w.heap.size + 1), 0, none⟩ = some (.int .u32 b0) := keepA _ f3_1_0
  have g3_1_1 : (w3.alloc (.cells #[.int .u32 x0, .int .u32 x1] 36)).cell? ⟨(w.heap.size + 1), 1, none⟩ = some (.int .u32 b1) := keepA _ f3_1_1
  have g3_2_0 : (w3.alloc (.cells #[.int .u32 x0, .int .u32 x1] 36)).cell? ⟨w2.heap.size, 0, none⟩ = some (.int .u32 x0) := keepA _ f3_2_0
  have g3_2_1 : (w3.alloc (.cells #[.int .u32 x0, .int .u32 x1] 36)).cell? ⟨w2.heap.size, 1, none⟩ = some (.int .u32 x1) := keepA _ f3_2_1
  clear f3_0_0 f3_0_1 f3_1_0 f3_1_1 f3_2_0 f3_2_1
  have g3_3_0 : (w3.alloc (.cells #[.int .u32 x0, .int .u32 x1] 36)).cell? ⟨w3.heap.size, 0, none⟩ = some (.int .u32 x0) := by simp
  have g3_3_1 : (w3.alloc (.cells #[.int .u32 x0, .int .u32 x1] 36)).cell? ⟨w3.heap.size, 1, none⟩ = some (.int .u32 x1) := by simp
  go_wp2_with fail
  refine (H3.out (w3.alloc (.cells #[.int .u32 x0, .int .u32 x1] 36))).mono ?_
  rintro e4 w4 ⟨rfl, hb4⟩
  have B4 := Aside0.mk ((B3.out.alloc B3.out.size _).trans (hb4.mono (Nat.le_trans B3.out.size (by simp))) : Below w.heap.size w w4)
  have f4_0_0 : w4.cell? ⟨w.heap.size, 0, none⟩ = some (.int .u32 a0) := keep hb4 g3_0_0
  have f4_0_1 : w4.cell? ⟨w.heap.size, 1, none⟩ = some (.int .u32 a1) := keep hb4 g3_0_1
  have f4_1_0 : w4.cell? ⟨(w.heap.size + 1), 0, none⟩ = some (.int .u32 b0) := keep hb4 g3_1_0
  have f4_1_1 : w4.cell? ⟨(w.heap.size + 1), 1, none⟩ = some (.int .u32 b1) := keep hb4 g3_1_1
  have f4_2_0 : w4.cell? ⟨w2.heap.size, 0, none⟩ = some (.int .u32 x0) := keep hb4 g3_2_0
  have f4_2_1 : w4.cell? ⟨w2.heap.size, 1, none⟩ = some (.int .u32 x1) := keep hb4 g3_2_1
  have f4_3_0 : w4.cell? ⟨w3.heap.size, 0, none⟩ = some (.int .u32 x0) := keep hb4 g3_3_0
  have f4_3_1 : w4.cell? ⟨w3.heap.size, 1, none⟩ = some (.int .u32 x1) := keep hb4 g3_3_1
  clear g3_0_0 g3_0_1 g3_1_0 g3_1_1 g3_2_0 g3_2_1 g3_3_0 g3_3_1
  clear hb4
  have g4_0_0 : (w4.alloc (.cells #[.int .u32 s0, .int .u32 s1] 36)).cell? ⟨w.heap.size, 0, none⟩ = some (.int .u32 a0) := keepA _ f4_0_0
  have g4_0_1 : (w4.alloc (.cells #[.int .u32 s0, .int .u32 s1] 36)).cell? ⟨w.heap.size, 1, none⟩ = some (.int .u32 a1) := keepA _ f4_0_1
  have g4_1_0 : (w4.alloc (.cells #[.int .u32 s0, .int .u32 s1] 36)).cell? ⟨(w.heap.size + 1), 0, none⟩ = some (.int .u32 b0) := keepA _ f4_1_0
  have g4_1_1 : (w4.alloc (.cells #[.int .u32 s0, .int .u32 s1] 36)).cell? ⟨(w.heap.size + 1), 1, none⟩ = some (.int .u32 b1) := keepA _ f4_1_1
  have g4_2_0 : (w4.alloc (.cells #[.int .u32 s0, .int .u32 s1] 36)).cell? ⟨w2.heap.size, 0, none⟩ = some (.int .u32 x0) := keepA _ f4_2_0
  have g4_2_1 : (w4.alloc (.cells #[.int .u32 s0, .int .u32 s1] 36)).cell? ⟨w2.heap.size, 1, none⟩ = some (.int .u32 x1) := keepA _ f4_2_1
  have g4_3_0 : (w4.alloc (.cells #[.int .u32 s0, .int .u32 s1] 36)).cell? ⟨w3.heap.size, 0, none⟩ = some (.int .u32 x0) := keepA _ f4_3_0
  have g4_3_1 : (w4.alloc (.cells #[.int .u32 s0, .int .u32 s1] 36)).cell? ⟨w3.heap.size, 1, none⟩ = some (.int .u32 x1) := keepA _ f4_3_1
  clear f4_0_0 f4_0_1 f4_1_0 f4_1_1 f4_2_0 f4_2_1 f4_3_0 f4_3_1
  have g4_4_0 : (w4.alloc (.cells #[.int .u32 s0, .int .u32 s1] 36)).cell? ⟨w4.heap.size, 0, none⟩ = some (.int .u32 s0) := by simp
  have g4_4_1 : (w4.alloc (.cells #[.int .u32 s0, .int .u32 s1] 36)).cell? ⟨w4.heap.size, 1, none⟩ = some (.int .u32 s1) := by simp
  go_wp2_with fail
  refine (H4.out (w4.alloc (.cells #[.int .u32 s0, .int .u32 s1] 36))).mono ?_
  rintro e5 w5 ⟨rfl, hb5⟩
  have B5 := Aside0.mk ((B4.out.alloc B4.out.size _).trans (hb5.mono (Nat.le_trans B4.out.size (by simp))) : Below w.heap.size w w5)
  have f5_0_0 : w5.cell? ⟨w.heap.size, 0, none⟩ = some (.int .u32 a0) := keep hb5 g4_0_0
  have f5_0_1 : w5.cell? ⟨w.heap.size, 1, none⟩ = some (.int .u32 a1) := keep hb5 g4_0_1
  have f5_1_0 : w5.cell? ⟨(w.heap.size + 1), 0, none⟩ = some (.int .u32 b0) := keep hb5 g4_1_0
  have f5_1_1 : w5.cell? ⟨(w.heap.size + 1), 1, none⟩ = some (.int .u32 b1) := keep hb5 g4_1_1
  have f5_2_0 : w5.cell? ⟨w2.heap.size, 0, none⟩ = some (.int .u32 x0) := keep hb5 g4_2_0
  have f5_2_1 : w5.cell? ⟨w2.heap.size, 1, none⟩ = some (.int .u32 x1) := keep hb5 g4_2_1
  have f5_3_0 : w5.cell? ⟨w3.heap.size, 0, none⟩ = some (.int .u32 x0) := keep hb5 g4_3_0
  have f5_3_1 : w5.cell? ⟨w3.heap.size, 1, none⟩ = some (.int .u32 x1) := keep hb5 g4_3_1
  have f5_4_0 : w5.cell? ⟨w4.heap.size, 0, none⟩ = some (.int .u32 s0) := keep hb5 g4_4_0
  have f5_4_1 : w5.cell? ⟨w4.heap.size, 1, none⟩ = some (.int .u32 s1) := keep hb5 g4_4_1
  clear g4_0_0 g4_0_1 g4_1_0 g4_1_1 g4_2_0 g4_2_1 g4_3_0 g4_3_1 g4_4_0 g4_4_1
  clear hb5
  have g5_0_0 : (w5.alloc (.cells #[.int .u32 a0, .int .u32 a1] 36)).cell? ⟨w.heap.size, 0, none⟩ = some (.int .u32 a0) := keepA _ f5_0_0
  have g5_0_1 : (w5.alloc (.cells #[.int .u32 a0, .int .u32 a1] 36)).cell? ⟨w.heap.size, 1, none⟩ = some (.int .u32 a1) := keepA _ f5_0_1
  have g5_1_0 : (w5.alloc (.cells #[.int .u32 a0, .int .u32 a1] 36)).cell? ⟨(w.heap.size + 1), 0, none⟩ = some (.int .u32 b0) := keepA _ f5_1_0
  have g5_1_1 : (w5.alloc (.cells #[.int .u32 a0, .int .u32 a1] 36)).cell? ⟨(w.heap.size + 1), 1, none⟩ = some (.int .u32 b1) := keepA _ f5_1_1
  have g5_2_0 : (w5.alloc (.cells #[.int .u32 a0, .int .u32 a1] 36)).cell? ⟨w2.heap.size, 0, none⟩ = some (.int .u32 x0) := keepA _ f5_2_0
  have g5_2_1 : (w5.alloc (.cells #[.int .u32 a0, .int .u32 a1] 36)).cell? ⟨w2.heap.size, 1, none⟩ = some (.int .u32 x1) := keepA _ f5_2_1
  have g5_3_0 : (w5.alloc (.cells #[.int .u32 a0, .int .u32 a1] 36)).cell? ⟨w3.heap.size, 0, none⟩ = some (.int .u32 x0) := keepA _ f5_3_0
  have g5_3_1 : (w5.alloc (.cells #[.int .u32 a0, .int .u32 a1] 36)).cell? ⟨w3.heap.size, 1, none⟩ = some (.int .u32 x1) := keepA _ f5_3_1
  have g5_4_0 : (w5.alloc (.cells #[.int .u32 a0, .int .u32 a1] 36)).cell? ⟨w4.heap.size, 0, none⟩ = some (.int .u32 s0) := keepA _ f5_4_0
  have g5_4_1 : (w5.alloc (.cells #[.int .u32 a0, .int .u32 a1] 36)).cell? ⟨w4.heap.size, 1, none⟩ = some (.int .u32 s1) := keepA _ f5_4_1
  clear f5_0_0 f5_0_1 f5_1_0 f5_1_1 f5_2_0 f5_2_1 f5_3_0 f5_3_1 f5_4_0 f5_4_1
  have g5_5_0 : (w5.alloc (.cells #[.int .u32 a0, .int .u32 a1] 36)).cell? ⟨w5.heap.size, 0, none⟩ = some (.int .u32 a0) := by simp
  have g5_5_1 : (w5.alloc (.cells #[.int .u32 a0, .int .u32 a1] 36)).cell? ⟨w5.heap.size, 1, none⟩ = some (.int .u32 a1) := by simp
  go_wp2_with fail
  go_ret
  exact ⟨by simp, B5.out.alloc B5.out.size _⟩
open Go.Proofs.Ytdjpodpibkcnaaa.M DblPure in
theorem all (op a0 a1 b0 b1 : Int) (w : World) (_ : (Lit.int .i64 op).wf = true) (wa0 : (Lit.int .u32 a0).wf = true) (wa1 : (Lit.int .u32 a1).wf = true) (wb0 : (Lit.int .u32 b0).wf = true) (wb1 : (Lit.int .u32 b1).wf = true) :
    Calls Try.prog 7 #[.int .i64 op, .agg #[.int .u32 a0, .int .u32 a1], .agg #[.int .u32 b0, .int .u32 b1]] w fun e w' => e = .returned (.bool true) ∧ Below w.heap.size w w' := by
  have ha0 := wf32 wa0
  have ha1 := wf32 wa1
  have hb0 := wf32 wb0
  have hb1 := wf32 wb1
  obtain ⟨k, k1, s1, s2⟩ := adds a0 a1 b0 b1 ha0.1 ha0.2 ha1.1 ha1.2 hb0.1 hb0.2 hb1.1 hb1.2
  obtain ⟨j, j1, t1, t2⟩ := subs a0 a1 b0 b1 ha0.1 ha0.2 ha1.1 ha1.2 hb0.1 hb0.2 hb1.1 hb1.2
  have hsum : Dbl 19 216 a0 a1 b0 b1 ((a1 * 4294967296 + a0 + (b1 * 4294967296 + b0)) % 4294967296) ((a1 * 4294967296 + a0 + (b1 * 4294967296 + b0)) / 4294967296 % 4294967296) 0 := fun W => Doubles.cell_add a0 a1 b0 b1 _ k _ k1 W s1 s2
  have hback : Dbl 19 217 ((a1 * 4294967296 + a0 + (b1 * 4294967296 + b0)) % 4294967296) ((a1 * 4294967296 + a0 + (b1 * 4294967296 + b0)) / 4294967296 % 4294967296) b0 b1 a0 a1 0 := by
    intro W
    obtain ⟨i, i1, u1, u2⟩ := subs ((a1 * 4294967296 + a0 + (b1 * 4294967296 + b0)) % 4294967296) ((a1 * 4294967296 + a0 + (b1 * 4294967296 + b0)) / 4294967296 % 4294967296) b0 b1 (by omega) (by omega) (by omega) (by omega) hb0.1 hb0.2 hb1.1 hb1.2
    refine Doubles.cell_sub _ _ b0 b1 a0 i a1 i1 W ?_ ?_
    · rw [u1]; congr 2; omega
    · rw [u2]; congr 2; omega
  by_cases h216 : op = 216
  · subst h216
    refine law_calls 2 216 a0 a1 b0 b1 _ _ 0 _ _ w (alive 0) hsum ?_ hsum hback
    intro W
    obtain ⟨c0, c1, e0, e1, hc⟩ := Doubles.ref_add a0 a1 b0 b1 W
    rw [ref_double a0 a1 ha0.1 ha0.2 ha1.1 ha1.2, ref_double b0 b1 hb0.1 hb0.2 hb1.1 hb1.2] at e0 e1
    rw [(ref_parts _).1] at e0
    rw [(ref_parts _).2] at e1
    subst e0 e1
    exact hc
  · by_cases h217 : op = 217
    · subst h217
      refine law_calls 2 217 a0 a1 b0 b1 ((a1 * 4294967296 + a0 - (b1 * 4294967296 + b0)) % 4294967296) ((a1 * 4294967296 + a0 - (b1 * 4294967296 + b0)) / 4294967296 % 4294967296) 0 _ _ w (alive 0) (fun W => Doubles.cell_sub a0 a1 b0 b1 _ j _ j1 W t1 t2) ?_ hsum hback
      intro W
      obtain ⟨c0, c1, e0, e1, hc⟩ := Doubles.ref_sub a0 a1 b0 b1 W
      rw [ref_double a0 a1 ha0.1 ha0.2 ha1.1 ha1.2, ref_double b0 b1 hb0.1 hb0.2 hb1.1 hb1.2] at e0 e1
      rw [(ref_parts _).1] at e0
      rw [(ref_parts _).2] at e1
      subst e0 e1
      exact hc
    · have q1 : (op == 216) = false := by simpa using h216
      have q2 : (op == 217) = false := by simpa using h217
      exact law_calls 2 op a0 a1 b0 b1 0 0 2 _ _ w (alive 0) (fun W => Doubles.cell_no op a0 a1 b0 b1 W q1 q2) (fun W => Doubles.ref_no op a0 a1 b0 b1 W q1 q2) hsum hback
end Go.Proofs.Ytdjpodpibkcnaaa.DoublesLaw
