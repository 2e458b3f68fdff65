/- CellParts, the walk of the law: cells made of bytes and parted into them are the reference's, and each undoes the other. No condition. -/
import Derived.Test.YtdjpodpibkcnaaaQCellDoublesx1
import Derived.Test.YtdjpodpibkcnaaaPureCellDoubles
import Derived.Test.YtdjpodpibkcnaaaParts
import Derived.Test.YtdjpodpibkcnaaaArrEq
import Derived.Deep.RegionWith
import Derived.Deep.DeepCutAuto
import Derived.Deep.CutBlock
namespace Go.Proofs.Ytdjpodpibkcnaaa.PartsLaw
open Go.RowKit Go.Proofs.Ytdjpodpibkcnaaa.QCellDoubles Go.Proofs.YtdjpodpibkcnaaaW.PrintWords Go.Proofs.YtdjpodpibkcnaaaW.PrintLast Go.Proofs.YtdjpodpibkcnaaaW.PrintMore Parts
set_option linter.unusedVariables false
set_option linter.unusedSimpArgs false
abbrev Jn (f : FuncId) (a b c d r : Int) : Prop := ∀ W : World, Calls Try.prog f #[.agg #[.int .u32 a, .int .u32 b, .int .u32 c, .int .u32 d]] W fun e w' => e = .returned (.int .u32 r) ∧ Below W.heap.size W w'
abbrev Sp (f : FuncId) (x a b c d : Int) : Prop := ∀ W : World, Calls Try.prog f #[.int .u32 x] W fun e w' => e = .returned (.agg #[.int .u32 a, .int .u32 b, .int .u32 c, .int .u32 d]) ∧ Below W.heap.size W w'
theorem keep {W w1 : World} (hb : Below W.heap.size W w1) {b o : Nat} {v : Value} (h : W.cell? ⟨b, o, none⟩ = some v) : w1.cell? ⟨b, o, none⟩ = some v := pw_cell_below hb h
theorem bcell {W w1 : World} (hb : Below W.heap.size W w1) : (∀ b o, b < W.heap.size → w1.cell? ⟨b, o, none⟩ = W.cell? ⟨b, o, none⟩) ∧ W.heap.size ≤ w1.heap.size :=
  ⟨fun b o h => hb.cell (p := ⟨b, o, none⟩) h, hb.size⟩
set_option maxHeartbeats 2000000 in
theorem law_calls (k : Nat) (a b c d x s0 s1 s2 s3 j : Int) (w : World) (ha : tinderlaw01_alive.f k = some true)
    (h1 : Jn 15 a b c d j) (h2 : Jn 16 a b c d j) (h3 : Sp 17 x s0 s1 s2 s3) (h4 : Sp 18 x s0 s1 s2 s3) (h5 : Jn 15 s0 s1 s2 s3 x) (h6 : Sp 17 j (a % 256) (b % 256) (c % 256) (d % 256)) 
    (ta : a.tmod 256 = a % 256) (tb : b.tmod 256 = b % 256) (tc : c.tmod 256 = c % 256) (td : d.tmod 256 = d % 256) :
    Calls Try.prog 6 #[.agg #[.int .u32 a, .int .u32 b, .int .u32 c, .int .u32 d], .int .u32 x] w fun e w' => e = .returned (.bool true) ∧ Below w.heap.size w w' := by
  have HA := Aside0.mk ha
  have H1 := Aside0.mk h1
  have H2 := Aside0.mk h2
  have H3 := Aside0.mk h3
  have H4 := Aside0.mk h4
  have H5 := Aside0.mk h5
  have H6 := Aside0.mk h6
  have TA := Aside0.mk (And.intro ta (And.intro tb (And.intro tc td)))
  clear ha h1 h2 h3 h4 h5 h6 ta tb tc td
  have hq := ArrEq.quad_ne
  go_enter Try.func6, Try.ntmps6
  go_wp2_with fail
  refine (tinderlaw01_alive.calls k true _ HA.out).mono ?_
  rintro e1 w1 ⟨rfl, hb1⟩
  have B1 := Aside0.mk (((((Below.refl _ _).alloc (Nat.le_refl _) _)).trans (hb1.mono (by simp))) : Below w.heap.size w w1)
  have x0 : w1.cell? ⟨w.heap.size, 0, none⟩ = some (.int .u32 a) := keep hb1 (by simp)
  have x1 : w1.cell? ⟨w.heap.size, 1, none⟩ = some (.int .u32 b) := keep hb1 (by simp)
  have x2 : w1.cell? ⟨w.heap.size, 2, none⟩ = some (.int .u32 c) := keep hb1 (by simp)
  have x3 : w1.cell? ⟨w.heap.size, 3, none⟩ = some (.int .u32 d) := keep hb1 (by simp)
  clear hb1
  go_upto_region 3 with (fail)
  go_cut [27] (fun v27 wc => v27 = .bool false ∧ wc.cell? ⟨w.heap.size, 0, none⟩ = some (.int .u32 a) ∧ wc.cell? ⟨w.heap.size, 1, none⟩ = some (.int .u32 b) ∧ wc.cell? ⟨w.heap.size, 2, none⟩ = some (.int .u32 c) ∧ wc.cell? ⟨w.heap.size, 3, none⟩ = some (.int .u32 d) ∧ Aside0 (Below w.heap.size w wc))
  case first =>
    go_region_with (first | (go_at_call 16; (with_reducible refine (H2.out _).mono ?_); rintro e w' ⟨rfl, hb⟩; have y0 : w'.cell? ⟨w.heap.size, 0, none⟩ = some (.int .u32 a) := keep hb (by simp [*]); have y1 : w'.cell? ⟨w.heap.size, 1, none⟩ = some (.int .u32 b) := keep hb (by simp [*]); have y2 : w'.cell? ⟨w.heap.size, 2, none⟩ = some (.int .u32 c) := keep hb (by simp [*]); have y3 : w'.cell? ⟨w.heap.size, 3, none⟩ = some (.int .u32 d) := keep hb (by simp [*]); have B1 : Aside0 (Below w.heap.size w w') := ⟨(by first | exact B1.out.trans (hb.mono B1.out.size) | exact (below_drew B1.out).trans (hb.mono (below_drew B1.out).size))⟩; clear hb) | (go_at_call 18; (with_reducible refine (H4.out _).mono ?_); rintro e w' ⟨rfl, hb⟩; have y0 : w'.cell? ⟨w.heap.size, 0, none⟩ = some (.int .u32 a) := keep hb (by simp [*]); have y1 : w'.cell? ⟨w.heap.size, 1, none⟩ = some (.int .u32 b) := keep hb (by simp [*]); have y2 : w'.cell? ⟨w.heap.size, 2, none⟩ = some (.int .u32 c) := keep hb (by simp [*]); have y3 : w'.cell? ⟨w.heap.size, 3, none⟩ = some (.int .u32 d) := keep hb (by simp [*]); have B1 : Aside0 (Below w.heap.size w w') := ⟨(by first | exact B1.out.trans (hb.mono B1.out.size) | exact (below_drew B1.out).trans (hb.mono (below_drew B1.out).size))⟩; clear hb) | (go_at_call 17; (with_reducible refine (H3.out _).mono ?_); rintro e w' ⟨rfl, hb⟩; have y0 : w'.cell? ⟨w.heap.size, 0, none⟩ = some (.int .u32 a) := keep hb (by simp [*]); have y1 : w'.cell? ⟨w.heap.size, 1, none⟩ = some (.int .u32 b) := keep hb (by simp [*]); have y2 : w'.cell? ⟨w.heap.size, 2, none⟩ = some (.int .u32 c) := keep hb (by simp [*]); have y3 : w'.cell? ⟨w.heap.size, 3, none⟩ = some (.int .u32 d) := keep hb (by simp [*]); have B1 : Aside0 (Below w.heap.size w w') := ⟨(by first | exact B1.out.trans (hb.mono B1.out.size) | exact (below_drew B1.out).trans (hb.mono (below_drew B1.out).size))⟩; clear hb) | (go_at_call 15; (with_reducible refine (H1.out _).mono ?_); rintro e w' ⟨rfl, hb⟩; have y0 : w'.cell? ⟨w.heap.size, 0, none⟩ = some (.int .u32 a) := keep hb (by simp [*]); have y1 : w'.cell? ⟨w.heap.size, 1, none⟩ = some (.int .u32 b) := keep hb (by simp [*]); have y2 : w'.cell? ⟨w.heap.size, 2, none⟩ = some (.int .u32 c) := keep hb (by simp [*]); have y3 : w'.cell? ⟨w.heap.size, 3, none⟩ = some (.int .u32 d) := keep hb (by simp [*]); have B1 : Aside0 (Below w.heap.size w w') := ⟨(by first | exact B1.out.trans (hb.mono B1.out.size) | exact (below_drew B1.out).trans (hb.mono (below_drew B1.out).size))⟩; clear hb) | (go_at_call 15; (with_reducible refine (H5.out _).mono ?_); rintro e w' ⟨rfl, hb⟩; have y0 : w'.cell? ⟨w.heap.size, 0, none⟩ = some (.int .u32 a) := keep hb (by simp [*]); have y1 : w'.cell? ⟨w.heap.size, 1, none⟩ = some (.int .u32 b) := keep hb (by simp [*]); have y2 : w'.cell? ⟨w.heap.size, 2, none⟩ = some (.int .u32 c) := keep hb (by simp [*]); have y3 : w'.cell? ⟨w.heap.size, 3, none⟩ = some (.int .u32 d) := keep hb (by simp [*]); have B1 : Aside0 (Below w.heap.size w w') := ⟨(by first | exact B1.out.trans (hb.mono B1.out.size) | exact (below_drew B1.out).trans (hb.mono (below_drew B1.out).size))⟩; clear hb))
    all_goals
      go_wp2_with fail
      go_meet
      case rel => exact ⟨rfl, y0, y1, y2, y3, B1⟩
  case rest =>
    obtain ⟨rfl, y0, y1, y2, y3, B2⟩ := hcut
    clear B1 x0 x1 x2 x3
    go_wp2_with fail
    refine (H1.out _).mono ?_
    rintro e3 w3 ⟨rfl, hb3⟩
    have z0 := keep hb3 y0
    have z1 := keep hb3 y1
    have z2 := keep hb3 y2
    have z3 := keep hb3 y3
    have B3 : Aside0 (Below w.heap.size w w3) := ⟨B2.out.trans (hb3.mono B2.out.size)⟩
    clear hb3 y0 y1 y2 y3 B2
    go_wp2_with fail
    refine (H6.out _).mono ?_
    rintro e4 w4 ⟨rfl, hb4⟩
    have B4 : Aside0 (Below w.heap.size w w4) := ⟨B3.out.trans (hb4.mono B3.out.size)⟩
    have L4 : w.heap.size < w4.heap.size := by
      have h := World.block_lt_of_cell? w3 _ z0
      have := hb4.size
      simp at h
      omega
    have c0 := keep hb4 z0
    have c1 := keep hb4 z1
    have c2 := keep hb4 z2
    have c3 := keep hb4 z3
    have d0 : (w4.alloc (.cells #[.int .u32 (a % 256), .int .u32 (b % 256), .int .u32 (c % 256), .int .u32 (d % 256)] 32)).cell? ⟨w.heap.size, 0, none⟩ = some (.int .u32 a) := keep ((Below.refl _ _).alloc (Nat.le_refl _) _) c0
    have d1 : (w4.alloc (.cells #[.int .u32 (a % 256), .int .u32 (b % 256), .int .u32 (c % 256), .int .u32 (d % 256)] 32)).cell? ⟨w.heap.size, 1, none⟩ = some (.int .u32 b) := keep ((Below.refl _ _).alloc (Nat.le_refl _) _) c1
    have d2 : (w4.alloc (.cells #[.int .u32 (a % 256), .int .u32 (b % 256), .int .u32 (c % 256), .int .u32 (d % 256)] 32)).cell? ⟨w.heap.size, 2, none⟩ = some (.int .u32 c) := keep ((Below.refl _ _).alloc (Nat.le_refl _) _) c2
    have d3 : (w4.alloc (.cells #[.int .u32 (a % 256), .int .u32 (b % 256), .int .u32 (c % 256), .int .u32 (d % 256)] 32)).cell? ⟨w.heap.size, 3, none⟩ = some (.int .u32 d) := keep ((Below.refl _ _).alloc (Nat.le_refl _) _) c3
    obtain ⟨ta, tb, tc, td⟩ := TA.out
    clear hb4 z0 z1 z2 z3 B3 c0 c1 c2 c3
    go_wp2_with fail
    refine wp_loop_rounds 5 ?_
    rw [rounds_succ]
    go_wp2_with fail
    go_quiet (fail)
    go_wp2_with fail
    rw [rounds_succ]
    go_wp2_with fail
    go_quiet (fail)
    go_wp2_with fail
    rw [rounds_succ]
    go_wp2_with fail
    go_quiet (fail)
    go_wp2_with fail
    rw [rounds_succ]
    go_wp2_with fail
    go_quiet (fail)
    go_wp2_with fail
    rw [rounds_succ]
    go_wp2_with fail
    go_ret
    exact ⟨rfl, pw_below_drewN (B4.out.alloc B4.out.size _) _⟩
theorem split_x (f : FuncId) (x a b c d : Int) (h : Sp f x (x % 256) (x / 256 % 256) (x / 65536 % 256) (x / 16777216 % 256)) (ha : x % 256 = a) (hb : x / 256 % 256 = b) (hc : x / 65536 % 256 = c) (hd : x / 16777216 % 256 = d) : Sp f x a b c d := by
  subst ha hb hc hd; exact h
open Go.Proofs.Ytdjpodpibkcnaaa.M DblPure in
theorem all (a b c d x : Int) (w : World) (wa : (Lit.int .u32 a).wf = true) (wb : (Lit.int .u32 b).wf = true) (wc : (Lit.int .u32 c).wf = true) (wd : (Lit.int .u32 d).wf = true) (wx : (Lit.int .u32 x).wf = true) :
    Calls Try.prog 6 #[.agg #[.int .u32 a, .int .u32 b, .int .u32 c, .int .u32 d], .int .u32 x] w fun e w' => e = .returned (.bool true) ∧ Below w.heap.size w w' := by
  have ha := wf32 wa
  have hb := wf32 wb
  have hc := wf32 wc
  have hd := wf32 wd
  have hx := wf32 wx
  have hj : 0 ≤ jn a b c d ∧ jn a b c d < 4294967296 := by unfold jn; omega
  have e5 : jn (x % 256) (x / 256 % 256) (x / 65536 % 256) (x / 16777216 % 256) = x := by unfold jn; omega
  have h5 : Jn 15 (x % 256) (x / 256 % 256) (x / 65536 % 256) (x / 16777216 % 256) x := by
    intro W
    have h := join_calls (x % 256) (x / 256 % 256) (x / 65536 % 256) (x / 16777216 % 256) W (by omega) (by omega) (by omega) (by omega) (by omega) (by omega) (by omega) (by omega)
    rw [e5] at h
    exact h
  have h6 : Sp 17 (jn a b c d) (a % 256) (b % 256) (c % 256) (d % 256) :=
    split_x 17 (jn a b c d) _ _ _ _ (fun W => split_calls (jn a b c d) W hj.1 hj.2) (by unfold jn; omega) (by unfold jn; omega) (by unfold jn; omega) (by unfold jn; omega)
  exact law_calls 2 a b c d x _ _ _ _ (jn a b c d) w (alive 0) (fun W => join_calls a b c d W ha.1 ha.2 hb.1 hb.2 hc.1 hc.2 hd.1 hd.2) (fun W => rjoin_calls a b c d W ha.1 hb.1 hc.1 hd.1)
    (fun W => split_calls x W hx.1 hx.2) (fun W => rsplit_calls x W hx.1 hx.2) h5 h6
    (Int.tmod_eq_emod_of_nonneg ha.1) (Int.tmod_eq_emod_of_nonneg hb.1) (Int.tmod_eq_emod_of_nonneg hc.1) (Int.tmod_eq_emod_of_nonneg hd.1)
end Go.Proofs.Ytdjpodpibkcnaaa.PartsLaw
