/- The builder's loop: do, ?do, loop, +loop, leave. -/
import Derived.Test.YtmglkgjnhoojaaatkA
import Derived.Test.YtmglkgjnhoojaaatkB
namespace Go.Proofs.Ytmglkgjnhoojaaa.PCodeRows
open Go.RowKit Go.Proofs.YtmglkgjnhoojaaaW.PrintWords Go.Proofs.YtmglkgjnhoojaaaW.PrintLast Go.Proofs.YtmglkgjnhoojaaaW.PrintMore
set_option linter.unusedVariables false
set_option linter.unusedSimpArgs false
section
variable {w : World} {base bb : Nat} {v0 v1 v2 v3 v4 : Value} {o : Nat → Nat} {code : List S37} {origs dests xs : List Int} {loops cases ls : List S59}
set_option maxHeartbeats 2000000 in
theorem do_calls (h : BD w base bb v0 v1 v2 v3 v4 o code origs dests loops cases) (ho : loops.length < 4398046511104 - 1) :
    Calls Try.prog 24 #[.pointer (some ⟨bb, 0, none⟩), .int .i64 7] w (BPost base bb w (layP code 5 0 fun c => ⟨c, origs, dests, loops ++ [⟨(code.length : Int), []⟩], cases⟩)) := by
  unfold layP
  by_cases hl : code.length < 256
  · rw [if_pos hl]
    generalize hr : (Sum.inl _ : Dr ⊕ Int) = r
    have HR := Aside0.mk hr
    clear hr
    go_enter Try.func24, Try.ntmps24
    go_wp2_with fail
    refine (lay_bd h 5 0 hl).mono ?_
    rintro e w1 ⟨rfl, v0', h1, hB1⟩
    obtain ⟨A, c, rfl⟩ := Kd.S_slice h1.hl
    have hb1 : w1.cell? ⟨bb, 3, none⟩ = some (.slice A loops.length c) := (blk_cell h1.box 3).trans rfl
    go_wp2_with (at_builtin; refine push3 h1 (code.length : Int) [] (.slice none 0 0) (Kd.R_nil _ _ _ _ _) Try.underlying24 info59 rfl rfl rfl rfl ho ?_)
    intro A1 c1 w2 h2 hB2 hb2 _
    have hf := blk_frozen hb2 3
    have hc2 : w2.cell? ⟨bb, 3, none⟩ = some (.slice A loops.length c) := (blk_cell hb2 3).trans rfl
    go_wp2_with fail
    refine bodyPost_ret (v := .int .i64 0) (by simp [results, Try.results24, go_sem]) rfl ?_
    rw [← HR.out]
    exact ⟨hB1.trans (hB2.setCell h.hbb _), rfl, _, _, _, _, _, _, h2⟩
  · rw [if_neg hl]
    generalize hr : (Sum.inr _ : Dr ⊕ Int) = r
    have HR := Aside0.mk hr
    clear hr
    go_enter Try.func24, Try.ntmps24
    go_wp2_with fail
    refine (lay_bd_long h 5 0 hl).mono ?_
    rintro e w1 ⟨rfl, rfl⟩
    obtain ⟨A, c, rfl⟩ := Kd.S_slice h.hl
    have hb1 : w1.cell? ⟨bb, 3, none⟩ = some (.slice A loops.length c) := (blk_cell h.box 3).trans rfl
    go_wp2_with (at_builtin; refine push3 h 0 [] (.slice none 0 0) (Kd.R_nil _ _ _ _ _) Try.underlying24 info59 rfl rfl rfl rfl ho ?_)
    intro A1 c1 w2 h2 hB2 hb2 _
    have hf := blk_frozen hb2 3
    have hc2 : w2.cell? ⟨bb, 3, none⟩ = some (.slice A loops.length c) := (blk_cell hb2 3).trans rfl
    go_wp2_with fail
    refine bodyPost_ret (v := .int .i64 3) (by simp [results, Try.results24, go_sem]) rfl ?_
    rw [← HR.out]
    exact ⟨hB2.setCell h.hbb _, rfl⟩
set_option maxHeartbeats 2000000 in
theorem qdo_calls (h : BD w base bb v0 v1 v2 v3 v4 o code origs dests loops cases) (ho : loops.length < 4398046511104 - 1) :
    Calls Try.prog 24 #[.pointer (some ⟨bb, 0, none⟩), .int .i64 8] w (BPost base bb w (layP code 6 0 fun c => ⟨c, origs, dests, loops ++ [⟨(code.length : Int), []⟩], cases⟩)) := by
  unfold layP
  by_cases hl : code.length < 256
  · rw [if_pos hl]
    generalize hr : (Sum.inl _ : Dr ⊕ Int) = r
    have HR := Aside0.mk hr
    clear hr
    go_enter Try.func24, Try.ntmps24
    go_wp2_with fail
    refine (lay_bd h 6 0 hl).mono ?_
    rintro e w1 ⟨rfl, v0', h1, hB1⟩
    obtain ⟨A, c, rfl⟩ := Kd.S_slice h1.hl
    have hb1 : w1.cell? ⟨bb, 3, none⟩ = some (.slice A loops.length c) := (blk_cell h1.box 3).trans rfl
    go_wp2_with (at_builtin; refine push3 h1 (code.length : Int) [] (.slice none 0 0) (Kd.R_nil _ _ _ _ _) Try.underlying24 info59 rfl rfl rfl rfl ho ?_)
    intro A1 c1 w2 h2 hB2 hb2 _
    have hf := blk_frozen hb2 3
    have hc2 : w2.cell? ⟨bb, 3, none⟩ = some (.slice A loops.length c) := (blk_cell hb2 3).trans rfl
    go_wp2_with fail
    refine bodyPost_ret (v := .int .i64 0) (by simp [results, Try.results24, go_sem]) rfl ?_
    rw [← HR.out]
    exact ⟨hB1.trans (hB2.setCell h.hbb _), rfl, _, _, _, _, _, _, h2⟩
  · rw [if_neg hl]
    generalize hr : (Sum.inr _ : Dr ⊕ Int) = r
    have HR := Aside0.mk hr
    clear hr
    go_enter Try.func24, Try.ntmps24
    go_wp2_with fail
    refine (lay_bd_long h 6 0 hl).mono ?_
    rintro e w1 ⟨rfl, rfl⟩
    obtain ⟨A, c, rfl⟩ := Kd.S_slice h.hl
    have hb1 : w1.cell? ⟨bb, 3, none⟩ = some (.slice A loops.length c) := (blk_cell h.box 3).trans rfl
    go_wp2_with (at_builtin; refine push3 h 0 [] (.slice none 0 0) (Kd.R_nil _ _ _ _ _) Try.underlying24 info59 rfl rfl rfl rfl ho ?_)
    intro A1 c1 w2 h2 hB2 hb2 _
    have hf := blk_frozen hb2 3
    have hc2 : w2.cell? ⟨bb, 3, none⟩ = some (.slice A loops.length c) := (blk_cell hb2 3).trans rfl
    go_wp2_with fail
    refine bodyPost_ret (v := .int .i64 3) (by simp [results, Try.results24, go_sem]) rfl ?_
    rw [← HR.out]
    exact ⟨hB2.setCell h.hbb _, rfl⟩
set_option maxHeartbeats 2000000 in
theorem loop_calls {x : S59} (h : BD w base bb v0 v1 v2 v3 v4 o code origs dests (ls ++ [x]) cases) (hx : ∀ y ∈ x.f1 ++ [x.f0], 0 ≤ y ∧ y < (code.length : Int)) (ho : x.f1.length < 4398046511104) (h256 : code.length ≤ 256) :
    Calls Try.prog 24 #[.pointer (some ⟨bb, 0, none⟩), .int .i64 9] w (BPost base bb w (layP code 7 (x.f0 + 1) fun c => ⟨aimed c.length c (x.f1 ++ [x.f0]), origs, dests, ls, cases⟩)) := by
  unfold layP
  have hat := hx x.f0 (by simp)
  have hw : wrap64 (x.f0 + 1) = x.f0 + 1 := IntWalk.wrap64_in _ ⟨by omega, by omega⟩
  by_cases hl : code.length < 256
  · rw [if_pos hl]
    generalize hr : (Sum.inl _ : Dr ⊕ Int) = r
    have HR := Aside0.mk hr
    clear hr
    go_enter Try.func24, Try.ntmps24
    go_wp2_with fail
    refine (pop3_calls h).mono ?_
    rintro e w0 ⟨vx, rfl, v3', o', h0, hx0, hB0⟩
    obtain ⟨B, cB, rfl⟩ := Kd.R_slice hx0
    have hbw0 : base ≤ w0.heap.size := Nat.le_of_lt (Nat.lt_of_le_of_lt h0.hbb h0.lt)
    go_wp2_with fail
    have h1 := BX.of (at_ := x.f0) h0 hx0 (below_alloc (Below.refl _ _) _) (blk_new w0 (.cells #[.int .i64 x.f0, .slice B x.f1.length cB] 59))
    have hB1 := hB0.alloc hbw0 (.cells #[.int .i64 x.f0, .slice B x.f1.length cB] 59)
    clear h0 hx0 hB0
    generalize w0.alloc (.cells #[.int .i64 x.f0, .slice B x.f1.length cB] 59) = w1 at h1 hB1 ⊢
    generalize new_ w0 o' 6 = o1 at h1
    generalize w0.heap.size = xb at h1 hbw0 ⊢

    refine (lay_bx h1 7 (x.f0 + 1) hl).mono ?_
    rintro e w2 ⟨rfl, v0', h2, hB2⟩
    have hx0 : w2.cell? ⟨xb, 0, none⟩ = some (.int .i64 x.f0) := (blk_cell h2.xbox 0).trans rfl
    have hx1 : w2.cell? ⟨xb, 1, none⟩ = some (.slice B x.f1.length cB) := (blk_cell h2.xbox 1).trans rfl
    clear hat
    go_wp2_with (first | (at_builtin; refine pushX h2 x.f0 Try.underlying23 infoI rfl rfl rfl rfl ho ?_) | fail)
    intro A1 c1 w3 g1 g2 g3 gR gB
    go_wp2_with fail
    have hz : (x.f1 ++ [x.f0]).length = x.f1.length + 1 := by simp
    refine (aim_bd g1 gR (fun y hy => by have := hx y hy; simp; omega) (by simp; omega)).mono ?_
    rintro e w4 ⟨rfl, h4, hB4⟩
    go_wp2_with fail
    refine bodyPost_ret (v := .int .i64 0) (by simp [results, Try.results24, go_sem]) rfl ?_
    rw [← HR.out]
    exact ⟨((hB1.trans hB2).trans gB).trans hB4, rfl, _, _, _, _, _, _, h4⟩
  · rw [if_neg hl]
    generalize hr : (Sum.inr _ : Dr ⊕ Int) = r
    have HR := Aside0.mk hr
    clear hr
    go_enter Try.func24, Try.ntmps24
    go_wp2_with fail
    refine (pop3_calls h).mono ?_
    rintro e w0 ⟨vx, rfl, v3', o', h0, hx0, hB0⟩
    obtain ⟨B, cB, rfl⟩ := Kd.R_slice hx0
    have hbw0 : base ≤ w0.heap.size := Nat.le_of_lt (Nat.lt_of_le_of_lt h0.hbb h0.lt)
    go_wp2_with fail
    have h1 := BX.of (at_ := x.f0) h0 hx0 (below_alloc (Below.refl _ _) _) (blk_new w0 (.cells #[.int .i64 x.f0, .slice B x.f1.length cB] 59))
    have hB1 := hB0.alloc hbw0 (.cells #[.int .i64 x.f0, .slice B x.f1.length cB] 59)
    clear h0 hx0 hB0
    generalize w0.alloc (.cells #[.int .i64 x.f0, .slice B x.f1.length cB] 59) = w1 at h1 hB1 ⊢
    generalize new_ w0 o' 6 = o1 at h1
    generalize w0.heap.size = xb at h1 hbw0 ⊢

    refine (lay_bd_long h1.bd 7 (x.f0 + 1) hl).mono ?_
    rintro e w2 ⟨rfl, rfl⟩
    have hx0 : w2.cell? ⟨xb, 0, none⟩ = some (.int .i64 x.f0) := (blk_cell h1.xbox 0).trans rfl
    have hx1 : w2.cell? ⟨xb, 1, none⟩ = some (.slice B x.f1.length cB) := (blk_cell h1.xbox 1).trans rfl
    clear hat
    go_wp2_with (first | (at_builtin; refine pushX h1 x.f0 Try.underlying23 infoI rfl rfl rfl rfl ho ?_) | fail)
    intro A1 c1 w3 g1 g2 g3 gR gB
    go_wp2_with fail
    refine (aim_bd g1 gR hx h256).mono ?_
    rintro e w4 ⟨rfl, h4, hB4⟩
    go_wp2_with fail
    refine bodyPost_ret (v := .int .i64 3) (by simp [results, Try.results24, go_sem]) rfl ?_
    rw [← HR.out]
    exact ⟨(hB1.trans gB).trans hB4, rfl⟩
set_option maxHeartbeats 2000000 in
theorem ploop_calls {x : S59} (h : BD w base bb v0 v1 v2 v3 v4 o code origs dests (ls ++ [x]) cases) (hx : ∀ y ∈ x.f1 ++ [x.f0], 0 ≤ y ∧ y < (code.length : Int)) (ho : x.f1.length < 4398046511104) (h256 : code.length ≤ 256) :
    Calls Try.prog 24 #[.pointer (some ⟨bb, 0, none⟩), .int .i64 10] w (BPost base bb w (layP code 8 (x.f0 + 1) fun c => ⟨aimed c.length c (x.f1 ++ [x.f0]), origs, dests, ls, cases⟩)) := by
  unfold layP
  have hat := hx x.f0 (by simp)
  have hw : wrap64 (x.f0 + 1) = x.f0 + 1 := IntWalk.wrap64_in _ ⟨by omega, by omega⟩
  by_cases hl : code.length < 256
  · rw [if_pos hl]
    generalize hr : (Sum.inl _ : Dr ⊕ Int) = r
    have HR := Aside0.mk hr
    clear hr
    go_enter Try.func24, Try.ntmps24
    go_wp2_with fail
    refine (pop3_calls h).mono ?_
    rintro e w0 ⟨vx, rfl, v3', o', h0, hx0, hB0⟩
    obtain ⟨B, cB, rfl⟩ := Kd.R_slice hx0
    have hbw0 : base ≤ w0.heap.size := Nat.le_of_lt (Nat.lt_of_le_of_lt h0.hbb h0.lt)
    go_wp2_with fail
    have h1 := BX.of (at_ := x.f0) h0 hx0 (below_alloc (Below.refl _ _) _) (blk_new w0 (.cells #[.int .i64 x.f0, .slice B x.f1.length cB] 59))
    have hB1 := hB0.alloc hbw0 (.cells #[.int .i64 x.f0, .slice B x.f1.length cB] 59)
    clear h0 hx0 hB0
    generalize w0.alloc (.cells #[.int .i64 x.f0, .slice B x.f1.length cB] 59) = w1 at h1 hB1 ⊢
    generalize new_ w0 o' 6 = o1 at h1
    generalize w0.heap.size = xb at h1 hbw0 ⊢

    refine (lay_bx h1 8 (x.f0 + 1) hl).mono ?_
    rintro e w2 ⟨rfl, v0', h2, hB2⟩
    have hx0 : w2.cell? ⟨xb, 0, none⟩ = some (.int .i64 x.f0) := (blk_cell h2.xbox 0).trans rfl
    have hx1 : w2.cell? ⟨xb, 1, none⟩ = some (.slice B x.f1.length cB) := (blk_cell h2.xbox 1).trans rfl
    clear hat
    go_wp2_with (first | (at_builtin; refine pushX h2 x.f0 Try.underlying23 infoI rfl rfl rfl rfl ho ?_) | fail)
    intro A1 c1 w3 g1 g2 g3 gR gB
    go_wp2_with fail
    have hz : (x.f1 ++ [x.f0]).length = x.f1.length + 1 := by simp
    refine (aim_bd g1 gR (fun y hy => by have := hx y hy; simp; omega) (by simp; omega)).mono ?_
    rintro e w4 ⟨rfl, h4, hB4⟩
    go_wp2_with fail
    refine bodyPost_ret (v := .int .i64 0) (by simp [results, Try.results24, go_sem]) rfl ?_
    rw [← HR.out]
    exact ⟨((hB1.trans hB2).trans gB).trans hB4, rfl, _, _, _, _, _, _, h4⟩
  · rw [if_neg hl]
    generalize hr : (Sum.inr _ : Dr ⊕ Int) = r
    have HR := Aside0.mk hr
    clear hr
    go_enter Try.func24, Try.ntmps24
    go_wp2_with fail
    refine (pop3_calls h).mono ?_
    rintro e w0 ⟨vx, rfl, v3', o', h0, hx0, hB0⟩
    obtain ⟨B, cB, rfl⟩ := Kd.R_slice hx0
    have hbw0 : base ≤ w0.heap.size := Nat.le_of_lt (Nat.lt_of_le_of_lt h0.hbb h0.lt)
    go_wp2_with fail
    have h1 := BX.of (at_ := x.f0) h0 hx0 (below_alloc (Below.refl _ _) _) (blk_new w0 (.cells #[.int .i64 x.f0, .slice B x.f1.length cB] 59))
    have hB1 := hB0.alloc hbw0 (.cells #[.int .i64 x.f0, .slice B x.f1.length cB] 59)
    clear h0 hx0 hB0
    generalize w0.alloc (.cells #[.int .i64 x.f0, .slice B x.f1.length cB] 59) = w1 at h1 hB1 ⊢
    generalize new_ w0 o' 6 = o1 at h1
    generalize w0.heap.size = xb at h1 hbw0 ⊢

    refine (lay_bd_long h1.bd 8 (x.f0 + 1) hl).mono ?_
    rintro e w2 ⟨rfl, rfl⟩
    have hx0 : w2.cell? ⟨xb, 0, none⟩ = some (.int .i64 x.f0) := (blk_cell h1.xbox 0).trans rfl
    have hx1 : w2.cell? ⟨xb, 1, none⟩ = some (.slice B x.f1.length cB) := (blk_cell h1.xbox 1).trans rfl
    clear hat
    go_wp2_with (first | (at_builtin; refine pushX h1 x.f0 Try.underlying23 infoI rfl rfl rfl rfl ho ?_) | fail)
    intro A1 c1 w3 g1 g2 g3 gR gB
    go_wp2_with fail
    refine (aim_bd g1 gR hx h256).mono ?_
    rintro e w4 ⟨rfl, h4, hB4⟩
    go_wp2_with fail
    refine bodyPost_ret (v := .int .i64 3) (by simp [results, Try.results24, go_sem]) rfl ?_
    rw [← HR.out]
    exact ⟨(hB1.trans gB).trans hB4, rfl⟩
set_option maxHeartbeats 2000000 in
theorem loop_empty (h : BD w base bb v0 v1 v2 v3 v4 o code origs dests [] cases) : Calls Try.prog 24 #[.pointer (some ⟨bb, 0, none⟩), .int .i64 9] w (BPost base bb w (.inr 13)) := by
  go_enter Try.func24, Try.ntmps24
  go_wp2_with fail
  refine (pop3_empty h).mono ?_
  rintro e w0 ⟨rfl, hB⟩
  have hbw : base ≤ w.heap.size := Nat.le_of_lt (Nat.lt_of_le_of_lt h.hbb h.lt)
  have hB0 := Below.mono hB hbw
  have hbw0 := Nat.le_trans hbw hB.size
  go_wp2_with fail
  exact bodyPost_ret (v := .int .i64 13) (by simp [results, Try.results24, go_sem]) rfl ⟨hB0.alloc hbw0 _, rfl⟩
set_option maxHeartbeats 2000000 in
theorem ploop_empty (h : BD w base bb v0 v1 v2 v3 v4 o code origs dests [] cases) : Calls Try.prog 24 #[.pointer (some ⟨bb, 0, none⟩), .int .i64 10] w (BPost base bb w (.inr 13)) := by
  go_enter Try.func24, Try.ntmps24
  go_wp2_with fail
  refine (pop3_empty h).mono ?_
  rintro e w0 ⟨rfl, hB⟩
  have hbw : base ≤ w.heap.size := Nat.le_of_lt (Nat.lt_of_le_of_lt h.hbb h.lt)
  have hB0 := Below.mono hB hbw
  have hbw0 := Nat.le_trans hbw hB.size
  go_wp2_with fail
  exact bodyPost_ret (v := .int .i64 13) (by simp [results, Try.results24, go_sem]) rfl ⟨hB0.alloc hbw0 _, rfl⟩
set_option maxHeartbeats 2000000 in
theorem leave_empty (h : BD w base bb v0 v1 v2 v3 v4 o code origs dests [] cases) : Calls Try.prog 24 #[.pointer (some ⟨bb, 0, none⟩), .int .i64 11] w (BPost base bb w (.inr 13)) := by
  go_enter Try.func24, Try.ntmps24
  go_wp2_with fail
  refine (pop3_empty h).mono ?_
  rintro e w0 ⟨rfl, hB⟩
  have hbw : base ≤ w.heap.size := Nat.le_of_lt (Nat.lt_of_le_of_lt h.hbb h.lt)
  have hB0 := Below.mono hB hbw
  have hbw0 := Nat.le_trans hbw hB.size
  go_wp2_with fail
  exact bodyPost_ret (v := .int .i64 13) (by simp [results, Try.results24, go_sem]) rfl ⟨hB0.alloc hbw0 _, rfl⟩
set_option maxHeartbeats 2000000 in
theorem leave_calls {x : S59} (h : BD w base bb v0 v1 v2 v3 v4 o code origs dests (ls ++ [x]) cases) (ho : x.f1.length < 4398046511104) (hls : ls.length < 4398046511104 - 1) :
    Calls Try.prog 24 #[.pointer (some ⟨bb, 0, none⟩), .int .i64 11] w (BPost base bb w (layP code 9 0 fun c => ⟨c, origs, dests, ls ++ [⟨x.f0, x.f1 ++ [(code.length : Int)]⟩], cases⟩)) := by
  unfold layP
  by_cases hl : code.length < 256
  · rw [if_pos hl]
    generalize hr : (Sum.inl _ : Dr ⊕ Int) = r
    have HR := Aside0.mk hr
    clear hr
    go_enter Try.func24, Try.ntmps24
    go_wp2_with fail
    refine (pop3_calls h).mono ?_
    rintro e w0 ⟨vx, rfl, v3', o', h0, hx0, hB0⟩
    obtain ⟨B, cB, rfl⟩ := Kd.R_slice hx0
    have hbw0 : base ≤ w0.heap.size := Nat.le_of_lt (Nat.lt_of_le_of_lt h0.hbb h0.lt)
    go_wp2_with fail
    have h1 := BX.of (at_ := x.f0) h0 hx0 (below_alloc (Below.refl _ _) _) (blk_new w0 (.cells #[.int .i64 x.f0, .slice B x.f1.length cB] 59))
    have hB1 := hB0.alloc hbw0 (.cells #[.int .i64 x.f0, .slice B x.f1.length cB] 59)
    clear h0 hx0 hB0
    generalize w0.alloc (.cells #[.int .i64 x.f0, .slice B x.f1.length cB] 59) = w1 at h1 hB1 ⊢
    generalize new_ w0 o' 6 = o1 at h1
    generalize w0.heap.size = xb at h1 hbw0 ⊢
    refine (lay_bx h1 9 0 hl).mono ?_
    rintro e w2 ⟨rfl, v0', h2, hB2⟩
    have hx0 : w2.cell? ⟨xb, 0, none⟩ = some (.int .i64 x.f0) := (blk_cell h2.xbox 0).trans rfl
    have hx1 : w2.cell? ⟨xb, 1, none⟩ = some (.slice B x.f1.length cB) := (blk_cell h2.xbox 1).trans rfl
    go_wp2_with (first | (at_builtin; refine pushX h2 (code.length : Int) Try.underlying23 infoI rfl rfl rfl rfl ho ?_) | fail)
    intro A1 c1 w3 g1 g2 g3 gR gB
    have hfx : w3.frozen? ⟨xb, 1, none⟩ = false := blk_frozen g2 1
    have hcx : w3.cell? ⟨xb, 1, none⟩ = some (.slice B x.f1.length cB) := (blk_cell g2 1).trans rfl
    have h4 := BX.mk1 g1 g2 g3 h2.hxb gR
    obtain ⟨A3, c3, rfl⟩ := Kd.S_slice h4.bd.hl
    have hb3 : (w3.setCell ⟨xb, 1, none⟩ (.slice A1 (x.f1.length + 1) c1)).cell? ⟨bb, 3, none⟩ = some (.slice A3 ls.length c3) := (blk_cell h4.bd.box 3).trans rfl
    have hb4 : (w3.setCell ⟨xb, 1, none⟩ (.slice A1 (x.f1.length + 1) c1)).cell? ⟨xb, 0, none⟩ = some (.int .i64 x.f0) := (blk_cell h4.xbox 0).trans rfl
    have hb5 : (w3.setCell ⟨xb, 1, none⟩ (.slice A1 (x.f1.length + 1) c1)).cell? ⟨xb, 1, none⟩ = some (.slice A1 (x.f1.length + 1) c1) := (blk_cell h4.xbox 1).trans rfl
    go_wp2_with fail
    generalize hw4 : w3.setCell ⟨xb, 1, none⟩ (.slice A1 (x.f1.length + 1) c1) = w4 at h4 hb3 hb4 hb5 ⊢
    have hS : w4.cell? ⟨bb, 3, none⟩ = some (.slice A3 ls.length c3) ∧ w4.cell? ⟨xb, 0, none⟩ = some (.int .i64 x.f0) ∧ w4.cell? ⟨xb, 1, none⟩ = some (.slice A1 (x.f1.length + 1) c1) := ⟨hb3, hb4, hb5⟩
    have gB4 : Below base w2 w4 := by rw [← hw4]; exact gB.setCell h4.hxb _
    clear hx0 hx1 hfx hcx hb3 hb4 hb5 hw4 g1 g2 gR
    refine start_ (n := 13) (S := fun w' => w'.cell? ⟨bb, 3, none⟩ = some (.slice A3 ls.length c3) ∧ w'.cell? ⟨xb, 0, none⟩ = some (.int .i64 x.f0) ∧ w'.cell? ⟨xb, 1, none⟩ = some (.slice A1 (x.f1.length + 1) c1)) (ds := [12]) (bz_ 13 0) (by kernel_rfl) rfl rfl (hS) (fun hHeld => ?_)
    refine with_tab (rfl : rtab .any (opsOf Try.f24 11) = rtab .any (opsOf Try.f24 11)) (fun HT_ => ?_)
    apply pu_ 0 (some 64) (bz_ 13 1) HT_ rfl rfl (by kernel_rfl) (fun _ _ _ h => h) (by rfl)
    · intro _; go_simp; with_reducible rfl
    · go_simp; rfl
    apply pu_ 1 (some 65) (bz_ 13 3) HT_ rfl rfl (by kernel_rfl) (fun _ _ _ h => h) (by rfl)
    · intro _; go_simp; with_reducible rfl
    · go_simp; rfl
    apply pu_ 2 (some 66) (bz_ 13 7) HT_ rfl rfl (by kernel_rfl) (fun _ _ _ h => h) (by rfl)
    · intro _; go_simp; with_reducible rfl
    · go_simp; rfl
    apply pu_ 3 (some 67) (bz_ 13 15) HT_ rfl rfl (by kernel_rfl) (fun _ _ _ h => h) (by rfl)
    · intro _; go_simp; with_reducible rfl
    · go_simp; rfl
    apply pu_ 4 (some 68) (bz_ 13 31) HT_ rfl rfl (by kernel_rfl) (fun _ _ _ h => h) (by rfl)
    · intro _; go_simp; with_reducible rfl
    · go_simp; rfl
    apply tk_ 5 (some 69) (bz_ 13 63) HT_ hHeld rfl rfl (by kernel_rfl) (fun _ _ _ h => h) (by rfl)
    · intro _ hS; go_split_ands; go_simp; with_reducible rfl
    · go_simp; rfl
    apply tk_ 6 (some 70) (bz_ 13 127) HT_ hHeld rfl rfl (by kernel_rfl) (fun _ _ _ h => h) (by rfl)
    · intro _ hS; go_split_ands; go_simp; with_reducible rfl
    · go_simp; rfl
    refine one_ (i := 7) (N := some 71) (bz_ 13 255) rfl rfl (one_of HT_.out (by kernel_rfl)) (by decide) (fun K hK => ?_)
    refine value_ (w1 := ?_) (v := ?_) (by rfl) rfl ?_ ?_
    rotate_left 2
    · go_simp
      constructor
      · rfl
      · rfl
    have hS : ((w4.drew).alloc (.cells #[.int .i64 x.f0, .slice A1 (x.f1.length + 1) c1] 59)).cell? ⟨bb, 3, none⟩ = some (.slice A3 ls.length c3) ∧ ((w4.drew).alloc (.cells #[.int .i64 x.f0, .slice A1 (x.f1.length + 1) c1] 59)).cell? ⟨xb, 0, none⟩ = some (.int .i64 x.f0) ∧ ((w4.drew).alloc (.cells #[.int .i64 x.f0, .slice A1 (x.f1.length + 1) c1] 59)).cell? ⟨xb, 1, none⟩ = some (.slice A1 (x.f1.length + 1) c1) := ⟨(blk_cell (blk_alloc (blk_drew h4.bd.box) _) 3).trans rfl, (blk_cell (blk_alloc (blk_drew h4.xbox) _) 0).trans rfl, (blk_cell (blk_alloc (blk_drew h4.xbox) _) 1).trans rfl⟩
    refine hK.out _ _ (hS) (fun hHeld => ?_)
    clear hK K
    refine norm_ (a' := ?_) ?_ ?_
    rotate_left
    · show Act.put _ (some 71) _ = _
      simp only [Act.put, List.setIfInBounds_toArray, List.set_cons_zero, List.set_cons_succ, i64_w, i32_w]
      rfl
    refine one_ (i := 8) (N := some 72) (bz_ 13 511) rfl rfl (one_of HT_.out (by kernel_rfl)) (by decide) (fun K hK => ?_)
    have h4d := h4.below (below_drew (Below.refl _ _))
    refine push3S h4d.bd x.f0 (x.f1 ++ [(code.length : Int)]) _ h4d.hx Try.underlying24 info59 rfl rfl rfl rfl hls ?_
    intro A5 c5 w5 h5 hB5 hb5 hkeep
    have hxb5 := hkeep xb _ h4d.xbox h4d.xo
    have hS : w5.cell? ⟨bb, 3, none⟩ = some (.slice A3 ls.length c3) ∧ w5.cell? ⟨xb, 0, none⟩ = some (.int .i64 x.f0) ∧ w5.cell? ⟨xb, 1, none⟩ = some (.slice A1 (x.f1.length + 1) c1) := ⟨(blk_cell hb5 3).trans rfl, (blk_cell hxb5 0).trans rfl, (blk_cell hxb5 1).trans rfl⟩
    have hf := blk_frozen hb5 3
    have hcc := hS.1
    refine hK.out _ _ (hS) (fun hHeld => ?_)
    clear hK K
    refine norm_ (a' := ?_) ?_ ?_
    rotate_left
    · show Act.put _ (some 72) _ = _
      simp only [Act.put, List.setIfInBounds_toArray, List.set_cons_zero, List.set_cons_succ, i64_w, i32_w]
      rfl
    apply pu_ 9 (some 73) (bz_ 13 1023) HT_ rfl rfl (by kernel_rfl) (fun _ _ _ h => h) (by rfl)
    · intro _; go_simp; with_reducible rfl
    · go_simp; rfl
    apply pu_ 10 (some 74) (bz_ 13 2047) HT_ rfl rfl (by kernel_rfl) (fun _ _ _ h => h) (by rfl)
    · intro _; go_simp; with_reducible rfl
    · go_simp; rfl
    apply pu_ 11 (some 75) (bz_ 13 4095) HT_ rfl rfl (by kernel_rfl) (fun _ _ _ h => h) (by rfl)
    · intro _; go_simp; with_reducible rfl
    · go_simp; rfl
    refine last_ (i := 12) (N := none) (bz_ 13 8191) rfl rfl (one_of HT_.out (by kernel_rfl)) (by decide) (fun K hK => ?_)
    go_simp
    refine hK.out _ _ ?_
    clear hK K
    refine done_ (done_of HT_.out (by kernel_rfl)) ?_
    clear HT_ hHeld
    go_wp2_with fail
    refine bodyPost_ret (v := .int .i64 0) (by simp [results, Try.results24, go_sem]) rfl ?_
    rw [← HR.out]
    exact ⟨(((hB1.trans hB2).trans gB4).trans ((Below.trans (below_drew (Below.refl _ _)) hB5).setCell h.hbb _)), rfl, _, _, _, _, _, _, h5⟩
  · rw [if_neg hl]
    generalize hr : (Sum.inr _ : Dr ⊕ Int) = r
    have HR := Aside0.mk hr
    clear hr
    go_enter Try.func24, Try.ntmps24
    go_wp2_with fail
    refine (pop3_calls h).mono ?_
    rintro e w0 ⟨vx, rfl, v3', o', h0, hx0, hB0⟩
    obtain ⟨B, cB, rfl⟩ := Kd.R_slice hx0
    have hbw0 : base ≤ w0.heap.size := Nat.le_of_lt (Nat.lt_of_le_of_lt h0.hbb h0.lt)
    go_wp2_with fail
    have h1 := BX.of (at_ := x.f0) h0 hx0 (below_alloc (Below.refl _ _) _) (blk_new w0 (.cells #[.int .i64 x.f0, .slice B x.f1.length cB] 59))
    have hB1 := hB0.alloc hbw0 (.cells #[.int .i64 x.f0, .slice B x.f1.length cB] 59)
    clear h0 hx0 hB0
    generalize w0.alloc (.cells #[.int .i64 x.f0, .slice B x.f1.length cB] 59) = w1 at h1 hB1 ⊢
    generalize new_ w0 o' 6 = o1 at h1
    generalize w0.heap.size = xb at h1 hbw0 ⊢
    refine (lay_bd_long h1.bd 9 0 hl).mono ?_
    rintro e w2 ⟨rfl, rfl⟩
    have h2 := h1
    have hx0 : w2.cell? ⟨xb, 0, none⟩ = some (.int .i64 x.f0) := (blk_cell h2.xbox 0).trans rfl
    have hx1 : w2.cell? ⟨xb, 1, none⟩ = some (.slice B x.f1.length cB) := (blk_cell h2.xbox 1).trans rfl
    go_wp2_with (first | (at_builtin; refine pushX h2 0 Try.underlying23 infoI rfl rfl rfl rfl ho ?_) | fail)
    intro A1 c1 w3 g1 g2 g3 gR gB
    have hfx : w3.frozen? ⟨xb, 1, none⟩ = false := blk_frozen g2 1
    have hcx : w3.cell? ⟨xb, 1, none⟩ = some (.slice B x.f1.length cB) := (blk_cell g2 1).trans rfl
    have h4 := BX.mk1 g1 g2 g3 h2.hxb gR
    obtain ⟨A3, c3, rfl⟩ := Kd.S_slice h4.bd.hl
    have hb3 : (w3.setCell ⟨xb, 1, none⟩ (.slice A1 (x.f1.length + 1) c1)).cell? ⟨bb, 3, none⟩ = some (.slice A3 ls.length c3) := (blk_cell h4.bd.box 3).trans rfl
    have hb4 : (w3.setCell ⟨xb, 1, none⟩ (.slice A1 (x.f1.length + 1) c1)).cell? ⟨xb, 0, none⟩ = some (.int .i64 x.f0) := (blk_cell h4.xbox 0).trans rfl
    have hb5 : (w3.setCell ⟨xb, 1, none⟩ (.slice A1 (x.f1.length + 1) c1)).cell? ⟨xb, 1, none⟩ = some (.slice A1 (x.f1.length + 1) c1) := (blk_cell h4.xbox 1).trans rfl
    go_wp2_with fail
    generalize hw4 : w3.setCell ⟨xb, 1, none⟩ (.slice A1 (x.f1.length + 1) c1) = w4 at h4 hb3 hb4 hb5 ⊢
    have hS : w4.cell? ⟨bb, 3, none⟩ = some (.slice A3 ls.length c3) ∧ w4.cell? ⟨xb, 0, none⟩ = some (.int .i64 x.f0) ∧ w4.cell? ⟨xb, 1, none⟩ = some (.slice A1 (x.f1.length + 1) c1) := ⟨hb3, hb4, hb5⟩
    have gB4 : Below base w2 w4 := by rw [← hw4]; exact gB.setCell h4.hxb _
    clear hx0 hx1 hfx hcx hb3 hb4 hb5 hw4 g1 g2 gR
    refine start_ (n := 13) (S := fun w' => w'.cell? ⟨bb, 3, none⟩ = some (.slice A3 ls.length c3) ∧ w'.cell? ⟨xb, 0, none⟩ = some (.int .i64 x.f0) ∧ w'.cell? ⟨xb, 1, none⟩ = some (.slice A1 (x.f1.length + 1) c1)) (ds := [12]) (bz_ 13 0) (by kernel_rfl) rfl rfl (hS) (fun hHeld => ?_)
    refine with_tab (rfl : rtab .any (opsOf Try.f24 11) = rtab .any (opsOf Try.f24 11)) (fun HT_ => ?_)
    apply pu_ 0 (some 64) (bz_ 13 1) HT_ rfl rfl (by kernel_rfl) (fun _ _ _ h => h) (by rfl)
    · intro _; go_simp; with_reducible rfl
    · go_simp; rfl
    apply pu_ 1 (some 65) (bz_ 13 3) HT_ rfl rfl (by kernel_rfl) (fun _ _ _ h => h) (by rfl)
    · intro _; go_simp; with_reducible rfl
    · go_simp; rfl
    apply pu_ 2 (some 66) (bz_ 13 7) HT_ rfl rfl (by kernel_rfl) (fun _ _ _ h => h) (by rfl)
    · intro _; go_simp; with_reducible rfl
    · go_simp; rfl
    apply pu_ 3 (some 67) (bz_ 13 15) HT_ rfl rfl (by kernel_rfl) (fun _ _ _ h => h) (by rfl)
    · intro _; go_simp; with_reducible rfl
    · go_simp; rfl
    apply pu_ 4 (some 68) (bz_ 13 31) HT_ rfl rfl (by kernel_rfl) (fun _ _ _ h => h) (by rfl)
    · intro _; go_simp; with_reducible rfl
    · go_simp; rfl
    apply tk_ 5 (some 69) (bz_ 13 63) HT_ hHeld rfl rfl (by kernel_rfl) (fun _ _ _ h => h) (by rfl)
    · intro _ hS; go_split_ands; go_simp; with_reducible rfl
    · go_simp; rfl
    apply tk_ 6 (some 70) (bz_ 13 127) HT_ hHeld rfl rfl (by kernel_rfl) (fun _ _ _ h => h) (by rfl)
    · intro _ hS; go_split_ands; go_simp; with_reducible rfl
    · go_simp; rfl
    refine one_ (i := 7) (N := some 71) (bz_ 13 255) rfl rfl (one_of HT_.out (by kernel_rfl)) (by decide) (fun K hK => ?_)
    refine value_ (w1 := ?_) (v := ?_) (by rfl) rfl ?_ ?_
    rotate_left 2
    · go_simp
      constructor
      · rfl
      · rfl
    have hS : ((w4.drew).alloc (.cells #[.int .i64 x.f0, .slice A1 (x.f1.length + 1) c1] 59)).cell? ⟨bb, 3, none⟩ = some (.slice A3 ls.length c3) ∧ ((w4.drew).alloc (.cells #[.int .i64 x.f0, .slice A1 (x.f1.length + 1) c1] 59)).cell? ⟨xb, 0, none⟩ = some (.int .i64 x.f0) ∧ ((w4.drew).alloc (.cells #[.int .i64 x.f0, .slice A1 (x.f1.length + 1) c1] 59)).cell? ⟨xb, 1, none⟩ = some (.slice A1 (x.f1.length + 1) c1) := ⟨(blk_cell (blk_alloc (blk_drew h4.bd.box) _) 3).trans rfl, (blk_cell (blk_alloc (blk_drew h4.xbox) _) 0).trans rfl, (blk_cell (blk_alloc (blk_drew h4.xbox) _) 1).trans rfl⟩
    refine hK.out _ _ (hS) (fun hHeld => ?_)
    clear hK K
    refine norm_ (a' := ?_) ?_ ?_
    rotate_left
    · show Act.put _ (some 71) _ = _
      simp only [Act.put, List.setIfInBounds_toArray, List.set_cons_zero, List.set_cons_succ, i64_w, i32_w]
      rfl
    refine one_ (i := 8) (N := some 72) (bz_ 13 511) rfl rfl (one_of HT_.out (by kernel_rfl)) (by decide) (fun K hK => ?_)
    have h4d := h4.below (below_drew (Below.refl _ _))
    refine push3S h4d.bd x.f0 (x.f1 ++ [0]) _ h4d.hx Try.underlying24 info59 rfl rfl rfl rfl hls ?_
    intro A5 c5 w5 h5 hB5 hb5 hkeep
    have hxb5 := hkeep xb _ h4d.xbox h4d.xo
    have hS : w5.cell? ⟨bb, 3, none⟩ = some (.slice A3 ls.length c3) ∧ w5.cell? ⟨xb, 0, none⟩ = some (.int .i64 x.f0) ∧ w5.cell? ⟨xb, 1, none⟩ = some (.slice A1 (x.f1.length + 1) c1) := ⟨(blk_cell hb5 3).trans rfl, (blk_cell hxb5 0).trans rfl, (blk_cell hxb5 1).trans rfl⟩
    have hf := blk_frozen hb5 3
    have hcc := hS.1
    refine hK.out _ _ (hS) (fun hHeld => ?_)
    clear hK K
    refine norm_ (a' := ?_) ?_ ?_
    rotate_left
    · show Act.put _ (some 72) _ = _
      simp only [Act.put, List.setIfInBounds_toArray, List.set_cons_zero, List.set_cons_succ, i64_w, i32_w]
      rfl
    apply pu_ 9 (some 73) (bz_ 13 1023) HT_ rfl rfl (by kernel_rfl) (fun _ _ _ h => h) (by rfl)
    · intro _; go_simp; with_reducible rfl
    · go_simp; rfl
    apply pu_ 10 (some 74) (bz_ 13 2047) HT_ rfl rfl (by kernel_rfl) (fun _ _ _ h => h) (by rfl)
    · intro _; go_simp; with_reducible rfl
    · go_simp; rfl
    apply pu_ 11 (some 75) (bz_ 13 4095) HT_ rfl rfl (by kernel_rfl) (fun _ _ _ h => h) (by rfl)
    · intro _; go_simp; with_reducible rfl
    · go_simp; rfl
    refine last_ (i := 12) (N := none) (bz_ 13 8191) rfl rfl (one_of HT_.out (by kernel_rfl)) (by decide) (fun K hK => ?_)
    go_simp
    refine hK.out _ _ ?_
    clear hK K
    refine done_ (done_of HT_.out (by kernel_rfl)) ?_
    clear HT_ hHeld
    go_wp2_with fail
    refine bodyPost_ret (v := .int .i64 3) (by simp [results, Try.results24, go_sem]) rfl ?_
    rw [← HR.out]
    exact ⟨((hB1.trans gB4).trans ((Below.trans (below_drew (Below.refl _ _)) hB5).setCell h.hbb _)), rfl⟩
end
end Go.Proofs.Ytmglkgjnhoojaaa.PCodeRows
/- The builder's cases: case, of, endof, endcase. -/
namespace Go.Proofs.Ytmglkgjnhoojaaa.PCodeRows
open Go.RowKit Go.Proofs.YtmglkgjnhoojaaaW.PrintWords Go.Proofs.YtmglkgjnhoojaaaW.PrintLast Go.Proofs.YtmglkgjnhoojaaaW.PrintMore
set_option linter.unusedVariables false
set_option linter.unusedSimpArgs false
section
variable {w : World} {base bb : Nat} {v0 v1 v2 v3 v4 : Value} {o : Nat → Nat} {code : List S37} {origs dests xs outs : List Int} {loops cases ls : List S59}
set_option maxHeartbeats 2000000 in
theorem case_calls (h : BD w base bb v0 v1 v2 v3 v4 o code origs dests loops cases) (ho : cases.length < 4398046511104 - 1) :
    Calls Try.prog 25 #[.pointer (some ⟨bb, 0, none⟩), .int .i64 12] w (BPost base bb w (.inl ⟨code, origs, dests, loops, cases ++ [⟨-1, []⟩]⟩)) := by
  generalize hr : (Sum.inl _ : Dr ⊕ Int) = r
  have HR := Aside0.mk hr
  clear hr
  obtain ⟨A, c, rfl⟩ := Kd.S_slice h.hs
  have hb1 : w.cell? ⟨bb, 4, none⟩ = some (.slice A cases.length c) := (blk_cell h.box 4).trans rfl
  go_enter Try.func25, Try.ntmps25
  go_wp2_with (at_builtin; refine push4 h (-1) [] (.slice none 0 0) (Kd.R_nil _ _ _ _ _) Try.underlying24 info59 rfl rfl rfl rfl ho ?_)
  intro A1 c1 w2 h2 hB2 hb2 _
  have hf := blk_frozen hb2 4
  have hc2 : w2.cell? ⟨bb, 4, none⟩ = some (.slice A cases.length c) := (blk_cell hb2 4).trans rfl
  go_wp2_with fail
  refine bodyPost_ret (v := .int .i64 0) (by simp [results, Try.results25, go_sem]) rfl ?_
  rw [← HR.out]
  exact ⟨hB2.setCell h.hbb _, rfl, _, _, _, _, _, _, h2⟩
set_option maxHeartbeats 2000000 in
theorem of_empty (h : BD w base bb v0 v1 v2 v3 v4 o code origs dests loops []) : Calls Try.prog 25 #[.pointer (some ⟨bb, 0, none⟩), .int .i64 13] w (BPost base bb w (.inr 13)) := by
  go_enter Try.func25, Try.ntmps25
  go_wp2_with fail
  refine (pop4_empty h).mono ?_
  rintro e w0 ⟨rfl, hB⟩
  have hbw : base ≤ w.heap.size := Nat.le_of_lt (Nat.lt_of_le_of_lt h.hbb h.lt)
  have hB0 := Below.mono hB hbw
  have hbw0 := Nat.le_trans hbw hB.size
  go_wp2_with fail
  exact bodyPost_ret (v := .int .i64 13) (by simp [results, Try.results25, go_sem]) rfl ⟨hB0.alloc hbw0 _, rfl⟩
set_option maxHeartbeats 2000000 in
theorem of_bad {a : Int} (h : BD w base bb v0 v1 v2 v3 v4 o code origs dests loops (ls ++ [⟨a, outs⟩])) (ha : a ≠ -1) : Calls Try.prog 25 #[.pointer (some ⟨bb, 0, none⟩), .int .i64 13] w (BPost base bb w (.inr 13)) := by
  have ea : (a == -1) = false := by simpa using ha
  go_enter Try.func25, Try.ntmps25
  go_wp2_with fail
  refine (pop4_calls h).mono ?_
  rintro e w0 ⟨vx, rfl, v4', o', h0, hx0, hB0⟩
  obtain ⟨B, cB, rfl⟩ := Kd.R_slice hx0
  have hbw0 : base ≤ w0.heap.size := Nat.le_of_lt (Nat.lt_of_le_of_lt h0.hbb h0.lt)
  have hxz : (w0.alloc (.cells #[.int .i64 a, .slice B outs.length cB] 59)).cell? ⟨w0.heap.size, 0, none⟩ = some (.int .i64 a) := (blk_cell (blk_new w0 (.cells #[.int .i64 a, .slice B outs.length cB] 59)) 0).trans rfl
  go_wp2_with fail
  exact bodyPost_ret (v := .int .i64 13) (by simp [results, Try.results25, go_sem]) rfl ⟨hB0.alloc hbw0 _, rfl⟩
set_option maxHeartbeats 2000000 in
theorem endof_empty (h : BD w base bb v0 v1 v2 v3 v4 o code origs dests loops []) : Calls Try.prog 25 #[.pointer (some ⟨bb, 0, none⟩), .int .i64 14] w (BPost base bb w (.inr 13)) := by
  go_enter Try.func25, Try.ntmps25
  go_wp2_with fail
  refine (pop4_empty h).mono ?_
  rintro e w0 ⟨rfl, hB⟩
  have hbw : base ≤ w.heap.size := Nat.le_of_lt (Nat.lt_of_le_of_lt h.hbb h.lt)
  have hB0 := Below.mono hB hbw
  have hbw0 := Nat.le_trans hbw hB.size
  go_wp2_with fail
  exact bodyPost_ret (v := .int .i64 13) (by simp [results, Try.results25, go_sem]) rfl ⟨hB0.alloc hbw0 _, rfl⟩
set_option maxHeartbeats 2000000 in
theorem endof_bad (h : BD w base bb v0 v1 v2 v3 v4 o code origs dests loops (ls ++ [⟨(-1), outs⟩])) : Calls Try.prog 25 #[.pointer (some ⟨bb, 0, none⟩), .int .i64 14] w (BPost base bb w (.inr 13)) := by
  go_enter Try.func25, Try.ntmps25
  go_wp2_with fail
  refine (pop4_calls h).mono ?_
  rintro e w0 ⟨vx, rfl, v4', o', h0, hx0, hB0⟩
  obtain ⟨B, cB, rfl⟩ := Kd.R_slice hx0
  have hbw0 : base ≤ w0.heap.size := Nat.le_of_lt (Nat.lt_of_le_of_lt h0.hbb h0.lt)
  have hxz : (w0.alloc (.cells #[.int .i64 (-1), .slice B outs.length cB] 59)).cell? ⟨w0.heap.size, 0, none⟩ = some (.int .i64 (-1)) := (blk_cell (blk_new w0 (.cells #[.int .i64 (-1), .slice B outs.length cB] 59)) 0).trans rfl
  go_wp2_with fail
  exact bodyPost_ret (v := .int .i64 13) (by simp [results, Try.results25, go_sem]) rfl ⟨hB0.alloc hbw0 _, rfl⟩
set_option maxHeartbeats 2000000 in
theorem endcase_empty (h : BD w base bb v0 v1 v2 v3 v4 o code origs dests loops []) : Calls Try.prog 25 #[.pointer (some ⟨bb, 0, none⟩), .int .i64 15] w (BPost base bb w (.inr 13)) := by
  go_enter Try.func25, Try.ntmps25
  go_wp2_with fail
  refine (pop4_empty h).mono ?_
  rintro e w0 ⟨rfl, hB⟩
  have hbw : base ≤ w.heap.size := Nat.le_of_lt (Nat.lt_of_le_of_lt h.hbb h.lt)
  have hB0 := Below.mono hB hbw
  have hbw0 := Nat.le_trans hbw hB.size
  go_wp2_with fail
  exact bodyPost_ret (v := .int .i64 13) (by simp [results, Try.results25, go_sem]) rfl ⟨hB0.alloc hbw0 _, rfl⟩
set_option maxHeartbeats 2000000 in
theorem endcase_bad {a : Int} (h : BD w base bb v0 v1 v2 v3 v4 o code origs dests loops (ls ++ [⟨a, outs⟩])) (ha : a ≠ -1) : Calls Try.prog 25 #[.pointer (some ⟨bb, 0, none⟩), .int .i64 15] w (BPost base bb w (.inr 13)) := by
  have ea : (a == -1) = false := by simpa using ha
  go_enter Try.func25, Try.ntmps25
  go_wp2_with fail
  refine (pop4_calls h).mono ?_
  rintro e w0 ⟨vx, rfl, v4', o', h0, hx0, hB0⟩
  obtain ⟨B, cB, rfl⟩ := Kd.R_slice hx0
  have hbw0 : base ≤ w0.heap.size := Nat.le_of_lt (Nat.lt_of_le_of_lt h0.hbb h0.lt)
  have hxz : (w0.alloc (.cells #[.int .i64 a, .slice B outs.length cB] 59)).cell? ⟨w0.heap.size, 0, none⟩ = some (.int .i64 a) := (blk_cell (blk_new w0 (.cells #[.int .i64 a, .slice B outs.length cB] 59)) 0).trans rfl
  go_wp2_with fail
  exact bodyPost_ret (v := .int .i64 13) (by simp [results, Try.results25, go_sem]) rfl ⟨hB0.alloc hbw0 _, rfl⟩
set_option maxHeartbeats 2000000 in
theorem of_calls (h : BD w base bb v0 v1 v2 v3 v4 o code origs dests loops (ls ++ [⟨-1, outs⟩])) (hls : ls.length < 4398046511104 - 1) :
    Calls Try.prog 25 #[.pointer (some ⟨bb, 0, none⟩), .int .i64 13] w (BPost base bb w (layP code 10 0 fun c => ⟨c, origs, dests, loops, ls ++ [⟨(code.length : Int), outs⟩]⟩)) := by
  unfold layP
  by_cases hl : code.length < 256
  · rw [if_pos hl]
    generalize hr : (Sum.inl _ : Dr ⊕ Int) = r
    have HR := Aside0.mk hr
    clear hr
    go_enter Try.func25, Try.ntmps25
    go_wp2_with fail
    refine (pop4_calls h).mono ?_
    rintro e w0 ⟨vx, rfl, v4', o', h0, hx0, hB0⟩
    obtain ⟨B, cB, rfl⟩ := Kd.R_slice hx0
    have hbw0 : base ≤ w0.heap.size := Nat.le_of_lt (Nat.lt_of_le_of_lt h0.hbb h0.lt)
    have hxz : (w0.alloc (.cells #[.int .i64 (-1), .slice B outs.length cB] 59)).cell? ⟨w0.heap.size, 0, none⟩ = some (.int .i64 (-1)) := (blk_cell (blk_new w0 (.cells #[.int .i64 (-1), .slice B outs.length cB] 59)) 0).trans rfl
    go_wp2_with fail
    clear hxz
    have h1 := BX.of (at_ := (-1)) h0 hx0 (below_alloc (Below.refl _ _) _) (blk_new w0 (.cells #[.int .i64 (-1), .slice B outs.length cB] 59))
    have hB1 := hB0.alloc hbw0 (.cells #[.int .i64 (-1), .slice B outs.length cB] 59)
    clear h0 hx0 hB0
    generalize w0.alloc (.cells #[.int .i64 (-1), .slice B outs.length cB] 59) = w1 at h1 hB1 ⊢
    generalize new_ w0 o' 6 = o1 at h1
    generalize w0.heap.size = xb at h1 hbw0 ⊢
    refine (lay_bx h1 10 0 hl).mono ?_
    rintro e w2 ⟨rfl, v0', h2, hB2⟩
    have hfx : w2.frozen? ⟨xb, 0, none⟩ = false := blk_frozen h2.xbox 0
    have hx0 : w2.cell? ⟨xb, 0, none⟩ = some (.int .i64 (-1)) := (blk_cell h2.xbox 0).trans rfl
    have h4 := h2.set0 (code.length : Int)
    obtain ⟨A4, c4, rfl⟩ := Kd.S_slice h4.bd.hs
    have hb3 : (w2.setCell ⟨xb, 0, none⟩ (.int .i64 (code.length : Int))).cell? ⟨bb, 4, none⟩ = some (.slice A4 ls.length c4) := (blk_cell h4.bd.box 4).trans rfl
    have hb4 : (w2.setCell ⟨xb, 0, none⟩ (.int .i64 (code.length : Int))).cell? ⟨xb, 0, none⟩ = some (.int .i64 (code.length : Int)) := (blk_cell h4.xbox 0).trans rfl
    have hb5 : (w2.setCell ⟨xb, 0, none⟩ (.int .i64 (code.length : Int))).cell? ⟨xb, 1, none⟩ = some (.slice B outs.length cB) := (blk_cell h4.xbox 1).trans rfl
    go_wp2_with fail
    generalize hw4 : w2.setCell ⟨xb, 0, none⟩ (.int .i64 (code.length : Int)) = w4 at h4 hb3 hb4 hb5 ⊢
    have hS : w4.cell? ⟨bb, 4, none⟩ = some (.slice A4 ls.length c4) ∧ w4.cell? ⟨xb, 0, none⟩ = some (.int .i64 (code.length : Int)) ∧ w4.cell? ⟨xb, 1, none⟩ = some (.slice B outs.length cB) := ⟨hb3, hb4, hb5⟩
    have gB4 : Below base w2 w4 := by rw [← hw4]; exact (Below.refl _ _).setCell h4.hxb _
    clear hx0 hfx hb3 hb4 hb5 hw4
    refine start_ (n := 13) (S := fun w' => w'.cell? ⟨bb, 4, none⟩ = some (.slice A4 ls.length c4) ∧ w'.cell? ⟨xb, 0, none⟩ = some (.int .i64 (code.length : Int)) ∧ w'.cell? ⟨xb, 1, none⟩ = some (.slice B outs.length cB)) (ds := [12]) (bz_ 13 0) (by kernel_rfl) rfl rfl (hS) (fun hHeld => ?_)
    refine with_tab (rfl : rtab .any (opsOf Try.f25 11) = rtab .any (opsOf Try.f25 11)) (fun HT_ => ?_)
    apply pu_ 0 (some 55) (bz_ 13 1) HT_ rfl rfl (by kernel_rfl) (fun _ _ _ h => h) (by rfl)
    · intro _; go_simp; with_reducible rfl
    · go_simp; rfl
    apply pu_ 1 (some 56) (bz_ 13 3) HT_ rfl rfl (by kernel_rfl) (fun _ _ _ h => h) (by rfl)
    · intro _; go_simp; with_reducible rfl
    · go_simp; rfl
    apply pu_ 2 (some 57) (bz_ 13 7) HT_ rfl rfl (by kernel_rfl) (fun _ _ _ h => h) (by rfl)
    · intro _; go_simp; with_reducible rfl
    · go_simp; rfl
    apply pu_ 3 (some 58) (bz_ 13 15) HT_ rfl rfl (by kernel_rfl) (fun _ _ _ h => h) (by rfl)
    · intro _; go_simp; with_reducible rfl
    · go_simp; rfl
    apply pu_ 4 (some 59) (bz_ 13 31) HT_ rfl rfl (by kernel_rfl) (fun _ _ _ h => h) (by rfl)
    · intro _; go_simp; with_reducible rfl
    · go_simp; rfl
    apply tk_ 5 (some 60) (bz_ 13 63) HT_ hHeld rfl rfl (by kernel_rfl) (fun _ _ _ h => h) (by rfl)
    · intro _ hS; go_split_ands; go_simp; with_reducible rfl
    · go_simp; rfl
    apply tk_ 6 (some 61) (bz_ 13 127) HT_ hHeld rfl rfl (by kernel_rfl) (fun _ _ _ h => h) (by rfl)
    · intro _ hS; go_split_ands; go_simp; with_reducible rfl
    · go_simp; rfl
    refine one_ (i := 7) (N := some 62) (bz_ 13 255) rfl rfl (one_of HT_.out (by kernel_rfl)) (by decide) (fun K hK => ?_)
    refine value_ (w1 := ?_) (v := ?_) (by rfl) rfl ?_ ?_
    rotate_left 2
    · go_simp
      constructor
      · rfl
      · rfl
    have hS : ((w4.drew).alloc (.cells #[.int .i64 (code.length : Int), .slice B outs.length cB] 59)).cell? ⟨bb, 4, none⟩ = some (.slice A4 ls.length c4) ∧ ((w4.drew).alloc (.cells #[.int .i64 (code.length : Int), .slice B outs.length cB] 59)).cell? ⟨xb, 0, none⟩ = some (.int .i64 (code.length : Int)) ∧ ((w4.drew).alloc (.cells #[.int .i64 (code.length : Int), .slice B outs.length cB] 59)).cell? ⟨xb, 1, none⟩ = some (.slice B outs.length cB) := ⟨(blk_cell (blk_alloc (blk_drew h4.bd.box) _) 4).trans rfl, (blk_cell (blk_alloc (blk_drew h4.xbox) _) 0).trans rfl, (blk_cell (blk_alloc (blk_drew h4.xbox) _) 1).trans rfl⟩
    refine hK.out _ _ (hS) (fun hHeld => ?_)
    clear hK K
    refine norm_ (a' := ?_) ?_ ?_
    rotate_left
    · show Act.put _ (some 62) _ = _
      simp only [Act.put, List.setIfInBounds_toArray, List.set_cons_zero, List.set_cons_succ, i64_w, i32_w]
      rfl
    refine one_ (i := 8) (N := some 63) (bz_ 13 511) rfl rfl (one_of HT_.out (by kernel_rfl)) (by decide) (fun K hK => ?_)
    have h4d := h4.below (below_drew (Below.refl _ _))
    refine push4S h4d.bd (code.length : Int) outs _ h4d.hx Try.underlying24 info59 rfl rfl rfl rfl hls ?_
    intro A5 c5 w5 h5 hB5 hb5 hkeep
    have hxb5 := hkeep xb _ h4d.xbox h4d.xo
    have hS : (w5).cell? ⟨bb, 4, none⟩ = some (.slice A4 ls.length c4) ∧ (w5).cell? ⟨xb, 0, none⟩ = some (.int .i64 (code.length : Int)) ∧ (w5).cell? ⟨xb, 1, none⟩ = some (.slice B outs.length cB) := ⟨(blk_cell hb5 4).trans rfl, (blk_cell hxb5 0).trans rfl, (blk_cell hxb5 1).trans rfl⟩
    have hf := blk_frozen hb5 4
    have hcc := hS.1
    refine hK.out _ _ (hS) (fun hHeld => ?_)
    clear hK K
    refine norm_ (a' := ?_) ?_ ?_
    rotate_left
    · show Act.put _ (some 63) _ = _
      simp only [Act.put, List.setIfInBounds_toArray, List.set_cons_zero, List.set_cons_succ, i64_w, i32_w]
      rfl
    apply pu_ 9 (some 64) (bz_ 13 1023) HT_ rfl rfl (by kernel_rfl) (fun _ _ _ h => h) (by rfl)
    · intro _; go_simp; with_reducible rfl
    · go_simp; rfl
    apply pu_ 10 (some 65) (bz_ 13 2047) HT_ rfl rfl (by kernel_rfl) (fun _ _ _ h => h) (by rfl)
    · intro _; go_simp; with_reducible rfl
    · go_simp; rfl
    apply pu_ 11 (some 66) (bz_ 13 4095) HT_ rfl rfl (by kernel_rfl) (fun _ _ _ h => h) (by rfl)
    · intro _; go_simp; with_reducible rfl
    · go_simp; rfl
    refine last_ (i := 12) (N := none) (bz_ 13 8191) rfl rfl (one_of HT_.out (by kernel_rfl)) (by decide) (fun K hK => ?_)
    go_simp
    refine hK.out _ _ ?_
    clear hK K
    refine done_ (done_of HT_.out (by kernel_rfl)) ?_
    clear HT_ hHeld
    go_wp2_with fail
    refine bodyPost_ret (v := .int .i64 0) (by simp [results, Try.results25, go_sem]) rfl ?_
    rw [← HR.out]
    exact ⟨(((hB1.trans hB2).trans gB4).trans ((Below.trans (below_drew (Below.refl _ _)) hB5).setCell h.hbb _)), rfl, _, _, _, _, _, _, h5⟩
  · rw [if_neg hl]
    generalize hr : (Sum.inr _ : Dr ⊕ Int) = r
    have HR := Aside0.mk hr
    clear hr
    go_enter Try.func25, Try.ntmps25
    go_wp2_with fail
    refine (pop4_calls h).mono ?_
    rintro e w0 ⟨vx, rfl, v4', o', h0, hx0, hB0⟩
    obtain ⟨B, cB, rfl⟩ := Kd.R_slice hx0
    have hbw0 : base ≤ w0.heap.size := Nat.le_of_lt (Nat.lt_of_le_of_lt h0.hbb h0.lt)
    have hxz : (w0.alloc (.cells #[.int .i64 (-1), .slice B outs.length cB] 59)).cell? ⟨w0.heap.size, 0, none⟩ = some (.int .i64 (-1)) := (blk_cell (blk_new w0 (.cells #[.int .i64 (-1), .slice B outs.length cB] 59)) 0).trans rfl
    go_wp2_with fail
    clear hxz
    have h1 := BX.of (at_ := (-1)) h0 hx0 (below_alloc (Below.refl _ _) _) (blk_new w0 (.cells #[.int .i64 (-1), .slice B outs.length cB] 59))
    have hB1 := hB0.alloc hbw0 (.cells #[.int .i64 (-1), .slice B outs.length cB] 59)
    clear h0 hx0 hB0
    generalize w0.alloc (.cells #[.int .i64 (-1), .slice B outs.length cB] 59) = w1 at h1 hB1 ⊢
    generalize new_ w0 o' 6 = o1 at h1
    generalize w0.heap.size = xb at h1 hbw0 ⊢
    refine (lay_bd_long h1.bd 10 0 hl).mono ?_
    rintro e w2 ⟨rfl, rfl⟩
    have h2 := h1
    have hfx : w2.frozen? ⟨xb, 0, none⟩ = false := blk_frozen h2.xbox 0
    have hx0 : w2.cell? ⟨xb, 0, none⟩ = some (.int .i64 (-1)) := (blk_cell h2.xbox 0).trans rfl
    have h4 := h2.set0 0
    obtain ⟨A4, c4, rfl⟩ := Kd.S_slice h4.bd.hs
    have hb3 : (w2.setCell ⟨xb, 0, none⟩ (.int .i64 0)).cell? ⟨bb, 4, none⟩ = some (.slice A4 ls.length c4) := (blk_cell h4.bd.box 4).trans rfl
    have hb4 : (w2.setCell ⟨xb, 0, none⟩ (.int .i64 0)).cell? ⟨xb, 0, none⟩ = some (.int .i64 0) := (blk_cell h4.xbox 0).trans rfl
    have hb5 : (w2.setCell ⟨xb, 0, none⟩ (.int .i64 0)).cell? ⟨xb, 1, none⟩ = some (.slice B outs.length cB) := (blk_cell h4.xbox 1).trans rfl
    go_wp2_with fail
    generalize hw4 : w2.setCell ⟨xb, 0, none⟩ (.int .i64 0) = w4 at h4 hb3 hb4 hb5 ⊢
    have hS : w4.cell? ⟨bb, 4, none⟩ = some (.slice A4 ls.length c4) ∧ w4.cell? ⟨xb, 0, none⟩ = some (.int .i64 0) ∧ w4.cell? ⟨xb, 1, none⟩ = some (.slice B outs.length cB) := ⟨hb3, hb4, hb5⟩
    have gB4 : Below base w2 w4 := by rw [← hw4]; exact (Below.refl _ _).setCell h4.hxb _
    clear hx0 hfx hb3 hb4 hb5 hw4
    refine start_ (n := 13) (S := fun w' => w'.cell? ⟨bb, 4, none⟩ = some (.slice A4 ls.length c4) ∧ w'.cell? ⟨xb, 0, none⟩ = some (.int .i64 0) ∧ w'.cell? ⟨xb, 1, none⟩ = some (.slice B outs.length cB)) (ds := [12]) (bz_ 13 0) (by kernel_rfl) rfl rfl (hS) (fun hHeld => ?_)
    refine with_tab (rfl : rtab .any (opsOf Try.f25 11) = rtab .any (opsOf Try.f25 11)) (fun HT_ => ?_)
    apply pu_ 0 (some 55) (bz_ 13 1) HT_ rfl rfl (by kernel_rfl) (fun _ _ _ h => h) (by rfl)
    · intro _; go_simp; with_reducible rfl
    · go_simp; rfl
    apply pu_ 1 (some 56) (bz_ 13 3) HT_ rfl rfl (by kernel_rfl) (fun _ _ _ h => h) (by rfl)
    · intro _; go_simp; with_reducible rfl
    · go_simp; rfl
    apply pu_ 2 (some 57) (bz_ 13 7) HT_ rfl rfl (by kernel_rfl) (fun _ _ _ h => h) (by rfl)
    · intro _; go_simp; with_reducible rfl
    · go_simp; rfl
    apply pu_ 3 (some 58) (bz_ 13 15) HT_ rfl rfl (by kernel_rfl) (fun _ _ _ h => h) (by rfl)
    · intro _; go_simp; with_reducible rfl
    · go_simp; rfl
    apply pu_ 4 (some 59) (bz_ 13 31) HT_ rfl rfl (by kernel_rfl) (fun _ _ _ h => h) (by rfl)
    · intro _; go_simp; with_reducible rfl
    · go_simp; rfl
    apply tk_ 5 (some 60) (bz_ 13 63) HT_ hHeld rfl rfl (by kernel_rfl) (fun _ _ _ h => h) (by rfl)
    · intro _ hS; go_split_ands; go_simp; with_reducible rfl
    · go_simp; rfl
    apply tk_ 6 (some 61) (bz_ 13 127) HT_ hHeld rfl rfl (by kernel_rfl) (fun _ _ _ h => h) (by rfl)
    · intro _ hS; go_split_ands; go_simp; with_reducible rfl
    · go_simp; rfl
    refine one_ (i := 7) (N := some 62) (bz_ 13 255) rfl rfl (one_of HT_.out (by kernel_rfl)) (by decide) (fun K hK => ?_)
    refine value_ (w1 := ?_) (v := ?_) (by rfl) rfl ?_ ?_
    rotate_left 2
    · go_simp
      constructor
      · rfl
      · rfl
    have hS : ((w4.drew).alloc (.cells #[.int .i64 0, .slice B outs.length cB] 59)).cell? ⟨bb, 4, none⟩ = some (.slice A4 ls.length c4) ∧ ((w4.drew).alloc (.cells #[.int .i64 0, .slice B outs.length cB] 59)).cell? ⟨xb, 0, none⟩ = some (.int .i64 0) ∧ ((w4.drew).alloc (.cells #[.int .i64 0, .slice B outs.length cB] 59)).cell? ⟨xb, 1, none⟩ = some (.slice B outs.length cB) := ⟨(blk_cell (blk_alloc (blk_drew h4.bd.box) _) 4).trans rfl, (blk_cell (blk_alloc (blk_drew h4.xbox) _) 0).trans rfl, (blk_cell (blk_alloc (blk_drew h4.xbox) _) 1).trans rfl⟩
    refine hK.out _ _ (hS) (fun hHeld => ?_)
    clear hK K
    refine norm_ (a' := ?_) ?_ ?_
    rotate_left
    · show Act.put _ (some 62) _ = _
      simp only [Act.put, List.setIfInBounds_toArray, List.set_cons_zero, List.set_cons_succ, i64_w, i32_w]
      rfl
    refine one_ (i := 8) (N := some 63) (bz_ 13 511) rfl rfl (one_of HT_.out (by kernel_rfl)) (by decide) (fun K hK => ?_)
    have h4d := h4.below (below_drew (Below.refl _ _))
    refine push4S h4d.bd 0 outs _ h4d.hx Try.underlying24 info59 rfl rfl rfl rfl hls ?_
    intro A5 c5 w5 h5 hB5 hb5 hkeep
    have hxb5 := hkeep xb _ h4d.xbox h4d.xo
    have hS : (w5).cell? ⟨bb, 4, none⟩ = some (.slice A4 ls.length c4) ∧ (w5).cell? ⟨xb, 0, none⟩ = some (.int .i64 0) ∧ (w5).cell? ⟨xb, 1, none⟩ = some (.slice B outs.length cB) := ⟨(blk_cell hb5 4).trans rfl, (blk_cell hxb5 0).trans rfl, (blk_cell hxb5 1).trans rfl⟩
    have hf := blk_frozen hb5 4
    have hcc := hS.1
    refine hK.out _ _ (hS) (fun hHeld => ?_)
    clear hK K
    refine norm_ (a' := ?_) ?_ ?_
    rotate_left
    · show Act.put _ (some 63) _ = _
      simp only [Act.put, List.setIfInBounds_toArray, List.set_cons_zero, List.set_cons_succ, i64_w, i32_w]
      rfl
    apply pu_ 9 (some 64) (bz_ 13 1023) HT_ rfl rfl (by kernel_rfl) (fun _ _ _ h => h) (by rfl)
    · intro _; go_simp; with_reducible rfl
    · go_simp; rfl
    apply pu_ 10 (some 65) (bz_ 13 2047) HT_ rfl rfl (by kernel_rfl) (fun _ _ _ h => h) (by rfl)
    · intro _; go_simp; with_reducible rfl
    · go_simp; rfl
    apply pu_ 11 (some 66) (bz_ 13 4095) HT_ rfl rfl (by kernel_rfl) (fun _ _ _ h => h) (by rfl)
    · intro _; go_simp; with_reducible rfl
    · go_simp; rfl
    refine last_ (i := 12) (N := none) (bz_ 13 8191) rfl rfl (one_of HT_.out (by kernel_rfl)) (by decide) (fun K hK => ?_)
    go_simp
    refine hK.out _ _ ?_
    clear hK K
    refine done_ (done_of HT_.out (by kernel_rfl)) ?_
    clear HT_ hHeld
    go_wp2_with fail
    refine bodyPost_ret (v := .int .i64 3) (by simp [results, Try.results25, go_sem]) rfl ?_
    rw [← HR.out]
    exact ⟨((hB1.trans gB4).trans ((Below.trans (below_drew (Below.refl _ _)) hB5).setCell h.hbb _)), rfl⟩
set_option maxHeartbeats 2000000 in
theorem endcase_calls (h : BD w base bb v0 v1 v2 v3 v4 o code origs dests loops (ls ++ [⟨-1, outs⟩])) (hx : ∀ y ∈ outs, 0 ≤ y ∧ y < (code.length : Int)) (h256 : code.length ≤ 256) :
    Calls Try.prog 25 #[.pointer (some ⟨bb, 0, none⟩), .int .i64 15] w (BPost base bb w (layP code 11 0 fun c => ⟨aimed c.length c outs, origs, dests, loops, ls⟩)) := by
  unfold layP
  by_cases hl : code.length < 256
  · rw [if_pos hl]
    generalize hr : (Sum.inl _ : Dr ⊕ Int) = r
    have HR := Aside0.mk hr
    clear hr
    go_enter Try.func25, Try.ntmps25
    go_wp2_with fail
    refine (pop4_calls h).mono ?_
    rintro e w0 ⟨vx, rfl, v4', o', h0, hx0, hB0⟩
    obtain ⟨B, cB, rfl⟩ := Kd.R_slice hx0
    have hbw0 : base ≤ w0.heap.size := Nat.le_of_lt (Nat.lt_of_le_of_lt h0.hbb h0.lt)
    have hxz : (w0.alloc (.cells #[.int .i64 (-1), .slice B outs.length cB] 59)).cell? ⟨w0.heap.size, 0, none⟩ = some (.int .i64 (-1)) := (blk_cell (blk_new w0 (.cells #[.int .i64 (-1), .slice B outs.length cB] 59)) 0).trans rfl
    go_wp2_with fail
    clear hxz
    have h1 := BX.of (at_ := (-1)) h0 hx0 (below_alloc (Below.refl _ _) _) (blk_new w0 (.cells #[.int .i64 (-1), .slice B outs.length cB] 59))
    have hB1 := hB0.alloc hbw0 (.cells #[.int .i64 (-1), .slice B outs.length cB] 59)
    clear h0 hx0 hB0
    generalize w0.alloc (.cells #[.int .i64 (-1), .slice B outs.length cB] 59) = w1 at h1 hB1 ⊢
    generalize new_ w0 o' 6 = o1 at h1
    generalize w0.heap.size = xb at h1 hbw0 ⊢
    refine (lay_bx h1 11 0 hl).mono ?_
    rintro e w2 ⟨rfl, v0', h2, hB2⟩
    have hx1 : w2.cell? ⟨xb, 1, none⟩ = some (.slice B outs.length cB) := (blk_cell h2.xbox 1).trans rfl
    go_wp2_with fail
    refine (aim_bd h2.bd h2.hx (fun y hy => by have := hx y hy; simp; omega) (by simp; omega)).mono ?_
    rintro e w4 ⟨rfl, h4, hB4⟩
    go_wp2_with fail
    refine bodyPost_ret (v := .int .i64 0) (by simp [results, Try.results25, go_sem]) rfl ?_
    rw [← HR.out]
    exact ⟨(hB1.trans hB2).trans hB4, rfl, _, _, _, _, _, _, h4⟩
  · rw [if_neg hl]
    generalize hr : (Sum.inr _ : Dr ⊕ Int) = r
    have HR := Aside0.mk hr
    clear hr
    go_enter Try.func25, Try.ntmps25
    go_wp2_with fail
    refine (pop4_calls h).mono ?_
    rintro e w0 ⟨vx, rfl, v4', o', h0, hx0, hB0⟩
    obtain ⟨B, cB, rfl⟩ := Kd.R_slice hx0
    have hbw0 : base ≤ w0.heap.size := Nat.le_of_lt (Nat.lt_of_le_of_lt h0.hbb h0.lt)
    have hxz : (w0.alloc (.cells #[.int .i64 (-1), .slice B outs.length cB] 59)).cell? ⟨w0.heap.size, 0, none⟩ = some (.int .i64 (-1)) := (blk_cell (blk_new w0 (.cells #[.int .i64 (-1), .slice B outs.length cB] 59)) 0).trans rfl
    go_wp2_with fail
    clear hxz
    have h1 := BX.of (at_ := (-1)) h0 hx0 (below_alloc (Below.refl _ _) _) (blk_new w0 (.cells #[.int .i64 (-1), .slice B outs.length cB] 59))
    have hB1 := hB0.alloc hbw0 (.cells #[.int .i64 (-1), .slice B outs.length cB] 59)
    clear h0 hx0 hB0
    generalize w0.alloc (.cells #[.int .i64 (-1), .slice B outs.length cB] 59) = w1 at h1 hB1 ⊢
    generalize new_ w0 o' 6 = o1 at h1
    generalize w0.heap.size = xb at h1 hbw0 ⊢
    refine (lay_bd_long h1.bd 11 0 hl).mono ?_
    rintro e w2 ⟨rfl, rfl⟩
    have hx1 : w2.cell? ⟨xb, 1, none⟩ = some (.slice B outs.length cB) := (blk_cell h1.xbox 1).trans rfl
    go_wp2_with fail
    refine (aim_bd h1.bd h1.hx hx h256).mono ?_
    rintro e w4 ⟨rfl, h4, hB4⟩
    go_wp2_with fail
    refine bodyPost_ret (v := .int .i64 3) (by simp [results, Try.results25, go_sem]) rfl ?_
    rw [← HR.out]
    exact ⟨hB1.trans hB4, rfl⟩
set_option maxHeartbeats 4000000 in
theorem endof_calls {a : Int} (h : BD w base bb v0 v1 v2 v3 v4 o code origs dests loops (ls ++ [⟨a, outs⟩])) (ha : a ≠ -1) (hx2 : 0 ≤ a ∧ a < (code.length : Int)) (h256 : code.length ≤ 256) (ho : outs.length < 4398046511104) (hls : ls.length < 4398046511104 - 1) :
    Calls Try.prog 25 #[.pointer (some ⟨bb, 0, none⟩), .int .i64 14] w (BPost base bb w (layP code 3 0 fun c => ⟨aimed c.length c [a], origs, dests, loops, ls ++ [⟨-1, outs ++ [(code.length : Int)]⟩]⟩)) := by
  unfold layP
  have ea : (a == -1) = false := by simpa using ha
  by_cases hl : code.length < 256
  · rw [if_pos hl]
    generalize hr : (Sum.inl _ : Dr ⊕ Int) = r
    have HR := Aside0.mk hr
    clear hr
    go_enter Try.func25, Try.ntmps25
    go_wp2_with fail
    refine (pop4_calls h).mono ?_
    rintro e w0 ⟨vx, rfl, v4', o', h0, hx0, hB0⟩
    obtain ⟨B, cB, rfl⟩ := Kd.R_slice hx0
    have hbw0 : base ≤ w0.heap.size := Nat.le_of_lt (Nat.lt_of_le_of_lt h0.hbb h0.lt)
    have hxz : (w0.alloc (.cells #[.int .i64 a, .slice B outs.length cB] 59)).cell? ⟨w0.heap.size, 0, none⟩ = some (.int .i64 a) := (blk_cell (blk_new w0 (.cells #[.int .i64 a, .slice B outs.length cB] 59)) 0).trans rfl
    go_wp2_with fail
    clear hxz
    have h1 := BX.of (at_ := a) h0 hx0 (below_alloc (Below.refl _ _) _) (blk_new w0 (.cells #[.int .i64 a, .slice B outs.length cB] 59))
    have hB1 := hB0.alloc hbw0 (.cells #[.int .i64 a, .slice B outs.length cB] 59)
    clear h0 hx0 hB0
    generalize w0.alloc (.cells #[.int .i64 a, .slice B outs.length cB] 59) = w1 at h1 hB1 ⊢
    generalize new_ w0 o' 6 = o1 at h1
    generalize w0.heap.size = xb at h1 hbw0 ⊢
    refine (lay_bx h1 3 0 hl).mono ?_
    rintro e w2 ⟨rfl, v0', h2, hB2⟩
    have HIN := Aside0.mk (show 0 ≤ a ∧ a < ((code ++ [(⟨3, 0 % 4294967296⟩ : S37)]).length : Int) by simp; omega)
    have HLEN := Aside0.mk (show (code ++ [(⟨3, 0 % 4294967296⟩ : S37)]).length ≤ 256 by simp; omega)
    have hxc : w2.cell? ⟨xb, 0, none⟩ = some (.int .i64 a) := (blk_cell h2.xbox 0).trans rfl
    have hbw2 : base ≤ w2.heap.size := Nat.le_of_lt (Nat.lt_of_le_of_lt h2.bd.hbb h2.bd.lt)
    have hL := lit_R w2 0 (Nat.zero_le _) [a] (by simp)
    clear hx2
    go_wp2_with fail
    refine (aim_bx (h2.below (below_alloc (Below.refl _ _) (.cells #[.int .i64 a] 3))) hL (by intro y hy; simp at hy; subst hy; exact HIN.out) HLEN.out).mono ?_
    rintro e w4 ⟨rfl, h4, hB4⟩
    obtain ⟨A4, c4, rfl⟩ := Kd.S_slice h4.bd.hs
    have hS : w4.cell? ⟨bb, 4, none⟩ = some (.slice A4 ls.length c4) ∧ w4.cell? ⟨xb, 1, none⟩ = some (.slice B outs.length cB) := ⟨(blk_cell h4.bd.box 4).trans rfl, (blk_cell h4.xbox 1).trans rfl⟩
    clear hxc
    go_wp2_with fail
    refine start_ (n := 18) (S := fun w' => w'.cell? ⟨bb, 4, none⟩ = some (.slice A4 ls.length c4) ∧ w'.cell? ⟨xb, 1, none⟩ = some (.slice B outs.length cB)) (ds := [17]) (bz_ 18 0) (by kernel_rfl) rfl rfl (hS) (fun hHeld => ?_)
    refine with_tab (rfl : rtab .any (opsOf Try.f25 16) = rtab .any (opsOf Try.f25 16)) (fun HT_ => ?_)
    apply pu_ 0 (some 80) (bz_ 18 1) HT_ rfl rfl (by kernel_rfl) (fun _ _ _ h => h) (by rfl)
    · intro _; go_simp; with_reducible rfl
    · go_simp; rfl
    apply pu_ 1 (some 81) (bz_ 18 3) HT_ rfl rfl (by kernel_rfl) (fun _ _ _ h => h) (by rfl)
    · intro _; go_simp; with_reducible rfl
    · go_simp; rfl
    apply pu_ 2 (some 82) (bz_ 18 7) HT_ rfl rfl (by kernel_rfl) (fun _ _ _ h => h) (by rfl)
    · intro _; go_simp; with_reducible rfl
    · go_simp; rfl
    apply pu_ 3 (some 83) (bz_ 18 15) HT_ rfl rfl (by kernel_rfl) (fun _ _ _ h => h) (by rfl)
    · intro _; go_simp; with_reducible rfl
    · go_simp; rfl
    apply pu_ 4 (some 84) (bz_ 18 31) HT_ rfl rfl (by kernel_rfl) (fun _ _ _ h => h) (by rfl)
    · intro _; go_simp; with_reducible rfl
    · go_simp; rfl
    apply pu_ 6 (some 86) (bz_ 18 95) HT_ rfl rfl (by kernel_rfl) (fun _ _ _ h => h) (by rfl)
    · intro _; go_simp; with_reducible rfl
    · go_simp; rfl
    apply pu_ 8 (some 88) (bz_ 18 351) HT_ rfl rfl (by kernel_rfl) (fun _ _ _ h => h) (by rfl)
    · intro _; go_simp; with_reducible rfl
    · go_simp; rfl
    apply tk_ 5 (some 85) (bz_ 18 383) HT_ hHeld rfl rfl (by kernel_rfl) (fun _ _ _ h => h) (by rfl)
    · intro _ hS; go_split_ands; go_simp; with_reducible rfl
    · go_simp; rfl
    apply tk_ 7 (some 87) (bz_ 18 511) HT_ hHeld rfl rfl (by kernel_rfl) (fun _ _ _ h => h) (by rfl)
    · intro _ hS; go_split_ands; go_simp; with_reducible rfl
    · go_simp; rfl
    refine one_ (i := 9) (N := some 89) (bz_ 18 1023) rfl rfl (one_of HT_.out (by kernel_rfl)) (by decide) (fun K hK => ?_)
    refine value_ (w1 := ?_) (v := ?_) (by rfl) rfl ?_ ?_
    rotate_left 2
    · go_simp
      constructor
      · rfl
      · rfl
    have hS : ((w4.drew).alloc (.cells #[.int .i64 (code.length : Int)] 3)).cell? ⟨bb, 4, none⟩ = some (.slice A4 ls.length c4) ∧ ((w4.drew).alloc (.cells #[.int .i64 (code.length : Int)] 3)).cell? ⟨xb, 1, none⟩ = some (.slice B outs.length cB) := ⟨(blk_cell (blk_alloc (blk_drew h4.bd.box) _) 4).trans rfl, (blk_cell (blk_alloc (blk_drew h4.xbox) _) 1).trans rfl⟩
    refine hK.out _ _ (hS) (fun hHeld => ?_)
    clear hK K
    refine norm_ (a' := ?_) ?_ ?_
    rotate_left
    · show Act.put _ (some 89) _ = _
      simp only [Act.put, List.setIfInBounds_toArray, List.set_cons_zero, List.set_cons_succ, i64_w, i32_w]
      rfl
    refine one_ (i := 10) (N := some 90) (bz_ 18 2047) rfl rfl (one_of HT_.out (by kernel_rfl)) (by decide) (fun K hK => ?_)
    have h4d := h4.below (below_drew (Below.refl _ _))
    refine pushXS h4d (code.length : Int) Try.underlying23 infoI rfl rfl rfl rfl ho ?_
    intro A1 c1 w5 g1 g2 g3 gR gB
    have hS : (w5).cell? ⟨bb, 4, none⟩ = some (.slice A4 ls.length c4) ∧ (w5).cell? ⟨xb, 1, none⟩ = some (.slice B outs.length cB) := ⟨(blk_cell g1.box 4).trans rfl, (blk_cell g2 1).trans rfl⟩
    refine hK.out _ _ (hS) (fun hHeld => ?_)
    clear hK K
    refine norm_ (a' := ?_) ?_ ?_
    rotate_left
    · show Act.put _ (some 90) _ = _
      simp only [Act.put, List.setIfInBounds_toArray, List.set_cons_zero, List.set_cons_succ, i64_w, i32_w]
      rfl
    apply pu_ 11 (some 91) (bz_ 18 4095) HT_ rfl rfl (by kernel_rfl) (fun _ _ _ h => h) (by rfl)
    · intro _; go_simp; with_reducible rfl
    · go_simp; rfl
    refine one_ (i := 12) (N := some 92) (bz_ 18 8191) rfl rfl (one_of HT_.out (by kernel_rfl)) (by decide) (fun K hK => ?_)
    refine value_ (w1 := ?_) (v := ?_) (by rfl) rfl ?_ ?_
    rotate_left 2
    · go_simp
      constructor
      · rfl
      · rfl
    have hS : (w5.alloc (.cells #[.int .i64 (-1), .slice A1 (outs.length + 1) c1] 59)).cell? ⟨bb, 4, none⟩ = some (.slice A4 ls.length c4) ∧ (w5.alloc (.cells #[.int .i64 (-1), .slice A1 (outs.length + 1) c1] 59)).cell? ⟨xb, 1, none⟩ = some (.slice B outs.length cB) := ⟨(blk_cell (blk_alloc g1.box _) 4).trans rfl, (blk_cell (blk_alloc g2 _) 1).trans rfl⟩
    refine hK.out _ _ (hS) (fun hHeld => ?_)
    clear hK K
    refine norm_ (a' := ?_) ?_ ?_
    rotate_left
    · show Act.put _ (some 92) _ = _
      simp only [Act.put, List.setIfInBounds_toArray, List.set_cons_zero, List.set_cons_succ, i64_w, i32_w]
      rfl
    refine one_ (i := 13) (N := some 93) (bz_ 18 16383) rfl rfl (one_of HT_.out (by kernel_rfl)) (by decide) (fun K hK => ?_)
    refine push4S g1 (-1) (outs ++ [(code.length : Int)]) _ gR Try.underlying24 info59 rfl rfl rfl rfl hls ?_
    intro A6 c6 w6 h6 hB6 hb6 hkeep
    have hxb6 := hkeep xb _ g2 g3
    have hS : (w6).cell? ⟨bb, 4, none⟩ = some (.slice A4 ls.length c4) ∧ (w6).cell? ⟨xb, 1, none⟩ = some (.slice B outs.length cB) := ⟨(blk_cell hb6 4).trans rfl, (blk_cell hxb6 1).trans rfl⟩
    have hf := blk_frozen hb6 4
    have hcc := hS.1
    refine hK.out _ _ (hS) (fun hHeld => ?_)
    clear hK K
    refine norm_ (a' := ?_) ?_ ?_
    rotate_left
    · show Act.put _ (some 93) _ = _
      simp only [Act.put, List.setIfInBounds_toArray, List.set_cons_zero, List.set_cons_succ, i64_w, i32_w]
      rfl
    apply pu_ 14 (some 94) (bz_ 18 32767) HT_ rfl rfl (by kernel_rfl) (fun _ _ _ h => h) (by rfl)
    · intro _; go_simp; with_reducible rfl
    · go_simp; rfl
    apply pu_ 15 (some 95) (bz_ 18 65535) HT_ rfl rfl (by kernel_rfl) (fun _ _ _ h => h) (by rfl)
    · intro _; go_simp; with_reducible rfl
    · go_simp; rfl
    apply pu_ 16 (some 96) (bz_ 18 131071) HT_ rfl rfl (by kernel_rfl) (fun _ _ _ h => h) (by rfl)
    · intro _; go_simp; with_reducible rfl
    · go_simp; rfl
    refine last_ (i := 17) (N := none) (bz_ 18 262143) rfl rfl (one_of HT_.out (by kernel_rfl)) (by decide) (fun K hK => ?_)
    go_simp
    refine hK.out _ _ ?_
    clear hK K
    refine done_ (done_of HT_.out (by kernel_rfl)) ?_
    clear HT_ hHeld
    go_wp2_with fail
    refine bodyPost_ret (v := .int .i64 0) (by simp [results, Try.results25, go_sem]) rfl ?_
    rw [← HR.out]
    exact ⟨(((((hB1.trans hB2).alloc hbw2 _).trans hB4).trans (Below.trans (below_drew (Below.refl _ _)) gB)).trans (hB6.setCell h.hbb _)), rfl, _, _, _, _, _, _, h6⟩
  · rw [if_neg hl]
    generalize hr : (Sum.inr _ : Dr ⊕ Int) = r
    have HR := Aside0.mk hr
    clear hr
    go_enter Try.func25, Try.ntmps25
    go_wp2_with fail
    refine (pop4_calls h).mono ?_
    rintro e w0 ⟨vx, rfl, v4', o', h0, hx0, hB0⟩
    obtain ⟨B, cB, rfl⟩ := Kd.R_slice hx0
    have hbw0 : base ≤ w0.heap.size := Nat.le_of_lt (Nat.lt_of_le_of_lt h0.hbb h0.lt)
    have hxz : (w0.alloc (.cells #[.int .i64 a, .slice B outs.length cB] 59)).cell? ⟨w0.heap.size, 0, none⟩ = some (.int .i64 a) := (blk_cell (blk_new w0 (.cells #[.int .i64 a, .slice B outs.length cB] 59)) 0).trans rfl
    go_wp2_with fail
    clear hxz
    have h1 := BX.of (at_ := a) h0 hx0 (below_alloc (Below.refl _ _) _) (blk_new w0 (.cells #[.int .i64 a, .slice B outs.length cB] 59))
    have hB1 := hB0.alloc hbw0 (.cells #[.int .i64 a, .slice B outs.length cB] 59)
    clear h0 hx0 hB0
    generalize w0.alloc (.cells #[.int .i64 a, .slice B outs.length cB] 59) = w1 at h1 hB1 ⊢
    generalize new_ w0 o' 6 = o1 at h1
    generalize w0.heap.size = xb at h1 hbw0 ⊢
    refine (lay_bd_long h1.bd 3 0 hl).mono ?_
    rintro e w2 ⟨rfl, rfl⟩
    have h2 := h1
    have HIN := Aside0.mk hx2
    have HLEN := Aside0.mk h256
    have hxc : w2.cell? ⟨xb, 0, none⟩ = some (.int .i64 a) := (blk_cell h2.xbox 0).trans rfl
    have hbw2 : base ≤ w2.heap.size := Nat.le_of_lt (Nat.lt_of_le_of_lt h2.bd.hbb h2.bd.lt)
    have hL := lit_R w2 0 (Nat.zero_le _) [a] (by simp)
    clear hx2
    go_wp2_with fail
    refine (aim_bx (h2.below (below_alloc (Below.refl _ _) (.cells #[.int .i64 a] 3))) hL (by intro y hy; simp at hy; subst hy; exact HIN.out) HLEN.out).mono ?_
    rintro e w4 ⟨rfl, h4, hB4⟩
    obtain ⟨A4, c4, rfl⟩ := Kd.S_slice h4.bd.hs
    have hS : w4.cell? ⟨bb, 4, none⟩ = some (.slice A4 ls.length c4) ∧ w4.cell? ⟨xb, 1, none⟩ = some (.slice B outs.length cB) := ⟨(blk_cell h4.bd.box 4).trans rfl, (blk_cell h4.xbox 1).trans rfl⟩
    clear hxc
    go_wp2_with fail
    refine start_ (n := 18) (S := fun w' => w'.cell? ⟨bb, 4, none⟩ = some (.slice A4 ls.length c4) ∧ w'.cell? ⟨xb, 1, none⟩ = some (.slice B outs.length cB)) (ds := [17]) (bz_ 18 0) (by kernel_rfl) rfl rfl (hS) (fun hHeld => ?_)
    refine with_tab (rfl : rtab .any (opsOf Try.f25 16) = rtab .any (opsOf Try.f25 16)) (fun HT_ => ?_)
    apply pu_ 0 (some 80) (bz_ 18 1) HT_ rfl rfl (by kernel_rfl) (fun _ _ _ h => h) (by rfl)
    · intro _; go_simp; with_reducible rfl
    · go_simp; rfl
    apply pu_ 1 (some 81) (bz_ 18 3) HT_ rfl rfl (by kernel_rfl) (fun _ _ _ h => h) (by rfl)
    · intro _; go_simp; with_reducible rfl
    · go_simp; rfl
    apply pu_ 2 (some 82) (bz_ 18 7) HT_ rfl rfl (by kernel_rfl) (fun _ _ _ h => h) (by rfl)
    · intro _; go_simp; with_reducible rfl
    · go_simp; rfl
    apply pu_ 3 (some 83) (bz_ 18 15) HT_ rfl rfl (by kernel_rfl) (fun _ _ _ h => h) (by rfl)
    · intro _; go_simp; with_reducible rfl
    · go_simp; rfl
    apply pu_ 4 (some 84) (bz_ 18 31) HT_ rfl rfl (by kernel_rfl) (fun _ _ _ h => h) (by rfl)
    · intro _; go_simp; with_reducible rfl
    · go_simp; rfl
    apply pu_ 6 (some 86) (bz_ 18 95) HT_ rfl rfl (by kernel_rfl) (fun _ _ _ h => h) (by rfl)
    · intro _; go_simp; with_reducible rfl
    · go_simp; rfl
    apply pu_ 8 (some 88) (bz_ 18 351) HT_ rfl rfl (by kernel_rfl) (fun _ _ _ h => h) (by rfl)
    · intro _; go_simp; with_reducible rfl
    · go_simp; rfl
    apply tk_ 5 (some 85) (bz_ 18 383) HT_ hHeld rfl rfl (by kernel_rfl) (fun _ _ _ h => h) (by rfl)
    · intro _ hS; go_split_ands; go_simp; with_reducible rfl
    · go_simp; rfl
    apply tk_ 7 (some 87) (bz_ 18 511) HT_ hHeld rfl rfl (by kernel_rfl) (fun _ _ _ h => h) (by rfl)
    · intro _ hS; go_split_ands; go_simp; with_reducible rfl
    · go_simp; rfl
    refine one_ (i := 9) (N := some 89) (bz_ 18 1023) rfl rfl (one_of HT_.out (by kernel_rfl)) (by decide) (fun K hK => ?_)
    refine value_ (w1 := ?_) (v := ?_) (by rfl) rfl ?_ ?_
    rotate_left 2
    · go_simp
      constructor
      · rfl
      · rfl
    have hS : ((w4.drew).alloc (.cells #[.int .i64 0] 3)).cell? ⟨bb, 4, none⟩ = some (.slice A4 ls.length c4) ∧ ((w4.drew).alloc (.cells #[.int .i64 0] 3)).cell? ⟨xb, 1, none⟩ = some (.slice B outs.length cB) := ⟨(blk_cell (blk_alloc (blk_drew h4.bd.box) _) 4).trans rfl, (blk_cell (blk_alloc (blk_drew h4.xbox) _) 1).trans rfl⟩
    refine hK.out _ _ (hS) (fun hHeld => ?_)
    clear hK K
    refine norm_ (a' := ?_) ?_ ?_
    rotate_left
    · show Act.put _ (some 89) _ = _
      simp only [Act.put, List.setIfInBounds_toArray, List.set_cons_zero, List.set_cons_succ, i64_w, i32_w]
      rfl
    refine one_ (i := 10) (N := some 90) (bz_ 18 2047) rfl rfl (one_of HT_.out (by kernel_rfl)) (by decide) (fun K hK => ?_)
    have h4d := h4.below (below_drew (Below.refl _ _))
    refine pushXS h4d 0 Try.underlying23 infoI rfl rfl rfl rfl ho ?_
    intro A1 c1 w5 g1 g2 g3 gR gB
    have hS : (w5).cell? ⟨bb, 4, none⟩ = some (.slice A4 ls.length c4) ∧ (w5).cell? ⟨xb, 1, none⟩ = some (.slice B outs.length cB) := ⟨(blk_cell g1.box 4).trans rfl, (blk_cell g2 1).trans rfl⟩
    refine hK.out _ _ (hS) (fun hHeld => ?_)
    clear hK K
    refine norm_ (a' := ?_) ?_ ?_
    rotate_left
    · show Act.put _ (some 90) _ = _
      simp only [Act.put, List.setIfInBounds_toArray, List.set_cons_zero, List.set_cons_succ, i64_w, i32_w]
      rfl
    apply pu_ 11 (some 91) (bz_ 18 4095) HT_ rfl rfl (by kernel_rfl) (fun _ _ _ h => h) (by rfl)
    · intro _; go_simp; with_reducible rfl
    · go_simp; rfl
    refine one_ (i := 12) (N := some 92) (bz_ 18 8191) rfl rfl (one_of HT_.out (by kernel_rfl)) (by decide) (fun K hK => ?_)
    refine value_ (w1 := ?_) (v := ?_) (by rfl) rfl ?_ ?_
    rotate_left 2
    · go_simp
      constructor
      · rfl
      · rfl
    have hS : (w5.alloc (.cells #[.int .i64 (-1), .slice A1 (outs.length + 1) c1] 59)).cell? ⟨bb, 4, none⟩ = some (.slice A4 ls.length c4) ∧ (w5.alloc (.cells #[.int .i64 (-1), .slice A1 (outs.length + 1) c1] 59)).cell? ⟨xb, 1, none⟩ = some (.slice B outs.length cB) := ⟨(blk_cell (blk_alloc g1.box _) 4).trans rfl, (blk_cell (blk_alloc g2 _) 1).trans rfl⟩
    refine hK.out _ _ (hS) (fun hHeld => ?_)
    clear hK K
    refine norm_ (a' := ?_) ?_ ?_
    rotate_left
    · show Act.put _ (some 92) _ = _
      simp only [Act.put, List.setIfInBounds_toArray, List.set_cons_zero, List.set_cons_succ, i64_w, i32_w]
      rfl
    refine one_ (i := 13) (N := some 93) (bz_ 18 16383) rfl rfl (one_of HT_.out (by kernel_rfl)) (by decide) (fun K hK => ?_)
    refine push4S g1 (-1) (outs ++ [0]) _ gR Try.underlying24 info59 rfl rfl rfl rfl hls ?_
    intro A6 c6 w6 h6 hB6 hb6 hkeep
    have hxb6 := hkeep xb _ g2 g3
    have hS : (w6).cell? ⟨bb, 4, none⟩ = some (.slice A4 ls.length c4) ∧ (w6).cell? ⟨xb, 1, none⟩ = some (.slice B outs.length cB) := ⟨(blk_cell hb6 4).trans rfl, (blk_cell hxb6 1).trans rfl⟩
    have hf := blk_frozen hb6 4
    have hcc := hS.1
    refine hK.out _ _ (hS) (fun hHeld => ?_)
    clear hK K
    refine norm_ (a' := ?_) ?_ ?_
    rotate_left
    · show Act.put _ (some 93) _ = _
      simp only [Act.put, List.setIfInBounds_toArray, List.set_cons_zero, List.set_cons_succ, i64_w, i32_w]
      rfl
    apply pu_ 14 (some 94) (bz_ 18 32767) HT_ rfl rfl (by kernel_rfl) (fun _ _ _ h => h) (by rfl)
    · intro _; go_simp; with_reducible rfl
    · go_simp; rfl
    apply pu_ 15 (some 95) (bz_ 18 65535) HT_ rfl rfl (by kernel_rfl) (fun _ _ _ h => h) (by rfl)
    · intro _; go_simp; with_reducible rfl
    · go_simp; rfl
    apply pu_ 16 (some 96) (bz_ 18 131071) HT_ rfl rfl (by kernel_rfl) (fun _ _ _ h => h) (by rfl)
    · intro _; go_simp; with_reducible rfl
    · go_simp; rfl
    refine last_ (i := 17) (N := none) (bz_ 18 262143) rfl rfl (one_of HT_.out (by kernel_rfl)) (by decide) (fun K hK => ?_)
    go_simp
    refine hK.out _ _ ?_
    clear hK K
    refine done_ (done_of HT_.out (by kernel_rfl)) ?_
    clear HT_ hHeld
    go_wp2_with fail
    refine bodyPost_ret (v := .int .i64 3) (by simp [results, Try.results25, go_sem]) rfl ?_
    rw [← HR.out]
    exact ⟨((((hB1.alloc hbw2 _).trans hB4).trans (Below.trans (below_drew (Below.refl _ _)) gB)).trans (hB6.setCell h.hbb _)), rfl⟩
end
end Go.Proofs.Ytmglkgjnhoojaaa.PCodeRows
