/- The builder's branch: begin. -/
import Derived.Test.YtmglkgjnhoojaaaBrA
namespace Go.Proofs.Ytmglkgjnhoojaaa.PCodeRows
open Go.RowKit Go.Proofs.YtmglkgjnhoojaaaW.PrintWords Go.Proofs.YtmglkgjnhoojaaaW.PrintLast Go.Proofs.YtmglkgjnhoojaaaW.PrintMore
set_option linter.unusedVariables false
set_option linter.unusedSimpArgs false
section
variable {w : World} {base bb : Nat} {v0 v1 v2 v3 v4 : Value} {o : Nat → Nat} {code : List S37} {origs dests xs : List Int} {loops cases : List S59}
theorem push2S (h : BD w base bb v0 v1 v2 v3 v4 o code origs dests loops cases) {P : Program} {ops : Array Oper} {Q : Exit → Act → World → Prop} {Kc : Act → World → Prop} {a : Act} {q : Oper} {s x : Operand} (n : Int) {A : Option Addr} {c : Nat} (hv : v2 = .slice A dests.length c)
    (ht : P.underlying 23 = some (.slice 3)) (hi : (P.info? 3).map (fun i => (i.zero, i.size, i.bytes)) = some (some (.int .i64 0), 1, 8)) (hw : Region.wanted q (yielded ops a.tmps) = true) (hq : q.op = .call { callee := .builtin .append, args := #[s, x], argTypes := #[23, 23] }) (hs : a.eval s = v2) (hx : a.eval x = .slice (some ⟨w.heap.size, 0, none⟩) 1 1) (hl : dests.length < 4398046511104)
    (k : ∀ A1 c1 w2, BD (w2.setCell ⟨bb, 2, none⟩ (.slice A1 (dests.length + 1) c1)) base bb v0 v1 (.slice A1 (dests.length + 1) c1) v3 v4 (new_ w o 2) code origs (dests ++ [n]) loops cases → Below base w w2 → w2.heap[bb]? = some (.cells #[v0, v1, v2, v3, v4] 53 (0, 0)) → Kc (a.put q.dst (.slice A1 (dests.length + 1) c1)) w2) :
    if Region.wanted q (yielded ops a.tmps) = true then Oper.wp P q a (w.alloc (.cells #[.int .i64 n] 3)) Kc Q else Kc (a.put q.dst undef) (w.alloc (.cells #[.int .i64 n] 3)) := by
  refine Kd.R_append_step (Kd.int .i64) (w0 := w) (W := w) base hw s x 23 3 (.int .i64 0) 8 hq ht hi rfl (by decide) (by decide) v2 dests n [.int .i64 n] (fun k => new_ w o 2 k = 2) (fun _ => False) hs hx rfl (fun _ h => h.elim) (fun k hk => new_new hk) (R_lt_mono h.hd (fun k hk hlt => new_old hk hlt)) (Below.refl _ _) (Nat.le_of_lt (Nat.lt_of_le_of_lt h.hbb h.lt)) (by omega) ?_
  intro v1' w2 hR2 hB2 hg hat
  have h2 := h.app2 hR2 hg
  have hb := blk_grown h.box hg (Kd.R_ne h.hd h.box (by decide))
  obtain ⟨A1, c1, rfl⟩ := Kd.R_slice hR2
  have hz : (dests ++ [n]).length = dests.length + 1 := by simp
  rw [hz] at h2 ⊢
  exact k A1 c1 w2 h2 hB2 hb
set_option maxHeartbeats 2000000 in
theorem begin_calls (h : BD w base bb v0 v1 v2 v3 v4 o code origs dests loops cases) (ho : dests.length < 4398046511104) :
    Calls Try.prog 23 #[.pointer (some ⟨bb, 0, none⟩), .int .i64 4] w (BPost base bb w (.inl ⟨code, origs, dests ++ [(code.length : Int)], loops, cases⟩)) := by
  obtain ⟨A0, c0, rfl⟩ := Kd.R_slice h.hc
  obtain ⟨A2, c2, rfl⟩ := Kd.R_slice h.hd
  go_enter Try.func23, Try.ntmps23
  have hS : w.cell? ⟨bb, 2, none⟩ = some (.slice A2 dests.length c2) ∧ w.cell? ⟨bb, 0, none⟩ = some (.slice A0 code.length c0) := ⟨(blk_cell h.box 2).trans rfl, (blk_cell h.box 0).trans rfl⟩
  go_wp2_with fail
  refine start_ (n := 18) (S := fun w' => w'.cell? ⟨bb, 2, none⟩ = some (.slice A2 dests.length c2) ∧ w'.cell? ⟨bb, 0, none⟩ = some (.slice A0 code.length c0)) (ds := [17]) #[false, false, false, false, false, false, false, false, false, false, false, false, false, false, false, false, false, false] (by kernel_rfl) rfl rfl (hS) (fun hHeld => ?_)
  refine with_tab (rfl : rtab .any (opsOf Try.f23 20) = rtab .any (opsOf Try.f23 20)) (fun HT_ => ?_)
  refine pure_ (i := 0) (N := some 88) (v := ?_) (a' := ?_) #[true, false, false, false, false, false, false, false, false, false, false, false, false, false, false, false, false, false] rfl rfl (any_of HT_.out (by kernel_rfl)) (fun _ _ _ h => h) (Or.inl ⟨by rfl, ?_⟩) ?_ ?_
  rotate_left
  · intro w'
    go_simp
    with_reducible rfl
  rotate_left
  · simp only [Act.put, List.setIfInBounds_toArray, List.set_cons_zero, List.set_cons_succ, i64_w, i32_w]
    rfl
  refine pure_ (i := 1) (N := some 89) (v := ?_) (a' := ?_) #[true, true, false, false, false, false, false, false, false, false, false, false, false, false, false, false, false, false] rfl rfl (any_of HT_.out (by kernel_rfl)) (fun _ _ _ h => h) (Or.inl ⟨by rfl, ?_⟩) ?_ ?_
  rotate_left
  · intro w'
    go_simp
    with_reducible rfl
  rotate_left
  · simp only [Act.put, List.setIfInBounds_toArray, List.set_cons_zero, List.set_cons_succ, i64_w, i32_w]
    rfl
  refine pure_ (i := 2) (N := some 90) (v := ?_) (a' := ?_) #[true, true, true, false, false, false, false, false, false, false, false, false, false, false, false, false, false, false] rfl rfl (any_of HT_.out (by kernel_rfl)) (fun _ _ _ h => h) (Or.inl ⟨by rfl, ?_⟩) ?_ ?_
  rotate_left
  · intro w'
    go_simp
    with_reducible rfl
  rotate_left
  · simp only [Act.put, List.setIfInBounds_toArray, List.set_cons_zero, List.set_cons_succ, i64_w, i32_w]
    rfl
  refine pure_ (i := 3) (N := some 91) (v := ?_) (a' := ?_) #[true, true, true, true, false, false, false, false, false, false, false, false, false, false, false, false, false, false] rfl rfl (any_of HT_.out (by kernel_rfl)) (fun _ _ _ h => h) (Or.inl ⟨by rfl, ?_⟩) ?_ ?_
  rotate_left
  · intro w'
    go_simp
    with_reducible rfl
  rotate_left
  · simp only [Act.put, List.setIfInBounds_toArray, List.set_cons_zero, List.set_cons_succ, i64_w, i32_w]
    rfl
  refine pure_ (i := 4) (N := some 92) (v := ?_) (a' := ?_) #[true, true, true, true, true, false, false, false, false, false, false, false, false, false, false, false, false, false] rfl rfl (any_of HT_.out (by kernel_rfl)) (fun _ _ _ h => h) (Or.inl ⟨by rfl, ?_⟩) ?_ ?_
  rotate_left
  · intro w'
    go_simp
    with_reducible rfl
  rotate_left
  · simp only [Act.put, List.setIfInBounds_toArray, List.set_cons_zero, List.set_cons_succ, i64_w, i32_w]
    rfl
  refine pure_ (i := 6) (N := some 94) (v := ?_) (a' := ?_) #[true, true, true, true, true, false, true, false, false, false, false, false, false, false, false, false, false, false] rfl rfl (any_of HT_.out (by kernel_rfl)) (fun _ _ _ h => h) (Or.inl ⟨by rfl, ?_⟩) ?_ ?_
  rotate_left
  · intro w'
    go_simp
    with_reducible rfl
  rotate_left
  · simp only [Act.put, List.setIfInBounds_toArray, List.set_cons_zero, List.set_cons_succ, i64_w, i32_w]
    rfl
  refine pure_ (i := 7) (N := some 95) (v := ?_) (a' := ?_) #[true, true, true, true, true, false, true, true, false, false, false, false, false, false, false, false, false, false] rfl rfl (any_of HT_.out (by kernel_rfl)) (fun _ _ _ h => h) (Or.inl ⟨by rfl, ?_⟩) ?_ ?_
  rotate_left
  · intro w'
    go_simp
    with_reducible rfl
  rotate_left
  · simp only [Act.put, List.setIfInBounds_toArray, List.set_cons_zero, List.set_cons_succ, i64_w, i32_w]
    rfl
  refine pure_ (i := 8) (N := some 96) (v := ?_) (a' := ?_) #[true, true, true, true, true, false, true, true, true, false, false, false, false, false, false, false, false, false] rfl rfl (any_of HT_.out (by kernel_rfl)) (fun _ _ _ h => h) (Or.inl ⟨by rfl, ?_⟩) ?_ ?_
  rotate_left
  · intro w'
    go_simp
    with_reducible rfl
  rotate_left
  · simp only [Act.put, List.setIfInBounds_toArray, List.set_cons_zero, List.set_cons_succ, i64_w, i32_w]
    rfl
  refine pure_ (i := 9) (N := some 97) (v := ?_) (a' := ?_) #[true, true, true, true, true, false, true, true, true, true, false, false, false, false, false, false, false, false] rfl rfl (any_of HT_.out (by kernel_rfl)) (fun _ _ _ h => h) (Or.inl ⟨by rfl, ?_⟩) ?_ ?_
  rotate_left
  · intro w'
    go_simp
    with_reducible rfl
  rotate_left
  · simp only [Act.put, List.setIfInBounds_toArray, List.set_cons_zero, List.set_cons_succ, i64_w, i32_w]
    rfl
  refine take_ (i := 5) (N := some 93) (v := ?_) (a' := ?_) #[true, true, true, true, true, true, true, true, true, true, false, false, false, false, false, false, false, false] rfl rfl (take_of HT_.out (by kernel_rfl)) (fun _ _ _ h => h) (Or.inl ⟨by rfl, ?_⟩) hHeld ?_ ?_
  rotate_left
  · rintro w' hS; go_split_ands
    go_simp
    with_reducible rfl
  rotate_left
  · simp only [Act.put, List.setIfInBounds_toArray, List.set_cons_zero, List.set_cons_succ, i64_w, i32_w]
    rfl
  refine take_ (i := 10) (N := some 98) (v := ?_) (a' := ?_) #[true, true, true, true, true, true, true, true, true, true, true, false, false, false, false, false, false, false] rfl rfl (take_of HT_.out (by kernel_rfl)) (fun _ _ _ h => h) (Or.inl ⟨by rfl, ?_⟩) hHeld ?_ ?_
  rotate_left
  · rintro w' hS; go_split_ands
    go_simp
    with_reducible rfl
  rotate_left
  · simp only [Act.put, List.setIfInBounds_toArray, List.set_cons_zero, List.set_cons_succ, i64_w, i32_w]
    rfl
  refine pure_ (i := 11) (N := some 99) (v := ?_) (a' := ?_) #[true, true, true, true, true, true, true, true, true, true, true, true, false, false, false, false, false, false] rfl rfl (any_of HT_.out (by kernel_rfl)) (fun _ _ _ h => h) (Or.inl ⟨by rfl, ?_⟩) ?_ ?_
  rotate_left
  · intro w'
    go_simp
    with_reducible rfl
  rotate_left
  · simp only [Act.put, List.setIfInBounds_toArray, List.set_cons_zero, List.set_cons_succ, i64_w, i32_w]
    rfl
  refine one_ (i := 12) (N := some 100) #[true, true, true, true, true, true, true, true, true, true, true, true, true, false, false, false, false, false] rfl rfl (one_of HT_.out (by kernel_rfl)) (by decide) (fun K hK => ?_)
  refine value_ (w1 := ?_) (v := ?_) (by rfl) rfl ?_ ?_
  rotate_left 2
  · go_simp
    constructor
    · rfl
    · rfl
  have hS : (w.drew.alloc (.cells #[.int .i64 code.length] 3)).cell? ⟨bb, 2, none⟩ = some (.slice A2 dests.length c2) ∧ (w.drew.alloc (.cells #[.int .i64 code.length] 3)).cell? ⟨bb, 0, none⟩ = some (.slice A0 code.length c0) := ⟨(blk_cell (blk_alloc (blk_drew h.box) _) 2).trans rfl, (blk_cell (blk_alloc (blk_drew h.box) _) 0).trans rfl⟩
  refine hK.out _ _ (hS) (fun hHeld => ?_)
  clear hK K
  refine norm_ (a' := ?_) ?_ ?_
  rotate_left
  · show Act.put _ (some 100) _ = _
    simp only [Act.put, List.setIfInBounds_toArray, List.set_cons_zero, List.set_cons_succ, i64_w, i32_w]
    rfl
  refine one_ (i := 13) (N := some 101) #[true, true, true, true, true, true, true, true, true, true, true, true, true, true, false, false, false, false] rfl rfl (one_of HT_.out (by kernel_rfl)) (by decide) (fun K hK => ?_)
  refine push2S (h.below (below_drew (Below.refl _ _))) (code.length : Int) rfl Try.underlying23 infoI rfl rfl rfl rfl ho ?_
  intro A1 c1 w2 h2 hB2 hb2
  have hS : w2.cell? ⟨bb, 2, none⟩ = some (.slice A2 dests.length c2) ∧ w2.cell? ⟨bb, 0, none⟩ = some (.slice A0 code.length c0) := ⟨(blk_cell hb2 2).trans rfl, (blk_cell hb2 0).trans rfl⟩
  have hf := blk_frozen hb2 2
  have hcc := hS.1
  refine hK.out _ _ (hS) (fun hHeld => ?_)
  clear hK K
  refine norm_ (a' := ?_) ?_ ?_
  rotate_left
  · show Act.put _ (some 101) _ = _
    simp only [Act.put, List.setIfInBounds_toArray, List.set_cons_zero, List.set_cons_succ, i64_w, i32_w]
    rfl
  refine pure_ (i := 14) (N := some 102) (v := ?_) (a' := ?_) #[true, true, true, true, true, true, true, true, true, true, true, true, true, true, true, false, false, false] rfl rfl (any_of HT_.out (by kernel_rfl)) (fun _ _ _ h => h) (Or.inl ⟨by rfl, ?_⟩) ?_ ?_
  rotate_left
  · intro w'
    go_simp
    with_reducible rfl
  rotate_left
  · simp only [Act.put, List.setIfInBounds_toArray, List.set_cons_zero, List.set_cons_succ, i64_w, i32_w]
    rfl
  refine pure_ (i := 15) (N := some 103) (v := ?_) (a' := ?_) #[true, true, true, true, true, true, true, true, true, true, true, true, true, true, true, true, false, false] rfl rfl (any_of HT_.out (by kernel_rfl)) (fun _ _ _ h => h) (Or.inl ⟨by rfl, ?_⟩) ?_ ?_
  rotate_left
  · intro w'
    go_simp
    with_reducible rfl
  rotate_left
  · simp only [Act.put, List.setIfInBounds_toArray, List.set_cons_zero, List.set_cons_succ, i64_w, i32_w]
    rfl
  refine pure_ (i := 16) (N := some 104) (v := ?_) (a' := ?_) #[true, true, true, true, true, true, true, true, true, true, true, true, true, true, true, true, true, false] rfl rfl (any_of HT_.out (by kernel_rfl)) (fun _ _ _ h => h) (Or.inl ⟨by rfl, ?_⟩) ?_ ?_
  rotate_left
  · intro w'
    go_simp
    with_reducible rfl
  rotate_left
  · simp only [Act.put, List.setIfInBounds_toArray, List.set_cons_zero, List.set_cons_succ, i64_w, i32_w]
    rfl
  refine last_ (i := 17) (N := none) #[true, true, true, true, true, true, true, true, true, true, true, true, true, true, true, true, true, true] rfl rfl (one_of HT_.out (by kernel_rfl)) (by decide) (fun K hK => ?_)
  go_simp
  refine hK.out _ _ ?_
  clear hK K
  refine done_ (done_of HT_.out (by kernel_rfl)) ?_
  clear HT_ hHeld
  go_wp2_with fail
  exact bodyPost_ret (v := .int .i64 0) (by simp [results, Try.results23, go_sem]) rfl ⟨(Below.trans (below_drew (Below.refl _ _)) hB2).setCell h.hbb _, rfl, _, _, _, _, _, _, h2⟩
end
end Go.Proofs.Ytmglkgjnhoojaaa.PCodeRows
