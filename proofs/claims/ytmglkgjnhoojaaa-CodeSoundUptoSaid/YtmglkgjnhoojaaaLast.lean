/- last, taken off a list of the builder's. -/
import Derived.Test.YtmglkgjnhoojaaaClone
import Derived.StillTailTactics
namespace Go.Proofs.Ytmglkgjnhoojaaa.PCodeRows
open Go.RowKit Go.Proofs.YtmglkgjnhoojaaaW.PrintWords Go.Proofs.YtmglkgjnhoojaaaW.PrintLast Go.Proofs.YtmglkgjnhoojaaaW.PrintMore
set_option linter.unusedVariables false
set_option linter.unusedSimpArgs false
set_option maxHeartbeats 2000000 in
theorem lastInt_calls (bb i : Nat) (A : Option Addr) (n c : Nat) (xs : List Int) (x : Int) (w : World) (cs : Array Value)
    (hB : w.heap[bb]? = some (.cells cs 53 (0, 0))) (hi : cs[i]? = some (.slice A (n + 1) c)) (hc : n + 1 ≤ c) (hC : Kd.C (Kd.int .i64) w A (n + 1) (xs ++ [x])) :
    Calls Try.prog 39 #[.pointer (some ⟨bb, i, none⟩)] w fun e w' => e = .returned (.tuple #[.int .i64 x, .bool true]) ∧ ∃ m, w' = (w.drewN m).setCell ⟨bb, i, none⟩ (.slice A n c) := by
  have hb0 : w.cell? ⟨bb, i, none⟩ = some (.slice A (n + 1) c) := (blk_cell hB i).trans hi
  have hf : w.frozen? ⟨bb, i, none⟩ = false := blk_frozen hB i
  have hlen := hC.2.1
  have hxs : xs.length = n := by have := hC.1; simpa using this
  obtain ⟨ad, e, g0⟩ := Kd.at_int hC (n : Int) (by omega) (by omega)
  cases e
  rw [Int.toNat_natCast] at g0
  have hx : rd (xs ++ [x]) (n : Int) = x := by simp [rd, List.getD_eq_getElem?_getD, ← hxs]
  rw [hx] at g0
  clear hC hx
  have e0 : ((n : Int) + 1 == 0) = false := by simp; omega
  have e1 : (n : Int) + 1 - 1 = n := by omega
  have e2 : wrap64 (n : Int) = n := IntWalk.wrap64_in _ ⟨by omega, by omega⟩
  have p3 : (0 ≤ (n : Int) ∧ (n : Int) ≤ (c : Int)) = True := eq_true ⟨by omega, by omega⟩
  have p0 : (0 ≤ (n : Int)) = True := eq_true (by omega)
  have p1 : ((n : Int) < (n : Int) + 1) = True := eq_true (by omega)
  have p2 : ((n : Int) ≤ (c : Int)) = True := eq_true (by omega)
  go_enter Try.func39, Try.ntmps39
  go_wp2_with fail
  go_quiet (fail)
  have hb1 : (w.drewN nq).cell? ⟨bb, i, none⟩ = some (.slice (some ad) (n + 1) c) := hb0
  have hf1 : (w.drewN nq).frozen? ⟨bb, i, none⟩ = false := hf
  go_wp2_with fail
  refine start_ (n := 12) (S := fun w' => w'.cell? ⟨bb, i, none⟩ = some (.slice (some ad) (n + 1) c) ∧ w'.cell? (ad.add n) = some (.int .i64 x)) (ds := [11]) #[false, false, false, false, false, false, false, false, false, false, false, false] (by kernel_rfl) rfl rfl (⟨hb0, g0⟩) (fun hHeld => ?_)
  refine with_tab (rfl : rtab .any (opsOf Try.f39 4) = rtab .any (opsOf Try.f39 4)) (fun HT_ => ?_)
  have hb2 : (w.drewN nq).drew.cell? ⟨bb, i, none⟩ = some (.slice (some ad) (n + 1) c) := hb0
  have hf2 : (w.drewN nq).drew.frozen? ⟨bb, i, none⟩ = false := hf
  generalize hW : (w.drewN nq).drew = w9 at hb2 hf2 hHeld ⊢
  refine pure_ (i := 0) (N := some 20) (v := ?_) (a' := ?_) #[true, false, false, false, false, false, false, false, false, false, false, false] rfl rfl (any_of HT_.out (by kernel_rfl)) (fun _ _ _ h => h) (Or.inl ⟨by rfl, ?_⟩) ?_ ?_
  rotate_left
  · intro w'
    go_simp
    with_reducible rfl
  rotate_left
  · simp only [Act.put, List.setIfInBounds_toArray, List.set_cons_zero, List.set_cons_succ, i64_w, i32_w]
    rfl
  refine pure_ (i := 1) (N := some 21) (v := ?_) (a' := ?_) #[true, true, false, false, false, false, false, false, false, false, false, false] rfl rfl (any_of HT_.out (by kernel_rfl)) (fun _ _ _ h => h) (Or.inl ⟨by rfl, ?_⟩) ?_ ?_
  rotate_left
  · intro w'
    go_simp
    with_reducible rfl
  rotate_left
  · simp only [Act.put, List.setIfInBounds_toArray, List.set_cons_zero, List.set_cons_succ, i64_w, i32_w]
    rfl
  refine pure_ (i := 2) (N := some 22) (v := ?_) (a' := ?_) #[true, true, true, false, false, false, false, false, false, false, false, false] rfl rfl (any_of HT_.out (by kernel_rfl)) (fun _ _ _ h => h) (Or.inl ⟨by rfl, ?_⟩) ?_ ?_
  rotate_left
  · intro w'
    go_simp
    with_reducible rfl
  rotate_left
  · simp only [Act.put, List.setIfInBounds_toArray, List.set_cons_zero, List.set_cons_succ, i64_w, i32_w]
    rfl
  refine pure_ (i := 4) (N := some 24) (v := ?_) (a' := ?_) #[true, true, true, false, true, false, false, false, false, false, false, false] rfl rfl (any_of HT_.out (by kernel_rfl)) (fun _ _ _ h => h) (Or.inl ⟨by rfl, ?_⟩) ?_ ?_
  rotate_left
  · intro w'
    go_simp
    with_reducible rfl
  rotate_left
  · simp only [Act.put, List.setIfInBounds_toArray, List.set_cons_zero, List.set_cons_succ, i64_w, i32_w]
    rfl
  refine pure_ (i := 5) (N := some 25) (v := ?_) (a' := ?_) #[true, true, true, false, true, true, false, false, false, false, false, false] rfl rfl (any_of HT_.out (by kernel_rfl)) (fun _ _ _ h => h) (Or.inl ⟨by rfl, ?_⟩) ?_ ?_
  rotate_left
  · intro w'
    go_simp
    with_reducible rfl
  rotate_left
  · simp only [Act.put, List.setIfInBounds_toArray, List.set_cons_zero, List.set_cons_succ, i64_w, i32_w]
    rfl
  refine take_ (i := 3) (N := some 23) (v := ?_) (a' := ?_) #[true, true, true, true, true, true, false, false, false, false, false, false] rfl rfl (take_of HT_.out (by kernel_rfl)) (fun _ _ _ h => h) (Or.inl ⟨by rfl, ?_⟩) hHeld ?_ ?_
  rotate_left
  · rintro w' hS; go_split_ands
    go_simp
    with_reducible rfl
  rotate_left
  · simp only [Act.put, List.setIfInBounds_toArray, List.set_cons_zero, List.set_cons_succ, i64_w, i32_w]
    rfl
  refine take_ (i := 6) (N := some 26) (v := ?_) (a' := ?_) #[true, true, true, true, true, true, true, false, false, false, false, false] rfl rfl (take_of HT_.out (by kernel_rfl)) (fun _ _ _ h => h) (Or.inl ⟨by rfl, ?_⟩) hHeld ?_ ?_
  rotate_left
  · rintro w' hS; go_split_ands
    go_simp
    with_reducible rfl
  rotate_left
  · simp only [Act.put, List.setIfInBounds_toArray, List.set_cons_zero, List.set_cons_succ, i64_w, i32_w]
    rfl
  refine pure_ (i := 7) (N := some 27) (v := ?_) (a' := ?_) #[true, true, true, true, true, true, true, true, false, false, false, false] rfl rfl (any_of HT_.out (by kernel_rfl)) (fun _ _ _ h => h) (Or.inl ⟨by rfl, ?_⟩) ?_ ?_
  rotate_left
  · intro w'
    go_simp
    with_reducible rfl
  rotate_left
  · simp only [Act.put, List.setIfInBounds_toArray, List.set_cons_zero, List.set_cons_succ, i64_w, i32_w]
    rfl
  refine pure_ (i := 8) (N := some 28) (v := ?_) (a' := ?_) #[true, true, true, true, true, true, true, true, true, false, false, false] rfl rfl (any_of HT_.out (by kernel_rfl)) (fun _ _ _ h => h) (Or.inl ⟨by rfl, ?_⟩) ?_ ?_
  rotate_left
  · intro w'
    go_simp
    with_reducible rfl
  rotate_left
  · simp only [Act.put, List.setIfInBounds_toArray, List.set_cons_zero, List.set_cons_succ, i64_w, i32_w]
    rfl
  refine pure_ (i := 9) (N := some 29) (v := ?_) (a' := ?_) #[true, true, true, true, true, true, true, true, true, true, false, false] rfl rfl (any_of HT_.out (by kernel_rfl)) (fun _ _ _ h => h) (Or.inl ⟨by rfl, ?_⟩) ?_ ?_
  rotate_left
  · intro w'
    go_simp
    with_reducible rfl
  rotate_left
  · simp only [Act.put, List.setIfInBounds_toArray, List.set_cons_zero, List.set_cons_succ, i64_w, i32_w]
    rfl
  refine pure_ (i := 10) (N := some 30) (v := ?_) (a' := ?_) #[true, true, true, true, true, true, true, true, true, true, true, false] rfl rfl (any_of HT_.out (by kernel_rfl)) (fun _ _ _ h => h) (Or.inl ⟨by rfl, ?_⟩) ?_ ?_
  rotate_left
  · intro w'
    go_simp
    with_reducible rfl
  rotate_left
  · simp only [Act.put, List.setIfInBounds_toArray, List.set_cons_zero, List.set_cons_succ, i64_w, i32_w]
    rfl
  refine last_ (i := 11) (N := none) #[true, true, true, true, true, true, true, true, true, true, true, true] rfl rfl (one_of HT_.out (by kernel_rfl)) (by decide) (fun K hK => ?_)
  go_simp
  refine hK.out _ _ ?_
  clear hK K
  refine done_ (done_of HT_.out (by kernel_rfl)) ?_
  go_wp2_with fail
  refine bodyPost_ret (v := .tuple #[.int .i64 x, .bool true]) (by simp [results, Try.results39, go_sem]) rfl ⟨rfl, nq + 1, ?_⟩
  rw [← hW]
  rfl
set_option maxHeartbeats 2000000 in
theorem lastInt_empty (bb i : Nat) (A : Option Addr) (c : Nat) (w : World) (cs : Array Value)
    (hB : w.heap[bb]? = some (.cells cs 53 (0, 0))) (hi : cs[i]? = some (.slice A 0 c)) :
    Calls Try.prog 39 #[.pointer (some ⟨bb, i, none⟩)] w fun e w' => e = .returned (.tuple #[.int .i64 0, .bool false]) ∧ w' = w := by
  have hb0 : w.cell? ⟨bb, i, none⟩ = some (.slice A 0 c) := (blk_cell hB i).trans hi
  go_enter Try.func39, Try.ntmps39
  go_wp2_with fail
  exact bodyPost_ret (v := .tuple #[.int .i64 0, .bool false]) (by simp [results, Try.results39, go_sem]) rfl ⟨rfl, rfl⟩
end Go.Proofs.Ytmglkgjnhoojaaa.PCodeRows
