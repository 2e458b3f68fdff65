/- last[Open], taken off a list of the builder's. -/
import Derived.Test.YtmglkgjnhoojaaaClone
namespace Go.Proofs.Ytmglkgjnhoojaaa.PCodeRows
open Go.RowKit Go.Proofs.YtmglkgjnhoojaaaW.PrintWords Go.Proofs.YtmglkgjnhoojaaaW.PrintLast Go.Proofs.YtmglkgjnhoojaaaW.PrintMore
set_option linter.unusedVariables false
set_option linter.unusedSimpArgs false
set_option maxHeartbeats 2000000 in
theorem lastOpen_empty (bb i : Nat) (A : Option Addr) (c : Nat) (w : World) (cs : Array Value)
    (hB : w.heap[bb]? = some (.cells cs 53 (0, 0))) (hi : cs[i]? = some (.slice A 0 c)) :
    Calls Try.prog 41 #[.pointer (some ⟨bb, i, none⟩)] w fun e w' => e = .returned (.tuple #[.agg #[.int .i64 0, .slice none 0 0], .bool false]) ∧ Below w.heap.size w w' := by
  have hb0 : (w.alloc (.cells #[.int .i64 0, .slice none 0 0] 59)).cell? ⟨bb, i, none⟩ = some (.slice A 0 c) := (blk_cell (blk_alloc hB _) i).trans hi
  go_enter Try.func41, Try.ntmps41
  go_wp2_with fail
  exact bodyPost_ret (v := .tuple #[.agg #[.int .i64 0, .slice none 0 0], .bool false]) (by simp [results, Try.results41, go_sem]) rfl ⟨rfl, below_alloc (Below.refl _ _) _⟩
set_option maxHeartbeats 2000000 in
theorem lastOpen_calls (base bb i : Nat) (hbb : base ≤ bb) (ad : Addr) (n c : Nat) (at_ : Int) (B : Option Addr) (m cB : Nat) (w : World) (cs : Array Value)
    (hB : w.heap[bb]? = some (.cells cs 53 (0, 0))) (hi : cs[i]? = some (.slice (some ad) (n + 1) c)) (hc : n + 1 ≤ c) (hlen : n + 1 ≤ 9223372036854775807)
    (g0 : w.cell? (ad.add (n * 2)) = some (.int .i64 at_)) (g1 : w.cell? ⟨(ad.add (n * 2)).block, (ad.add (n * 2)).off + 1, none⟩ = some (.slice B m cB)) :
    Calls Try.prog 41 #[.pointer (some ⟨bb, i, none⟩)] w fun e w' => e = .returned (.tuple #[.agg #[.int .i64 at_, .slice B m cB], .bool true]) ∧ w'.heap[bb]? = some (.cells (cs.setIfInBounds i (.slice (some ad) n c)) 53 (0, 0)) ∧ Kept w w' (fun k => k = bb) ∧ Below base w w' := by
  have HB := Aside0.mk (blk_alloc hB (.cells #[.int .i64 0, .slice none 0 0] 59))
  have HZ := Aside0.mk (blk_new w (.cells #[.int .i64 0, .slice none 0 0] 59))
  have hb0 := (blk_cell HB.out i).trans hi
  have hz0 := blk_frozen HZ.out 0
  have hz1 := blk_frozen HZ.out 1
  have G0 := Aside0.mk (pw_cell_below (below_alloc (Below.refl w.heap.size w) (.cells #[.int .i64 0, .slice none 0 0] 59)) g0)
  have G1 := Aside0.mk (pw_cell_below (below_alloc (Below.refl w.heap.size w) (.cells #[.int .i64 0, .slice none 0 0] 59)) g1)
  have e0 : ((n : Int) + 1 == 0) = false := by simp; omega
  have e1 : (n : Int) + 1 - 1 = n := by omega
  have e2 : wrap64 (n : Int) = n := IntWalk.wrap64_in _ ⟨by omega, by omega⟩
  have p3 : (0 ≤ (n : Int) ∧ (n : Int) ≤ (c : Int)) = True := eq_true ⟨by omega, by omega⟩
  have p0 : (0 ≤ (n : Int)) = True := eq_true (by omega)
  have p1 : ((n : Int) < (n : Int) + 1) = True := eq_true (by omega)
  have p2 : ((n : Int) ≤ (c : Int)) = True := eq_true (by omega)
  go_enter Try.func41, Try.ntmps41
  go_wp2_with fail
  refine start_ (n := 11) (S := fun w' => w'.cell? ⟨bb, i, none⟩ = some (.slice (some ad) (n + 1) c) ∧ w'.cell? (ad.add (n * 2)) = some (.int .i64 at_) ∧ w'.cell? ⟨(ad.add (n * 2)).block, (ad.add (n * 2)).off + 1, none⟩ = some (.slice B m cB)) (ds := [10]) #[false, false, false, false, false, false, false, false, false, false, false] (by kernel_rfl) rfl rfl (⟨hb0, G0.out, G1.out⟩) (fun hHeld => ?_)
  refine with_tab (rfl : rtab .any (opsOf Try.f41 3) = rtab .any (opsOf Try.f41 3)) (fun HT_ => ?_)
  have HZ2 := Aside0.mk (blk_drew HZ.out)
  refine pure_ (i := 0) (N := some 10) (v := ?_) (a' := ?_) #[true, false, false, false, false, false, false, false, false, false, false] rfl rfl (any_of HT_.out (by kernel_rfl)) (fun _ _ _ h => h) (Or.inl ⟨by rfl, ?_⟩) ?_ ?_
  rotate_left
  · intro w'
    go_simp
    with_reducible rfl
  rotate_left
  · simp only [Act.put, List.setIfInBounds_toArray, List.set_cons_zero, List.set_cons_succ, i64_w, i32_w]
    rfl
  refine pure_ (i := 1) (N := some 11) (v := ?_) (a' := ?_) #[true, true, false, false, false, false, false, false, false, false, false] rfl rfl (any_of HT_.out (by kernel_rfl)) (fun _ _ _ h => h) (Or.inl ⟨by rfl, ?_⟩) ?_ ?_
  rotate_left
  · intro w'
    go_simp
    with_reducible rfl
  rotate_left
  · simp only [Act.put, List.setIfInBounds_toArray, List.set_cons_zero, List.set_cons_succ, i64_w, i32_w]
    rfl
  refine pure_ (i := 3) (N := some 13) (v := ?_) (a' := ?_) #[true, true, false, true, false, false, false, false, false, false, false] rfl rfl (any_of HT_.out (by kernel_rfl)) (fun _ _ _ h => h) (Or.inl ⟨by rfl, ?_⟩) ?_ ?_
  rotate_left
  · intro w'
    go_simp
    with_reducible rfl
  rotate_left
  · simp only [Act.put, List.setIfInBounds_toArray, List.set_cons_zero, List.set_cons_succ, i64_w, i32_w]
    rfl
  refine pure_ (i := 4) (N := some 14) (v := ?_) (a' := ?_) #[true, true, false, true, true, false, false, false, false, false, false] rfl rfl (any_of HT_.out (by kernel_rfl)) (fun _ _ _ h => h) (Or.inl ⟨by rfl, ?_⟩) ?_ ?_
  rotate_left
  · intro w'
    go_simp
    with_reducible rfl
  rotate_left
  · simp only [Act.put, List.setIfInBounds_toArray, List.set_cons_zero, List.set_cons_succ, i64_w, i32_w]
    rfl
  refine take_ (i := 2) (N := some 12) (v := ?_) (a' := ?_) #[true, true, true, true, true, false, false, false, false, false, false] rfl rfl (take_of HT_.out (by kernel_rfl)) (fun _ _ _ h => h) (Or.inl ⟨by rfl, ?_⟩) hHeld ?_ ?_
  rotate_left
  · rintro w' hS; go_split_ands
    go_simp
    with_reducible rfl
  rotate_left
  · simp only [Act.put, List.setIfInBounds_toArray, List.set_cons_zero, List.set_cons_succ, i64_w, i32_w]
    rfl
  refine take_ (i := 5) (N := some 15) (v := ?_) (a' := ?_) #[true, true, true, true, true, true, false, false, false, false, false] rfl rfl (take_of HT_.out (by kernel_rfl)) (fun _ _ _ h => h) (Or.inl ⟨by rfl, ?_⟩) hHeld ?_ ?_
  rotate_left
  · rintro w' hS; go_split_ands
    go_simp
    with_reducible rfl
  rotate_left
  · simp only [Act.put, List.setIfInBounds_toArray, List.set_cons_zero, List.set_cons_succ, i64_w, i32_w]
    rfl
  refine pure_ (i := 6) (N := some 16) (v := ?_) (a' := ?_) #[true, true, true, true, true, true, true, false, false, false, false] rfl rfl (any_of HT_.out (by kernel_rfl)) (fun _ _ _ h => h) (Or.inl ⟨by rfl, ?_⟩) ?_ ?_
  rotate_left
  · intro w'
    go_simp
    with_reducible rfl
  rotate_left
  · simp only [Act.put, List.setIfInBounds_toArray, List.set_cons_zero, List.set_cons_succ, i64_w, i32_w]
    rfl
  refine pure_ (i := 7) (N := some 17) (v := ?_) (a' := ?_) #[true, true, true, true, true, true, true, true, false, false, false] rfl rfl (any_of HT_.out (by kernel_rfl)) (fun _ _ _ h => h) (Or.inl ⟨by rfl, ?_⟩) ?_ ?_
  rotate_left
  · intro w'
    go_simp
    with_reducible rfl
  rotate_left
  · simp only [Act.put, List.setIfInBounds_toArray, List.set_cons_zero, List.set_cons_succ, i64_w, i32_w]
    rfl
  refine pure_ (i := 8) (N := some 18) (v := ?_) (a' := ?_) #[true, true, true, true, true, true, true, true, true, false, false] rfl rfl (any_of HT_.out (by kernel_rfl)) (fun _ _ _ h => h) (Or.inl ⟨by rfl, ?_⟩) ?_ ?_
  rotate_left
  · intro w'
    go_simp
    with_reducible rfl
  rotate_left
  · simp only [Act.put, List.setIfInBounds_toArray, List.set_cons_zero, List.set_cons_succ, i64_w, i32_w]
    rfl
  refine take_ (i := 9) (N := some 19) (v := ?_) (a' := ?_) #[true, true, true, true, true, true, true, true, true, true, false] rfl rfl (take_of HT_.out (by kernel_rfl)) (fun _ _ _ h => h) (Or.inl ⟨by rfl, ?_⟩) hHeld ?_ ?_
  rotate_left
  · rintro w' hS; go_split_ands
    go_simp
    with_reducible rfl
  rotate_left
  · simp only [Act.put, List.setIfInBounds_toArray, List.set_cons_zero, List.set_cons_succ, i64_w, i32_w]
    rfl
  refine last_ (i := 10) (N := none) #[true, true, true, true, true, true, true, true, true, true, true] rfl rfl (one_of HT_.out (by kernel_rfl)) (by decide) (fun K hK => ?_)
  go_simp
  refine hK.out _ _ ?_
  clear hK K
  refine done_ (done_of HT_.out (by kernel_rfl)) ?_
  clear HZ2 hHeld HT_ hz0 hz1 hb0 G0 G1 HB HZ
  have HB := Aside0.mk (blk_alloc hB (.cells #[.int .i64 at_, .slice B m cB] 59))
  have HZ := Aside0.mk (blk_new w (.cells #[.int .i64 at_, .slice B m cB] 59))
  have hb0 : (w.alloc (.cells #[.int .i64 at_, .slice B m cB] 59)).drew.cell? ⟨bb, i, none⟩ = some (.slice (some ad) (n + 1) c) := (blk_cell HB.out i).trans hi
  have hf : (w.alloc (.cells #[.int .i64 at_, .slice B m cB] 59)).drew.frozen? ⟨bb, i, none⟩ = false := blk_frozen HB.out i
  go_wp2_with fail
  refine start_ (n := 12) (S := fun w' => w'.cell? ⟨bb, i, none⟩ = some (.slice (some ad) (n + 1) c)) (ds := [11]) #[false, false, false, false, false, false, false, false, false, false, false, false] (by kernel_rfl) rfl rfl (hb0) (fun hHeld => ?_)
  refine with_tab (rfl : rtab .any (opsOf Try.f41 4) = rtab .any (opsOf Try.f41 4)) (fun HT_ => ?_)
  have hb2 : (w.alloc (.cells #[.int .i64 at_, .slice B m cB] 59)).drew.drew.cell? ⟨bb, i, none⟩ = some (.slice (some ad) (n + 1) c) := hb0
  have hf2 : (w.alloc (.cells #[.int .i64 at_, .slice B m cB] 59)).drew.drew.frozen? ⟨bb, i, none⟩ = false := hf
  refine pure_ (i := 0) (N := some 20) (v := ?_) (a' := ?_) #[true, false, false, false, false, false, false, false, false, false, false, false] rfl rfl (any_of HT_.out (by kernel_rfl)) (fun _ _ _ h => h) (Or.inl ⟨by rfl, ?_⟩) ?_ ?_
  rotate_left
  · intro w'
    go_simp
    with_reducible rfl
  rotate_left
  · simp only [Act.put, List.setIfInBounds_toArray, List.set_cons_zero, List.set_cons_succ, i64_w, i32_w]
    rfl
  refine pure_ (i := 1) (N := some 21) (v := ?_) (a' := ?_) #[true, true, false, false, false, false, false, false, false, false, false, false] rfl rfl (any_of HT_.out (by kernel_rfl)) (fun _ _ _ h => h) (Or.inl ⟨by rfl, ?_⟩) ?_ ?_
  rotate_left
  · intro w'
    go_simp
    with_reducible rfl
  rotate_left
  · simp only [Act.put, List.setIfInBounds_toArray, List.set_cons_zero, List.set_cons_succ, i64_w, i32_w]
    rfl
  refine pure_ (i := 2) (N := some 22) (v := ?_) (a' := ?_) #[true, true, true, false, false, false, false, false, false, false, false, false] rfl rfl (any_of HT_.out (by kernel_rfl)) (fun _ _ _ h => h) (Or.inl ⟨by rfl, ?_⟩) ?_ ?_
  rotate_left
  · intro w'
    go_simp
    with_reducible rfl
  rotate_left
  · simp only [Act.put, List.setIfInBounds_toArray, List.set_cons_zero, List.set_cons_succ, i64_w, i32_w]
    rfl
  refine pure_ (i := 4) (N := some 24) (v := ?_) (a' := ?_) #[true, true, true, false, true, false, false, false, false, false, false, false] rfl rfl (any_of HT_.out (by kernel_rfl)) (fun _ _ _ h => h) (Or.inl ⟨by rfl, ?_⟩) ?_ ?_
  rotate_left
  · intro w'
    go_simp
    with_reducible rfl
  rotate_left
  · simp only [Act.put, List.setIfInBounds_toArray, List.set_cons_zero, List.set_cons_succ, i64_w, i32_w]
    rfl
  refine pure_ (i := 5) (N := some 25) (v := ?_) (a' := ?_) #[true, true, true, false, true, true, false, false, false, false, false, false] rfl rfl (any_of HT_.out (by kernel_rfl)) (fun _ _ _ h => h) (Or.inl ⟨by rfl, ?_⟩) ?_ ?_
  rotate_left
  · intro w'
    go_simp
    with_reducible rfl
  rotate_left
  · simp only [Act.put, List.setIfInBounds_toArray, List.set_cons_zero, List.set_cons_succ, i64_w, i32_w]
    rfl
  refine take_ (i := 3) (N := some 23) (v := ?_) (a' := ?_) #[true, true, true, true, true, true, false, false, false, false, false, false] rfl rfl (take_of HT_.out (by kernel_rfl)) (fun _ _ _ h => h) (Or.inl ⟨by rfl, ?_⟩) hHeld ?_ ?_
  rotate_left
  · rintro w' hS; go_split_ands
    go_simp
    with_reducible rfl
  rotate_left
  · simp only [Act.put, List.setIfInBounds_toArray, List.set_cons_zero, List.set_cons_succ, i64_w, i32_w]
    rfl
  refine take_ (i := 6) (N := some 26) (v := ?_) (a' := ?_) #[true, true, true, true, true, true, true, false, false, false, false, false] rfl rfl (take_of HT_.out (by kernel_rfl)) (fun _ _ _ h => h) (Or.inl ⟨by rfl, ?_⟩) hHeld ?_ ?_
  rotate_left
  · rintro w' hS; go_split_ands
    go_simp
    with_reducible rfl
  rotate_left
  · simp only [Act.put, List.setIfInBounds_toArray, List.set_cons_zero, List.set_cons_succ, i64_w, i32_w]
    rfl
  refine pure_ (i := 7) (N := some 27) (v := ?_) (a' := ?_) #[true, true, true, true, true, true, true, true, false, false, false, false] rfl rfl (any_of HT_.out (by kernel_rfl)) (fun _ _ _ h => h) (Or.inl ⟨by rfl, ?_⟩) ?_ ?_
  rotate_left
  · intro w'
    go_simp
    with_reducible rfl
  rotate_left
  · simp only [Act.put, List.setIfInBounds_toArray, List.set_cons_zero, List.set_cons_succ, i64_w, i32_w]
    rfl
  refine pure_ (i := 8) (N := some 28) (v := ?_) (a' := ?_) #[true, true, true, true, true, true, true, true, true, false, false, false] rfl rfl (any_of HT_.out (by kernel_rfl)) (fun _ _ _ h => h) (Or.inl ⟨by rfl, ?_⟩) ?_ ?_
  rotate_left
  · intro w'
    go_simp
    with_reducible rfl
  rotate_left
  · simp only [Act.put, List.setIfInBounds_toArray, List.set_cons_zero, List.set_cons_succ, i64_w, i32_w]
    rfl
  refine pure_ (i := 9) (N := some 29) (v := ?_) (a' := ?_) #[true, true, true, true, true, true, true, true, true, true, false, false] rfl rfl (any_of HT_.out (by kernel_rfl)) (fun _ _ _ h => h) (Or.inl ⟨by rfl, ?_⟩) ?_ ?_
  rotate_left
  · intro w'
    go_simp
    with_reducible rfl
  rotate_left
  · simp only [Act.put, List.setIfInBounds_toArray, List.set_cons_zero, List.set_cons_succ, i64_w, i32_w]
    rfl
  refine pure_ (i := 10) (N := some 30) (v := ?_) (a' := ?_) #[true, true, true, true, true, true, true, true, true, true, true, false] rfl rfl (any_of HT_.out (by kernel_rfl)) (fun _ _ _ h => h) (Or.inl ⟨by rfl, ?_⟩) ?_ ?_
  rotate_left
  · intro w'
    go_simp
    with_reducible rfl
  rotate_left
  · simp only [Act.put, List.setIfInBounds_toArray, List.set_cons_zero, List.set_cons_succ, i64_w, i32_w]
    rfl
  refine last_ (i := 11) (N := none) #[true, true, true, true, true, true, true, true, true, true, true, true] rfl rfl (one_of HT_.out (by kernel_rfl)) (by decide) (fun K hK => ?_)
  go_simp
  refine hK.out _ _ ?_
  clear hK K
  refine done_ (done_of HT_.out (by kernel_rfl)) ?_
  have hlt := blk_lt hB
  have hz := blk_far HZ.out (p := ⟨bb, i, none⟩) (by show w.heap.size ≠ bb; omega) (.slice (some ad) n c)
  have hb := blk_set HB.out i (.slice (some ad) n c)
  generalize hW : ((w.alloc (Obj.cells #[.int .i64 at_, .slice B m cB] 59)).setCell ⟨bb, i, none⟩ (.slice (some ad) n c)).drew.drew = w9
  have hz9 : w9.heap[w.heap.size]? = some (.cells #[.int .i64 at_, .slice B m cB] 59 (0, 0)) := by rw [← hW]; exact hz
  have hb9 : w9.heap[bb]? = some (.cells (cs.setIfInBounds i (.slice (some ad) n c)) 53 (0, 0)) := by rw [← hW]; exact hb
  have hk9 : Kept w w9 (fun k => k = bb) := by
    rw [← hW]
    refine ⟨by simp, fun k hk hn => ?_⟩
    show ((w.alloc _).setCell _ _).heap[k]? = _
    rw [Below.heap_setCell _ _ _ k hn, Below.heap_alloc w _ k hk]
  have hbel9 : Below base w w9 := by
    rw [← hW]
    exact ((((Below.refl base w).alloc (by omega) _).setCell hbb _).drew).drew
  have z0 : w9.cell? ⟨w.heap.size, 0, none⟩ = some (.int .i64 at_) := (blk_cell hz9 0).trans rfl
  have z1 : w9.cell? ⟨w.heap.size, 1, none⟩ = some (.slice B m cB) := (blk_cell hz9 1).trans rfl
  have f0 := blk_frozen hz9 0
  have f1 := blk_frozen hz9 1
  clear hz hb hb0 hf hHeld HT_ hb2 hf2 HB HZ
  go_wp2_with fail
  refine bodyPost_ret (v := .tuple #[.agg #[.int .i64 at_, .slice B m cB], .bool true]) (by
    have y0 := (blk_cell (blk_set (blk_set hz9 0 (.int .i64 at_)) 1 (.slice B m cB)) 0).trans rfl
    have y1 := (blk_cell (blk_set (blk_set hz9 0 (.int .i64 at_)) 1 (.slice B m cB)) 1).trans rfl
    simp [results, Try.results41, go_sem, y0, y1]) rfl ⟨rfl, ?_, ?_, (hbel9.setCell (by show base ≤ w.heap.size; omega) _).setCell (by show base ≤ w.heap.size; omega) _⟩
  · exact blk_far (blk_far hb9 (p := ⟨w.heap.size, 0, none⟩) (by show bb ≠ w.heap.size; omega) _) (p := ⟨w.heap.size, 1, none⟩) (by show bb ≠ w.heap.size; omega) _
  · refine ⟨by have := hk9.1; simpa using this, fun k hk hn => ?_⟩
    rw [Below.heap_setCell _ _ _ k (by show k ≠ w.heap.size; omega), Below.heap_setCell _ _ _ k (by show k ≠ w.heap.size; omega)]
    exact hk9.2 k hk hn
end Go.Proofs.Ytmglkgjnhoojaaa.PCodeRows
