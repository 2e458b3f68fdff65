/- The reference's Put (16) and Finish (18) walked. -/
import Derived.Test.YtmglkgjnhoojaaatkA
import Derived.Test.YtmglkgjnhoojaaatkR
import Derived.Test.YtmglkgjnhoojaaatkI
import Derived.Test.YtmglkgjnhoojaaatkD
namespace Go.Proofs.Ytmglkgjnhoojaaa.PCodeRows
open Go.RowKit Go.Proofs.YtmglkgjnhoojaaaW.PrintWords Go.Proofs.YtmglkgjnhoojaaaW.PrintLast Go.Proofs.YtmglkgjnhoojaaaW.PrintMore
set_option linter.unusedVariables false
set_option linter.unusedSimpArgs false
section
variable (A0 A1 A2 A3 A4 : Option Addr) (c0 c1 c2 c3 c4 : Nat) (code : List S37) (origs dests : List Int) (loops cases : List S59) (k n : Int) (w : World)

set_option maxHeartbeats 4000000 in
theorem rput_bad (h : DrC w A0 A1 A2 A3 A4 c0 c1 c2 c3 c4 code origs dests loops cases) (hf : formedP code origs dests loops cases = false) :
    Calls Try.prog 16 #[drV A0 A1 A2 A3 A4 c0 c1 c2 c3 c4 code.length origs.length dests.length loops.length cases.length, .agg #[.int .i64 k, .int .u32 n]] w (APost w (.inr 1)) := by
  have hsz : (w.alloc (.cells #[.slice A0 code.length c0, .slice A1 origs.length c1, .slice A2 dests.length c2, .slice A3 loops.length c3, .slice A4 cases.length c4] 26)).heap.size = w.heap.size + 1 := by simp
  have hsz2 : ((w.alloc (.cells #[.slice A0 code.length c0, .slice A1 origs.length c1, .slice A2 dests.length c2, .slice A3 loops.length c3, .slice A4 cases.length c4] 26)).alloc (.cells #[.int .i64 k, .int .u32 n] 37)).heap.size = w.heap.size + 1 + 1 := by simp
  have HD := Aside0.mk (blk_alloc (blk_alloc (blk_new w (.cells #[.slice A0 code.length c0, .slice A1 origs.length c1, .slice A2 dests.length c2, .slice A3 loops.length c3, .slice A4 cases.length c4] 26)) (.cells #[.int .i64 k, .int .u32 n] 37)) (.cells #[.slice none 0 0, .slice none 0 0, .slice none 0 0, .slice none 0 0, .slice none 0 0] 26))
  have HO0 := blk_alloc (blk_new (w.alloc (.cells #[.slice A0 code.length c0, .slice A1 origs.length c1, .slice A2 dests.length c2, .slice A3 loops.length c3, .slice A4 cases.length c4] 26)) (.cells #[.int .i64 k, .int .u32 n] 37)) (.cells #[.slice none 0 0, .slice none 0 0, .slice none 0 0, .slice none 0 0, .slice none 0 0] 26)
  have HR0 := blk_new ((w.alloc (.cells #[.slice A0 code.length c0, .slice A1 origs.length c1, .slice A2 dests.length c2, .slice A3 loops.length c3, .slice A4 cases.length c4] 26)).alloc (.cells #[.int .i64 k, .int .u32 n] 37)) (.cells #[.slice none 0 0, .slice none 0 0, .slice none 0 0, .slice none 0 0, .slice none 0 0] 26)
  rw [hsz] at HO0
  rw [hsz2] at HR0
  have HR := Aside0.mk HR0
  have HO := Aside0.mk HO0
  clear hsz hsz2 HR0 HO0
  have HB := Aside0.mk (below_alloc (below_alloc (below_alloc (Below.refl w.heap.size w) (.cells #[.slice A0 code.length c0, .slice A1 origs.length c1, .slice A2 dests.length c2, .slice A3 loops.length c3, .slice A4 cases.length c4] 26)) (.cells #[.int .i64 k, .int .u32 n] 37)) (.cells #[.slice none 0 0, .slice none 0 0, .slice none 0 0, .slice none 0 0, .slice none 0 0] 26))
  have H := Aside0.mk h
  have HF := Aside0.mk hf
  clear h hf
  obtain ⟨k0, k1, k2, k3, k4⟩ := cells5 HD.out
  go_enter Try.func16, Try.ntmps16
  go_wp2_with fail
  clear k0 k1 k2 k3 k4
  refine (rformed_calls A0 A1 A2 A3 A4 c0 c1 c2 c3 c4 code origs dests loops cases _ (H.out.below HB.out)).mono ?_
  rintro e w1 ⟨rfl, hb1⟩
  rw [HF.out]
  have HB1 := Aside0.mk (below_step HB.out hb1)
  have HD1 := Aside0.mk (blk_below HD.out hb1)
  have HR1 := Aside0.mk (blk_below HR.out hb1)
  have HO1 := Aside0.mk (blk_below HO.out hb1)
  clear hb1 HB HD HR HO
  have hrb : w.heap.size ≤ w.heap.size + 1 + 1 := Nat.le_succ_of_le (Nat.le_succ _)
  obtain ⟨f0, f1, f2, f3, f4⟩ := frozen5 HR1.out
  obtain ⟨r0, r1, r2, r3, r4⟩ := cells5 (show w1.heap[w.heap.size + 1 + 1]? = some (.cells #[.slice none 0 0, .slice none 0 0, .slice none 0 0, .slice none 0 0, .slice none 0 0] _ _) from HR1.out)
  have HG4 := Aside0.mk (blk_put5 HR1.out (.slice none 0 0) (.slice none 0 0) (.slice none 0 0) (.slice none 0 0) (.slice none 0 0))
  have HBz := Aside0.mk (below_put5 HB1.out hrb (.slice none 0 0) (.slice none 0 0) (.slice none 0 0) (.slice none 0 0) (.slice none 0 0))
  clear hrb
  go_wp2_with fail
  obtain ⟨y0, y1, y2, y3, y4⟩ := cells5 HG4.out
  exact bodyPost_ret (v := .tuple #[zdraft, .int .i64 1]) (by simp [results, Try.results16, go_sem, y0, y1, y2, y3, y4]) rfl ⟨HBz.out, rfl⟩
set_option maxHeartbeats 4000000 in
theorem rput_kind (h : DrC w A0 A1 A2 A3 A4 c0 c1 c2 c3 c4 code origs dests loops cases) (hf : formedP code origs dests loops cases = true) (hk : k ∉ ([1, 2, 12, 13] : List Int)) :
    Calls Try.prog 16 #[drV A0 A1 A2 A3 A4 c0 c1 c2 c3 c4 code.length origs.length dests.length loops.length cases.length, .agg #[.int .i64 k, .int .u32 n]] w (APost w (.inr 1)) := by
  have q1 : k ≠ 1 := fun e => hk (by simp [e])
  have q2 : k ≠ 2 := fun e => hk (by simp [e])
  have q12 : k ≠ 12 := fun e => hk (by simp [e])
  have q13 : k ≠ 13 := fun e => hk (by simp [e])
  have q1a : (k == 1) = false := by simpa using q1
  have q1b : (k != 1) = true := by simpa using q1
  have q2a : (k == 2) = false := by simpa using q2
  have q2b : (k != 2) = true := by simpa using q2
  have q12a : (k == 12) = false := by simpa using q12
  have q12b : (k != 12) = true := by simpa using q12
  have q13a : (k == 13) = false := by simpa using q13
  have q13b : (k != 13) = true := by simpa using q13
  clear hk q1 q2 q12 q13
  have hsz : (w.alloc (.cells #[.slice A0 code.length c0, .slice A1 origs.length c1, .slice A2 dests.length c2, .slice A3 loops.length c3, .slice A4 cases.length c4] 26)).heap.size = w.heap.size + 1 := by simp
  have hsz2 : ((w.alloc (.cells #[.slice A0 code.length c0, .slice A1 origs.length c1, .slice A2 dests.length c2, .slice A3 loops.length c3, .slice A4 cases.length c4] 26)).alloc (.cells #[.int .i64 k, .int .u32 n] 37)).heap.size = w.heap.size + 1 + 1 := by simp
  have HD := Aside0.mk (blk_alloc (blk_alloc (blk_new w (.cells #[.slice A0 code.length c0, .slice A1 origs.length c1, .slice A2 dests.length c2, .slice A3 loops.length c3, .slice A4 cases.length c4] 26)) (.cells #[.int .i64 k, .int .u32 n] 37)) (.cells #[.slice none 0 0, .slice none 0 0, .slice none 0 0, .slice none 0 0, .slice none 0 0] 26))
  have HO0 := blk_alloc (blk_new (w.alloc (.cells #[.slice A0 code.length c0, .slice A1 origs.length c1, .slice A2 dests.length c2, .slice A3 loops.length c3, .slice A4 cases.length c4] 26)) (.cells #[.int .i64 k, .int .u32 n] 37)) (.cells #[.slice none 0 0, .slice none 0 0, .slice none 0 0, .slice none 0 0, .slice none 0 0] 26)
  have HR0 := blk_new ((w.alloc (.cells #[.slice A0 code.length c0, .slice A1 origs.length c1, .slice A2 dests.length c2, .slice A3 loops.length c3, .slice A4 cases.length c4] 26)).alloc (.cells #[.int .i64 k, .int .u32 n] 37)) (.cells #[.slice none 0 0, .slice none 0 0, .slice none 0 0, .slice none 0 0, .slice none 0 0] 26)
  rw [hsz] at HO0
  rw [hsz2] at HR0
  have HR := Aside0.mk HR0
  have HO := Aside0.mk HO0
  clear hsz hsz2 HR0 HO0
  have HB := Aside0.mk (below_alloc (below_alloc (below_alloc (Below.refl w.heap.size w) (.cells #[.slice A0 code.length c0, .slice A1 origs.length c1, .slice A2 dests.length c2, .slice A3 loops.length c3, .slice A4 cases.length c4] 26)) (.cells #[.int .i64 k, .int .u32 n] 37)) (.cells #[.slice none 0 0, .slice none 0 0, .slice none 0 0, .slice none 0 0, .slice none 0 0] 26))
  have H := Aside0.mk h
  have HF := Aside0.mk hf
  clear h hf
  obtain ⟨k0, k1, k2, k3, k4⟩ := cells5 HD.out
  go_enter Try.func16, Try.ntmps16
  go_wp2_with fail
  clear k0 k1 k2 k3 k4
  refine (rformed_calls A0 A1 A2 A3 A4 c0 c1 c2 c3 c4 code origs dests loops cases _ (H.out.below HB.out)).mono ?_
  rintro e w1 ⟨rfl, hb1⟩
  rw [HF.out]
  have HB1 := Aside0.mk (below_step HB.out hb1)
  have HD1 := Aside0.mk (blk_below HD.out hb1)
  have HR1 := Aside0.mk (blk_below HR.out hb1)
  have HO1 := Aside0.mk (blk_below HO.out hb1)
  clear hb1 HB HD HR HO
  have o0 : w1.cell? ⟨w.heap.size + 1, 0, none⟩ = some (.int .i64 k) := (blk_cell HO1.out 0).trans rfl
  have o1 : w1.cell? ⟨w.heap.size + 1, 1, none⟩ = some (.int .u32 n) := (blk_cell HO1.out 1).trans rfl
  have hrb : w.heap.size ≤ w.heap.size + 1 + 1 := Nat.le_succ_of_le (Nat.le_succ _)
  obtain ⟨f0, f1, f2, f3, f4⟩ := frozen5 HR1.out
  obtain ⟨r0, r1, r2, r3, r4⟩ := cells5 (show w1.heap[w.heap.size + 1 + 1]? = some (.cells #[.slice none 0 0, .slice none 0 0, .slice none 0 0, .slice none 0 0, .slice none 0 0] _ _) from HR1.out)
  have HG4 := Aside0.mk (blk_put5 HR1.out (.slice none 0 0) (.slice none 0 0) (.slice none 0 0) (.slice none 0 0) (.slice none 0 0))
  have HBz := Aside0.mk (below_put5 HB1.out hrb (.slice none 0 0) (.slice none 0 0) (.slice none 0 0) (.slice none 0 0) (.slice none 0 0))
  clear hrb
  go_wp2_with fail
  obtain ⟨y0, y1, y2, y3, y4⟩ := cells5 HG4.out
  exact bodyPost_ret (v := .tuple #[zdraft, .int .i64 1]) (by simp [results, Try.results16, go_sem, y0, y1, y2, y3, y4]) rfl ⟨HBz.out, rfl⟩
theorem kind_ways {k : Int} (h : k ∈ ([1, 2, 12, 13] : List Int)) : (k == 1) = true ∧ (k != 1) = false ∨ ((k == 1) = false ∧ (k != 1) = true) ∧ ((k == 2) = true ∧ (k != 2) = false ∨ ((k == 2) = false ∧ (k != 2) = true) ∧ ((k == 12) = true ∧ (k != 12) = false ∨ ((k == 12) = false ∧ (k != 12) = true) ∧ (k == 13) = true ∧ (k != 13) = false)) := by
  simp only [List.mem_cons, List.not_mem_nil, or_false] at h
  rcases h with rfl | rfl | rfl | rfl <;> simp
set_option maxHeartbeats 4000000 in
theorem rput_long (h : DrC w A0 A1 A2 A3 A4 c0 c1 c2 c3 c4 code origs dests loops cases) (hf : formedP code origs dests loops cases = true) (hk : k ∈ ([1, 2, 12, 13] : List Int)) (hl : ¬ code.length < 256) :
    Calls Try.prog 16 #[drV A0 A1 A2 A3 A4 c0 c1 c2 c3 c4 code.length origs.length dests.length loops.length cases.length, .agg #[.int .i64 k, .int .u32 n]] w (APost w (.inr 3)) := by
  have ql : decide ((256 : Int) ≤ (code.length : Int)) = true := decide_eq_true (by omega)
  clear hl
  rcases kind_ways hk with ⟨q1, q2⟩ | ⟨⟨q1, q2⟩, ⟨q3, q4⟩ | ⟨⟨q3, q4⟩, ⟨q5, q6⟩ | ⟨⟨q5, q6⟩, q7, q8⟩⟩⟩
  all_goals
    clear hk
    have hsz : (w.alloc (.cells #[.slice A0 code.length c0, .slice A1 origs.length c1, .slice A2 dests.length c2, .slice A3 loops.length c3, .slice A4 cases.length c4] 26)).heap.size = w.heap.size + 1 := by simp
    have hsz2 : ((w.alloc (.cells #[.slice A0 code.length c0, .slice A1 origs.length c1, .slice A2 dests.length c2, .slice A3 loops.length c3, .slice A4 cases.length c4] 26)).alloc (.cells #[.int .i64 k, .int .u32 n] 37)).heap.size = w.heap.size + 1 + 1 := by simp
    have HD := Aside0.mk (blk_alloc (blk_alloc (blk_new w (.cells #[.slice A0 code.length c0, .slice A1 origs.length c1, .slice A2 dests.length c2, .slice A3 loops.length c3, .slice A4 cases.length c4] 26)) (.cells #[.int .i64 k, .int .u32 n] 37)) (.cells #[.slice none 0 0, .slice none 0 0, .slice none 0 0, .slice none 0 0, .slice none 0 0] 26))
    have HO0 := blk_alloc (blk_new (w.alloc (.cells #[.slice A0 code.length c0, .slice A1 origs.length c1, .slice A2 dests.length c2, .slice A3 loops.length c3, .slice A4 cases.length c4] 26)) (.cells #[.int .i64 k, .int .u32 n] 37)) (.cells #[.slice none 0 0, .slice none 0 0, .slice none 0 0, .slice none 0 0, .slice none 0 0] 26)
    have HR0 := blk_new ((w.alloc (.cells #[.slice A0 code.length c0, .slice A1 origs.length c1, .slice A2 dests.length c2, .slice A3 loops.length c3, .slice A4 cases.length c4] 26)).alloc (.cells #[.int .i64 k, .int .u32 n] 37)) (.cells #[.slice none 0 0, .slice none 0 0, .slice none 0 0, .slice none 0 0, .slice none 0 0] 26)
    rw [hsz] at HO0
    rw [hsz2] at HR0
    have HR := Aside0.mk HR0
    have HO := Aside0.mk HO0
    clear hsz hsz2 HR0 HO0
    have HB := Aside0.mk (below_alloc (below_alloc (below_alloc (Below.refl w.heap.size w) (.cells #[.slice A0 code.length c0, .slice A1 origs.length c1, .slice A2 dests.length c2, .slice A3 loops.length c3, .slice A4 cases.length c4] 26)) (.cells #[.int .i64 k, .int .u32 n] 37)) (.cells #[.slice none 0 0, .slice none 0 0, .slice none 0 0, .slice none 0 0, .slice none 0 0] 26))
    have H := Aside0.mk h
    have HF := Aside0.mk hf
    clear h hf
    obtain ⟨k0, k1, k2, k3, k4⟩ := cells5 HD.out
    go_enter Try.func16, Try.ntmps16
    go_wp2_with fail
    clear k0 k1 k2 k3 k4
    refine (rformed_calls A0 A1 A2 A3 A4 c0 c1 c2 c3 c4 code origs dests loops cases _ (H.out.below HB.out)).mono ?_
    rintro e w1 ⟨rfl, hb1⟩
    rw [HF.out]
    have HB1 := Aside0.mk (below_step HB.out hb1)
    have HD1 := Aside0.mk (blk_below HD.out hb1)
    have HR1 := Aside0.mk (blk_below HR.out hb1)
    have HO1 := Aside0.mk (blk_below HO.out hb1)
    clear hb1 HB HD HR HO
    have o0 : w1.cell? ⟨w.heap.size + 1, 0, none⟩ = some (.int .i64 k) := (blk_cell HO1.out 0).trans rfl
    have o1 : w1.cell? ⟨w.heap.size + 1, 1, none⟩ = some (.int .u32 n) := (blk_cell HO1.out 1).trans rfl
    have d0 := (blk_cell HD1.out 0).trans rfl
    have hrb : w.heap.size ≤ w.heap.size + 1 + 1 := Nat.le_succ_of_le (Nat.le_succ _)
    obtain ⟨f0, f1, f2, f3, f4⟩ := frozen5 HR1.out
    obtain ⟨r0, r1, r2, r3, r4⟩ := cells5 (show w1.heap[w.heap.size + 1 + 1]? = some (.cells #[.slice none 0 0, .slice none 0 0, .slice none 0 0, .slice none 0 0, .slice none 0 0] _ _) from HR1.out)
    have HG4 := Aside0.mk (blk_put5 HR1.out (.slice none 0 0) (.slice none 0 0) (.slice none 0 0) (.slice none 0 0) (.slice none 0 0))
    have HBz := Aside0.mk (below_put5 HB1.out hrb (.slice none 0 0) (.slice none 0 0) (.slice none 0 0) (.slice none 0 0) (.slice none 0 0))
    clear hrb
    go_wp2_with fail
    obtain ⟨y0, y1, y2, y3, y4⟩ := cells5 HG4.out
    exact bodyPost_ret (v := .tuple #[zdraft, .int .i64 3]) (by simp [results, Try.results16, go_sem, y0, y1, y2, y3, y4]) rfl ⟨HBz.out, rfl⟩
set_option maxHeartbeats 4000000 in
theorem rput_ok (h : DrC w A0 A1 A2 A3 A4 c0 c1 c2 c3 c4 code origs dests loops cases) (hf : formedP code origs dests loops cases = true) (hk : k ∈ ([1, 2, 12, 13] : List Int)) (hs : Small code origs dests loops cases) (hm : Room ⟨code, origs, dests, loops, cases⟩) (hl : code.length < 256) :
    Calls Try.prog 16 #[drV A0 A1 A2 A3 A4 c0 c1 c2 c3 c4 code.length origs.length dests.length loops.length cases.length, .agg #[.int .i64 k, .int .u32 n]] w (APost w (.inl ⟨code ++ [⟨k, n⟩], origs, dests, loops, cases⟩)) := by
  have HS := Aside0.mk hs
  have HM := Aside0.mk hm
  have ql : decide ((256 : Int) ≤ (code.length : Int)) = false := decide_eq_false (by omega)
  clear hs hm
  rcases kind_ways hk with ⟨q1, q2⟩ | ⟨⟨q1, q2⟩, ⟨q3, q4⟩ | ⟨⟨q3, q4⟩, ⟨q5, q6⟩ | ⟨⟨q5, q6⟩, q7, q8⟩⟩⟩
  all_goals
    clear hk
    have hsz : (w.alloc (.cells #[.slice A0 code.length c0, .slice A1 origs.length c1, .slice A2 dests.length c2, .slice A3 loops.length c3, .slice A4 cases.length c4] 26)).heap.size = w.heap.size + 1 := by simp
    have hsz2 : ((w.alloc (.cells #[.slice A0 code.length c0, .slice A1 origs.length c1, .slice A2 dests.length c2, .slice A3 loops.length c3, .slice A4 cases.length c4] 26)).alloc (.cells #[.int .i64 k, .int .u32 n] 37)).heap.size = w.heap.size + 1 + 1 := by simp
    have HD := Aside0.mk (blk_alloc (blk_alloc (blk_new w (.cells #[.slice A0 code.length c0, .slice A1 origs.length c1, .slice A2 dests.length c2, .slice A3 loops.length c3, .slice A4 cases.length c4] 26)) (.cells #[.int .i64 k, .int .u32 n] 37)) (.cells #[.slice none 0 0, .slice none 0 0, .slice none 0 0, .slice none 0 0, .slice none 0 0] 26))
    have HO0 := blk_alloc (blk_new (w.alloc (.cells #[.slice A0 code.length c0, .slice A1 origs.length c1, .slice A2 dests.length c2, .slice A3 loops.length c3, .slice A4 cases.length c4] 26)) (.cells #[.int .i64 k, .int .u32 n] 37)) (.cells #[.slice none 0 0, .slice none 0 0, .slice none 0 0, .slice none 0 0, .slice none 0 0] 26)
    have HR0 := blk_new ((w.alloc (.cells #[.slice A0 code.length c0, .slice A1 origs.length c1, .slice A2 dests.length c2, .slice A3 loops.length c3, .slice A4 cases.length c4] 26)).alloc (.cells #[.int .i64 k, .int .u32 n] 37)) (.cells #[.slice none 0 0, .slice none 0 0, .slice none 0 0, .slice none 0 0, .slice none 0 0] 26)
    rw [hsz] at HO0
    rw [hsz2] at HR0
    have HR := Aside0.mk HR0
    have HO := Aside0.mk HO0
    clear hsz hsz2 HR0 HO0
    have HB := Aside0.mk (below_alloc (below_alloc (below_alloc (Below.refl w.heap.size w) (.cells #[.slice A0 code.length c0, .slice A1 origs.length c1, .slice A2 dests.length c2, .slice A3 loops.length c3, .slice A4 cases.length c4] 26)) (.cells #[.int .i64 k, .int .u32 n] 37)) (.cells #[.slice none 0 0, .slice none 0 0, .slice none 0 0, .slice none 0 0, .slice none 0 0] 26))
    have H := Aside0.mk h
    have HF := Aside0.mk hf
    clear h hf
    obtain ⟨k0, k1, k2, k3, k4⟩ := cells5 HD.out
    go_enter Try.func16, Try.ntmps16
    go_wp2_with fail
    clear k0 k1 k2 k3 k4
    refine (rformed_calls A0 A1 A2 A3 A4 c0 c1 c2 c3 c4 code origs dests loops cases _ (H.out.below HB.out)).mono ?_
    rintro e w1 ⟨rfl, hb1⟩
    rw [HF.out]
    have HB1 := Aside0.mk (below_step HB.out hb1)
    have HD1 := Aside0.mk (blk_below HD.out hb1)
    have HR1 := Aside0.mk (blk_below HR.out hb1)
    have HO1 := Aside0.mk (blk_below HO.out hb1)
    clear hb1 HB HD HR HO
    have o0 : w1.cell? ⟨w.heap.size + 1, 0, none⟩ = some (.int .i64 k) := (blk_cell HO1.out 0).trans rfl
    have o1 : w1.cell? ⟨w.heap.size + 1, 1, none⟩ = some (.int .u32 n) := (blk_cell HO1.out 1).trans rfl
    obtain ⟨k0, k1, k2, k3, k4⟩ := cells5 HD1.out
    go_wp2_with fail
    clear k0 k1 k2 k3 k4 o0 o1
    refine (copy_calls A0 A1 A2 A3 A4 c0 c1 c2 c3 c4 code origs dests loops cases w1 (H.out.below HB1.out) HS.out HM.out).mono ?_
    rintro e w2 ⟨B0, B1, B2, B3, B4, b0, b1, b2, b3, b4, oo, rfl, h5, hb2⟩
    have hal := below_alloc (Below.refl _ w2) (.cells #[.slice B0 code.length b0, .slice B1 origs.length b1, .slice B2 dests.length b2, .slice B3 loops.length b3, .slice B4 cases.length b4] 26)
    have HB2 := Aside0.mk (below_step (below_step HB1.out hb2) hal)
    have HC2 := Aside0.mk (below_step hb2 hal)
    have HX2 := Aside0.mk (blk_new w2 (.cells #[.slice B0 code.length b0, .slice B1 origs.length b1, .slice B2 dests.length b2, .slice B3 loops.length b3, .slice B4 cases.length b4] 26))
    have H5 := Aside0.mk (h5.below hal)
    have HO2 := Aside0.mk (blk_below (blk_below HO1.out hb2) hal)
    have HR2 := Aside0.mk (blk_below (blk_below HR1.out hb2) hal)
    have hg2 : w1.heap.size ≤ w2.heap.size := hb2.size
    have hsz2 : w1.heap.size ≤ (w2.alloc (.cells #[.slice B0 code.length b0, .slice B1 origs.length b1, .slice B2 dests.length b2, .slice B3 loops.length b3, .slice B4 cases.length b4] 26)).heap.size := Nat.le_trans hg2 hal.size
    have HLT := Aside0.mk (blk_lt HR1.out)
    have hw1 : w.heap.size ≤ w1.heap.size := HB1.out.size
    clear hb2 h5 hal HO1 HR1 HD1
    have x0 : (w2.alloc (.cells #[.slice B0 code.length b0, .slice B1 origs.length b1, .slice B2 dests.length b2, .slice B3 loops.length b3, .slice B4 cases.length b4] 26)).cell? ⟨w2.heap.size, 0, none⟩ = some (.slice B0 code.length b0) := (blk_cell HX2.out 0).trans rfl
    have o0 : (w2.alloc (.cells #[.slice B0 code.length b0, .slice B1 origs.length b1, .slice B2 dests.length b2, .slice B3 loops.length b3, .slice B4 cases.length b4] 26)).cell? ⟨w.heap.size + 1, 0, none⟩ = some (.int .i64 k) := (blk_cell HO2.out 0).trans rfl
    have o1 : (w2.alloc (.cells #[.slice B0 code.length b0, .slice B1 origs.length b1, .slice B2 dests.length b2, .slice B3 loops.length b3, .slice B4 cases.length b4] 26)).cell? ⟨w.heap.size + 1, 1, none⟩ = some (.int .u32 n) := (blk_cell HO2.out 1).trans rfl
    go_wp2_with (at_builtin; refine R_append_at k37 (w0 := w1) (W := w2.alloc (.cells #[.slice B0 code.length b0, .slice B1 origs.length b1, .slice B2 dests.length b2, .slice B3 loops.length b3, .slice B4 cases.length b4] 26)) w1.heap.size (w2.heap.size + 1) (by simp) rfl _ _ 22 37 (.agg #[(.int .i64 0), (.int .u32 0)]) 16 rfl Try.underlying22 info37 rfl (by decide) (by decide) (.slice B0 code.length b0) code ⟨k, n⟩ [.int .i64 k, .int .u32 n] (fun _ => True) (fun _ => False) rfl rfl (k37_mkM _ _ _ _) (fun _ h => h.elim) (fun _ _ => trivial) H5.out.c3.hc HC2.out hsz2 (by omega) ?_)
    intro v1' w3 hR1 hB1 hg1
    have hbk := blk_grown HX2.out hg1 (Kd.R_ne H5.out.c3.hc HX2.out (by decide))
    generalize hcc : code ++ [(⟨k, n⟩ : S37)] = cd at hR1
    have HCC := Aside0.mk hcc
    clear hcc
    obtain ⟨B, b, rfl⟩ := Kd.R_slice hR1
    have h5n := (H5.out.coded hg1 hR1).set hbk 0 (.slice B cd.length b)
    have hXn := blk_put hbk 0 (.slice B cd.length b) rfl
    have hBn := hB1.setCell (p := ⟨w2.heap.size, 0, none⟩) hg2 (.slice B cd.length b)
    have hRn := (hBn.block _ HLT.out)
    have HRz0 : ((w3.setCell ⟨w2.heap.size, 0, none⟩ (.slice B cd.length b))).heap[w.heap.size + 1 + 1]? = some (.cells #[.slice none 0 0, .slice none 0 0, .slice none 0 0, .slice none 0 0, .slice none 0 0] 26) := hRn.trans ((HC2.out.block _ HLT.out).symm.trans HR2.out)
    have HRz := Aside0.mk HRz0
    have H5n := Aside0.mk h5n
    have HXn := Aside0.mk hXn
    have HBw := Aside0.mk (below_step HB1.out hBn)
    have HBn := Aside0.mk hBn
    have hf := blk_frozen hbk 0
    have hx : w3.cell? ⟨w2.heap.size, 0, none⟩ = some (.slice B0 code.length b0) := (blk_cell hbk 0).trans rfl
    clear hbk hR1 hB1 hg1 h5n hXn hBn hRn HRz0 HR2 HO2 HX2 H5 HC2 HB2
    obtain ⟨k0, k1, k2, k3, k4⟩ := cells5 (show (w3.setCell ⟨w2.heap.size, 0, none⟩ (.slice B cd.length b)).heap[w2.heap.size]? = some (.cells #[.slice B cd.length b, .slice B1 origs.length b1, .slice B2 dests.length b2, .slice B3 loops.length b3, .slice B4 cases.length b4] _ _) from HXn.out)
    have hrb : w.heap.size ≤ w.heap.size + 1 + 1 := Nat.le_succ_of_le (Nat.le_succ _)
    obtain ⟨f0, f1, f2, f3, f4⟩ := frozen5 HRz.out
    obtain ⟨r0, r1, r2, r3, r4⟩ := cells5 (show (w3.setCell ⟨w2.heap.size, 0, none⟩ (.slice B cd.length b)).heap[w.heap.size + 1 + 1]? = some (.cells #[.slice none 0 0, .slice none 0 0, .slice none 0 0, .slice none 0 0, .slice none 0 0] _ _) from HRz.out)
    have HG4 := Aside0.mk (blk_put5 HRz.out (.slice B cd.length b) (.slice B1 origs.length b1) (.slice B2 dests.length b2) (.slice B3 loops.length b3) (.slice B4 cases.length b4))
    have HBz := Aside0.mk (below_put5 HBw.out hrb (.slice B cd.length b) (.slice B1 origs.length b1) (.slice B2 dests.length b2) (.slice B3 loops.length b3) (.slice B4 cases.length b4))
    have H8 := Aside0.mk (H5n.out.put5 HRz.out (.slice B cd.length b) (.slice B1 origs.length b1) (.slice B2 dests.length b2) (.slice B3 loops.length b3) (.slice B4 cases.length b4))
    clear hrb HXn H5n HRz HBw HBn
    go_wp2_with fail
    obtain ⟨y0, y1, y2, y3, y4⟩ := cells5 HG4.out
    refine bodyPost_ret (v := .tuple #[drV B B1 B2 B3 B4 b b1 b2 b3 b4 cd.length origs.length dests.length loops.length cases.length, .int .i64 0]) (by simp [results, Try.results16, go_sem, y0, y1, y2, y3, y4]) rfl ?_
    rw [HCC.out]
    exact ⟨HBz.out, _, _, _, _, _, _, _, _, _, _, _, rfl, H8.out.lower hw1⟩
theorem rput_calls (h : DrC w A0 A1 A2 A3 A4 c0 c1 c2 c3 c4 code origs dests loops cases) (hs : Small code origs dests loops cases) (hm : Room ⟨code, origs, dests, loops, cases⟩) (hn0 : 0 ≤ n) (hn1 : n < 4294967296) :
    Calls Try.prog 16 #[drV A0 A1 A2 A3 A4 c0 c1 c2 c3 c4 code.length origs.length dests.length loops.length cases.length, .agg #[.int .i64 k, .int .u32 n]] w (APost w (if formedP code origs dests loops cases = true then putP ⟨code, origs, dests, loops, cases⟩ k n else .inr 1)) := by
  by_cases hf : formedP code origs dests loops cases = true
  · rw [if_pos hf]
    by_cases hk : k ∈ ([1, 2, 12, 13] : List Int)
    · have e : putP ⟨code, origs, dests, loops, cases⟩ k n = layP code k n fun c => ⟨c, origs, dests, loops, cases⟩ := by unfold putP; rw [if_pos hk]
      have e2 : n % 4294967296 = n := by omega
      rw [e]
      unfold layP
      rw [e2]
      by_cases hl : code.length < 256
      · rw [if_pos hl]
        exact rput_ok A0 A1 A2 A3 A4 c0 c1 c2 c3 c4 code origs dests loops cases k n w h hf hk hs hm hl
      · rw [if_neg hl]
        exact rput_long A0 A1 A2 A3 A4 c0 c1 c2 c3 c4 code origs dests loops cases k n w h hf hk hl
    · have e : putP ⟨code, origs, dests, loops, cases⟩ k n = .inr 1 := by unfold putP; rw [if_neg hk]
      rw [e]
      exact rput_kind A0 A1 A2 A3 A4 c0 c1 c2 c3 c4 code origs dests loops cases k n w h hf hk
  · rw [if_neg hf]
    exact rput_bad A0 A1 A2 A3 A4 c0 c1 c2 c3 c4 code origs dests loops cases k n w h (by simpa using hf)
end
end Go.Proofs.Ytmglkgjnhoojaaa.PCodeRows
