/- Put (15) walked: on any draft that is read. -/
import Derived.Test.YtmglkgjnhoojaaatkA
import Derived.Test.YtmglkgjnhoojaaatkE
import Derived.Test.YtmglkgjnhoojaaatkF
namespace Go.Proofs.Ytmglkgjnhoojaaa.PCodeRows
open Go.RowKit Go.Proofs.YtmglkgjnhoojaaaW.PrintWords Go.Proofs.YtmglkgjnhoojaaaW.PrintLast Go.Proofs.YtmglkgjnhoojaaaW.PrintMore
set_option linter.unusedVariables false
set_option linter.unusedSimpArgs false
theorem C_new4 (w : World) : (Kd.int .i64).C (w.alloc (.cells #[.int .i64 1, .int .i64 2, .int .i64 12, .int .i64 13] 3)) (some ⟨w.heap.size, 0, none⟩) [(1 : Int), 2, 12, 13].length [1, 2, 12, 13] :=
  (Kd.R_reads' (lit_R w 0 (Nat.zero_le _) [1, 2, 12, 13] (by simp))).2.2
section
variable (A0 A1 A2 A3 A4 : Option Addr) (c0 c1 c2 c3 c4 : Nat) (code : List S37) (origs dests : List Int) (loops cases : List S59) (k n : Int) (w : World)

set_option maxHeartbeats 2000000 in
theorem put_bad (h : DrC w A0 A1 A2 A3 A4 c0 c1 c2 c3 c4 code origs dests loops cases) (hf : formedP code origs dests loops cases = false) :
    Calls Try.prog 15 #[drV A0 A1 A2 A3 A4 c0 c1 c2 c3 c4 code.length origs.length dests.length loops.length cases.length, .agg #[.int .i64 k, .int .u32 n]] w (APost w (.inr 1)) := by
  have hsz : (w.alloc (.cells #[.slice A0 code.length c0, .slice A1 origs.length c1, .slice A2 dests.length c2, .slice A3 loops.length c3, .slice A4 cases.length c4] 26)).heap.size = w.heap.size + 1 := by simp
  have hsz2 : ((w.alloc (.cells #[.slice A0 code.length c0, .slice A1 origs.length c1, .slice A2 dests.length c2, .slice A3 loops.length c3, .slice A4 cases.length c4] 26)).alloc (.cells #[.int .i64 k, .int .u32 n] 37)).heap.size = w.heap.size + 1 + 1 := by simp
  have HD := Aside0.mk (blk_alloc (blk_alloc (blk_new w (.cells #[.slice A0 code.length c0, .slice A1 origs.length c1, .slice A2 dests.length c2, .slice A3 loops.length c3, .slice A4 cases.length c4] 26)) (.cells #[.int .i64 k, .int .u32 n] 37)) (.cells #[.slice none 0 0, .slice none 0 0, .slice none 0 0, .slice none 0 0, .slice none 0 0] 26))
  have HO0 := blk_alloc (blk_new (w.alloc (.cells #[.slice A0 code.length c0, .slice A1 origs.length c1, .slice A2 dests.length c2, .slice A3 loops.length c3, .slice A4 cases.length c4] 26)) (.cells #[.int .i64 k, .int .u32 n] 37)) (.cells #[.slice none 0 0, .slice none 0 0, .slice none 0 0, .slice none 0 0, .slice none 0 0] 26)
  have HR0 := blk_new ((w.alloc (.cells #[.slice A0 code.length c0, .slice A1 origs.length c1, .slice A2 dests.length c2, .slice A3 loops.length c3, .slice A4 cases.length c4] 26)).alloc (.cells #[.int .i64 k, .int .u32 n] 37)) (.cells #[.slice none 0 0, .slice none 0 0, .slice none 0 0, .slice none 0 0, .slice none 0 0] 26)
  rw [hsz] at HO0
  rw [hsz2] at HR0
  have HR := Aside0.mk HR0
  have HO := Aside0.mk HO0
  clear hsz hsz2 HR0 HO0
  have HB := Aside0.mk (below_alloc (below_alloc (below_alloc (Below.refl w.heap.size w) (.cells #[.slice A0 code.length c0, .slice A1 origs.length c1, .slice A2 dests.length c2, .slice A3 loops.length c3, .slice A4 cases.length c4] 26)) (.cells #[.int .i64 k, .int .u32 n] 37)) (.cells #[.slice none 0 0, .slice none 0 0, .slice none 0 0, .slice none 0 0, .slice none 0 0] 26))
  have H := Aside0.mk h
  have HF := Aside0.mk hf
  clear h hf
  obtain ⟨k0, k1, k2, k3, k4⟩ := cells5 HD.out
  go_enter Try.func15, Try.ntmps15
  go_wp2_with fail
  clear k0 k1 k2 k3 k4
  refine (formed_calls A0 A1 A2 A3 A4 c0 c1 c2 c3 c4 code origs dests loops cases _ (H.out.below HB.out)).mono ?_
  rintro e w1 ⟨rfl, hb1⟩
  rw [HF.out]
  have HB1 := Aside0.mk (below_step HB.out hb1)
  have HD1 := Aside0.mk (blk_below HD.out hb1)
  have HR1 := Aside0.mk (blk_below HR.out hb1)
  have HO1 := Aside0.mk (blk_below HO.out hb1)
  clear hb1 HB HD HR HO
  have HRz := HR1
  have hrb : w.heap.size ≤ w.heap.size + 1 + 1 := Nat.le_succ_of_le (Nat.le_succ _)
  obtain ⟨f0, f1, f2, f3, f4⟩ := frozen5 HRz.out
  obtain ⟨r0, r1, r2, r3, r4⟩ := cells5 (show w1.heap[w.heap.size + 1 + 1]? = some (.cells #[.slice none 0 0, .slice none 0 0, .slice none 0 0, .slice none 0 0, .slice none 0 0] _ _) from HRz.out)
  have g0 := blk_put HRz.out 0 (.slice none 0 0) rfl
  have g1 := blk_put g0 1 (.slice none 0 0) rfl
  have g2 := blk_put g1 2 (.slice none 0 0) rfl
  have g3 := blk_put g2 3 (.slice none 0 0) rfl
  have g4 := blk_put g3 4 (.slice none 0 0) rfl
  have HG4 := Aside0.mk g4
  have HBz := Aside0.mk ((((((((((HB1.out).setCell (p := ⟨w.heap.size + 1 + 1, 0, none⟩) hrb (.slice none 0 0))).setCell (p := ⟨w.heap.size + 1 + 1, 1, none⟩) hrb (.slice none 0 0))).setCell (p := ⟨w.heap.size + 1 + 1, 2, none⟩) hrb (.slice none 0 0))).setCell (p := ⟨w.heap.size + 1 + 1, 3, none⟩) hrb (.slice none 0 0))).setCell (p := ⟨w.heap.size + 1 + 1, 4, none⟩) hrb (.slice none 0 0))
  clear g0 g1 g2 g3 g4 hrb
  go_wp2_with fail
  obtain ⟨y0, y1, y2, y3, y4⟩ := cells5 HG4.out
  exact bodyPost_ret (v := .tuple #[zdraft, .int .i64 1]) (by simp [results, Try.results15, go_sem, y0, y1, y2, y3, y4]) rfl ⟨HBz.out, rfl⟩
set_option maxHeartbeats 2000000 in
theorem put_kind (h : DrC w A0 A1 A2 A3 A4 c0 c1 c2 c3 c4 code origs dests loops cases) (hf : formedP code origs dests loops cases = true) (hk : k ∉ ([1, 2, 12, 13] : List Int)) :
    Calls Try.prog 15 #[drV A0 A1 A2 A3 A4 c0 c1 c2 c3 c4 code.length origs.length dests.length loops.length cases.length, .agg #[.int .i64 k, .int .u32 n]] w (APost w (.inr 1)) := by
  have hsz : (w.alloc (.cells #[.slice A0 code.length c0, .slice A1 origs.length c1, .slice A2 dests.length c2, .slice A3 loops.length c3, .slice A4 cases.length c4] 26)).heap.size = w.heap.size + 1 := by simp
  have hsz2 : ((w.alloc (.cells #[.slice A0 code.length c0, .slice A1 origs.length c1, .slice A2 dests.length c2, .slice A3 loops.length c3, .slice A4 cases.length c4] 26)).alloc (.cells #[.int .i64 k, .int .u32 n] 37)).heap.size = w.heap.size + 1 + 1 := by simp
  have HD := Aside0.mk (blk_alloc (blk_alloc (blk_new w (.cells #[.slice A0 code.length c0, .slice A1 origs.length c1, .slice A2 dests.length c2, .slice A3 loops.length c3, .slice A4 cases.length c4] 26)) (.cells #[.int .i64 k, .int .u32 n] 37)) (.cells #[.slice none 0 0, .slice none 0 0, .slice none 0 0, .slice none 0 0, .slice none 0 0] 26))
  have HO0 := blk_alloc (blk_new (w.alloc (.cells #[.slice A0 code.length c0, .slice A1 origs.length c1, .slice A2 dests.length c2, .slice A3 loops.length c3, .slice A4 cases.length c4] 26)) (.cells #[.int .i64 k, .int .u32 n] 37)) (.cells #[.slice none 0 0, .slice none 0 0, .slice none 0 0, .slice none 0 0, .slice none 0 0] 26)
  have HR0 := blk_new ((w.alloc (.cells #[.slice A0 code.length c0, .slice A1 origs.length c1, .slice A2 dests.length c2, .slice A3 loops.length c3, .slice A4 cases.length c4] 26)).alloc (.cells #[.int .i64 k, .int .u32 n] 37)) (.cells #[.slice none 0 0, .slice none 0 0, .slice none 0 0, .slice none 0 0, .slice none 0 0] 26)
  rw [hsz] at HO0
  rw [hsz2] at HR0
  have HR := Aside0.mk HR0
  have HO := Aside0.mk HO0
  clear hsz hsz2 HR0 HO0
  have HB := Aside0.mk (below_alloc (below_alloc (below_alloc (Below.refl w.heap.size w) (.cells #[.slice A0 code.length c0, .slice A1 origs.length c1, .slice A2 dests.length c2, .slice A3 loops.length c3, .slice A4 cases.length c4] 26)) (.cells #[.int .i64 k, .int .u32 n] 37)) (.cells #[.slice none 0 0, .slice none 0 0, .slice none 0 0, .slice none 0 0, .slice none 0 0] 26))
  have H := Aside0.mk h
  have HF := Aside0.mk hf
  clear h hf
  obtain ⟨k0, k1, k2, k3, k4⟩ := cells5 HD.out
  go_enter Try.func15, Try.ntmps15
  go_wp2_with fail
  clear k0 k1 k2 k3 k4
  refine (formed_calls A0 A1 A2 A3 A4 c0 c1 c2 c3 c4 code origs dests loops cases _ (H.out.below HB.out)).mono ?_
  rintro e w1 ⟨rfl, hb1⟩
  rw [HF.out]
  have HB1 := Aside0.mk (below_step HB.out hb1)
  have HD1 := Aside0.mk (blk_below HD.out hb1)
  have HR1 := Aside0.mk (blk_below HR.out hb1)
  have HO1 := Aside0.mk (blk_below HO.out hb1)
  clear hb1 HB HD HR HO
  have o0 : (w1.alloc (.cells #[.int .i64 1, .int .i64 2, .int .i64 12, .int .i64 13] 3)).cell? ⟨w.heap.size + 1, 0, none⟩ = some (.int .i64 k) := (blk_cell (blk_alloc HO1.out _) 0).trans rfl
  have hK := decide_eq_false hk
  have HK := Aside0.mk hK
  clear hK hk
  go_wp2_with fail
  clear o0
  refine (contains_calls _ 4 [1, 2, 12, 13] k _ (C_new4 w1) (by simp)).mono ?_
  rintro e w2 ⟨rfl, hd⟩
  rw [HK.out]
  have hB2 := below_step (below_alloc (Below.refl w1.heap.size w1) (.cells #[.int .i64 1, .int .i64 2, .int .i64 12, .int .i64 13] 3)) hd.below
  have HB2 := Aside0.mk hB2
  have HBw := Aside0.mk (below_step HB1.out hB2)
  have HD2 := Aside0.mk (blk_below HD1.out hB2)
  have HO2 := Aside0.mk (blk_below HO1.out hB2)
  have HR2 := Aside0.mk (blk_below HR1.out hB2)
  clear hB2 hd HD1 HO1 HR1 HB1
  have HRz := HR2
  clear HR2 HD2 HO2
  have hrb : w.heap.size ≤ w.heap.size + 1 + 1 := Nat.le_succ_of_le (Nat.le_succ _)
  obtain ⟨f0, f1, f2, f3, f4⟩ := frozen5 HRz.out
  obtain ⟨r0, r1, r2, r3, r4⟩ := cells5 (show w2.heap[w.heap.size + 1 + 1]? = some (.cells #[.slice none 0 0, .slice none 0 0, .slice none 0 0, .slice none 0 0, .slice none 0 0] _ _) from HRz.out)
  have g0 := blk_put HRz.out 0 (.slice none 0 0) rfl
  have g1 := blk_put g0 1 (.slice none 0 0) rfl
  have g2 := blk_put g1 2 (.slice none 0 0) rfl
  have g3 := blk_put g2 3 (.slice none 0 0) rfl
  have g4 := blk_put g3 4 (.slice none 0 0) rfl
  have HG4 := Aside0.mk g4
  have HBz := Aside0.mk ((((((((((HBw.out).setCell (p := ⟨w.heap.size + 1 + 1, 0, none⟩) hrb (.slice none 0 0))).setCell (p := ⟨w.heap.size + 1 + 1, 1, none⟩) hrb (.slice none 0 0))).setCell (p := ⟨w.heap.size + 1 + 1, 2, none⟩) hrb (.slice none 0 0))).setCell (p := ⟨w.heap.size + 1 + 1, 3, none⟩) hrb (.slice none 0 0))).setCell (p := ⟨w.heap.size + 1 + 1, 4, none⟩) hrb (.slice none 0 0))
  clear g0 g1 g2 g3 g4 hrb
  go_wp2_with fail
  obtain ⟨y0, y1, y2, y3, y4⟩ := cells5 HG4.out
  exact bodyPost_ret (v := .tuple #[zdraft, .int .i64 1]) (by simp [results, Try.results15, go_sem, y0, y1, y2, y3, y4]) rfl ⟨HBz.out, rfl⟩
set_option maxHeartbeats 4000000 in
theorem put_long (h : DrC w A0 A1 A2 A3 A4 c0 c1 c2 c3 c4 code origs dests loops cases) (hf : formedP code origs dests loops cases = true) (hk : k ∈ ([1, 2, 12, 13] : List Int)) (hs : Small code origs dests loops cases) (hl : ¬ code.length < 256) (hn0 : 0 ≤ n) (hn1 : n < 4294967296) :
    Calls Try.prog 15 #[drV A0 A1 A2 A3 A4 c0 c1 c2 c3 c4 code.length origs.length dests.length loops.length cases.length, .agg #[.int .i64 k, .int .u32 n]] w (APost w (.inr 3)) := by
  have HS := Aside0.mk hs
  have HL := Aside0.mk hl
  clear hs hl
  have hsz : (w.alloc (.cells #[.slice A0 code.length c0, .slice A1 origs.length c1, .slice A2 dests.length c2, .slice A3 loops.length c3, .slice A4 cases.length c4] 26)).heap.size = w.heap.size + 1 := by simp
  have hsz2 : ((w.alloc (.cells #[.slice A0 code.length c0, .slice A1 origs.length c1, .slice A2 dests.length c2, .slice A3 loops.length c3, .slice A4 cases.length c4] 26)).alloc (.cells #[.int .i64 k, .int .u32 n] 37)).heap.size = w.heap.size + 1 + 1 := by simp
  have HD := Aside0.mk (blk_alloc (blk_alloc (blk_new w (.cells #[.slice A0 code.length c0, .slice A1 origs.length c1, .slice A2 dests.length c2, .slice A3 loops.length c3, .slice A4 cases.length c4] 26)) (.cells #[.int .i64 k, .int .u32 n] 37)) (.cells #[.slice none 0 0, .slice none 0 0, .slice none 0 0, .slice none 0 0, .slice none 0 0] 26))
  have HO0 := blk_alloc (blk_new (w.alloc (.cells #[.slice A0 code.length c0, .slice A1 origs.length c1, .slice A2 dests.length c2, .slice A3 loops.length c3, .slice A4 cases.length c4] 26)) (.cells #[.int .i64 k, .int .u32 n] 37)) (.cells #[.slice none 0 0, .slice none 0 0, .slice none 0 0, .slice none 0 0, .slice none 0 0] 26)
  have HR0 := blk_new ((w.alloc (.cells #[.slice A0 code.length c0, .slice A1 origs.length c1, .slice A2 dests.length c2, .slice A3 loops.length c3, .slice A4 cases.length c4] 26)).alloc (.cells #[.int .i64 k, .int .u32 n] 37)) (.cells #[.slice none 0 0, .slice none 0 0, .slice none 0 0, .slice none 0 0, .slice none 0 0] 26)
  rw [hsz] at HO0
  rw [hsz2] at HR0
  have HR := Aside0.mk HR0
  have HO := Aside0.mk HO0
  clear hsz hsz2 HR0 HO0
  have HB := Aside0.mk (below_alloc (below_alloc (below_alloc (Below.refl w.heap.size w) (.cells #[.slice A0 code.length c0, .slice A1 origs.length c1, .slice A2 dests.length c2, .slice A3 loops.length c3, .slice A4 cases.length c4] 26)) (.cells #[.int .i64 k, .int .u32 n] 37)) (.cells #[.slice none 0 0, .slice none 0 0, .slice none 0 0, .slice none 0 0, .slice none 0 0] 26))
  have H := Aside0.mk h
  have HF := Aside0.mk hf
  clear h hf
  obtain ⟨k0, k1, k2, k3, k4⟩ := cells5 HD.out
  go_enter Try.func15, Try.ntmps15
  go_wp2_with fail
  clear k0 k1 k2 k3 k4
  refine (formed_calls A0 A1 A2 A3 A4 c0 c1 c2 c3 c4 code origs dests loops cases _ (H.out.below HB.out)).mono ?_
  rintro e w1 ⟨rfl, hb1⟩
  rw [HF.out]
  have HB1 := Aside0.mk (below_step HB.out hb1)
  have HD1 := Aside0.mk (blk_below HD.out hb1)
  have HR1 := Aside0.mk (blk_below HR.out hb1)
  have HO1 := Aside0.mk (blk_below HO.out hb1)
  clear hb1 HB HD HR HO
  have o0 : (w1.alloc (.cells #[.int .i64 1, .int .i64 2, .int .i64 12, .int .i64 13] 3)).cell? ⟨w.heap.size + 1, 0, none⟩ = some (.int .i64 k) := (blk_cell (blk_alloc HO1.out _) 0).trans rfl
  have hK := decide_eq_true hk
  have HK := Aside0.mk hK
  clear hK hk
  go_wp2_with fail
  clear o0
  refine (contains_calls _ 4 [1, 2, 12, 13] k _ (C_new4 w1) (by simp)).mono ?_
  rintro e w2 ⟨rfl, hd⟩
  rw [HK.out]
  have hB2 := below_step (below_alloc (Below.refl w1.heap.size w1) (.cells #[.int .i64 1, .int .i64 2, .int .i64 12, .int .i64 13] 3)) hd.below
  have HB2 := Aside0.mk hB2
  have HBw := Aside0.mk (below_step HB1.out hB2)
  have HD2 := Aside0.mk (blk_below HD1.out hB2)
  have HO2 := Aside0.mk (blk_below HO1.out hB2)
  have HR2 := Aside0.mk (blk_below HR1.out hB2)
  clear hB2 hd HD1 HO1 HR1 HB1
  obtain ⟨k0, k1, k2, k3, k4⟩ := cells5 HD2.out
  go_wp2_with fail
  clear k0 k1 k2 k3 k4
  refine (copied_calls A0 A1 A2 A3 A4 c0 c1 c2 c3 c4 code origs dests loops cases w2 (H.out.below HBw.out) HS.out).mono ?_
  rintro e w3 ⟨v0, v1, v2, v3, v4, o, rfl, h5, hb2⟩
  obtain ⟨B0, b0, rfl⟩ := Kd.R_slice h5.c3.hc
  obtain ⟨B1, b1, rfl⟩ := Kd.R_slice h5.c3.ho
  obtain ⟨B2, b2, rfl⟩ := Kd.R_slice h5.c3.hd
  obtain ⟨B3, b3, rfl⟩ := Kd.R_slice (Kd.S_R h5.hl)
  obtain ⟨B4, b4, rfl⟩ := Kd.R_slice (Kd.S_R h5.hs)
  have HBD := Aside0.mk (BD.of5 h5 hb2.size)
  have hB3 := below_alloc hb2 (.cells #[.slice B0 code.length b0, .slice B1 origs.length b1, .slice B2 dests.length b2, .slice B3 loops.length b3, .slice B4 cases.length b4] 53)
  have HB3 := Aside0.mk hB3
  have HO3 := Aside0.mk (blk_below HO2.out hB3)
  have HR3 := Aside0.mk (blk_below HR2.out hB3)
  have HBx := Aside0.mk (below_step HBw.out hB3)
  clear h5 hb2 hB3 HB2 HBw HO2 HR2 HD2
  have o0 : (w3.alloc (.cells #[.slice B0 code.length b0, .slice B1 origs.length b1, .slice B2 dests.length b2, .slice B3 loops.length b3, .slice B4 cases.length b4] 53)).cell? ⟨w.heap.size + 1, 0, none⟩ = some (.int .i64 k) := (blk_cell HO3.out 0).trans rfl
  have o1 : (w3.alloc (.cells #[.slice B0 code.length b0, .slice B1 origs.length b1, .slice B2 dests.length b2, .slice B3 loops.length b3, .slice B4 cases.length b4] 53)).cell? ⟨w.heap.size + 1, 1, none⟩ = some (.int .u32 n) := (blk_cell HO3.out 1).trans rfl
  go_wp2_with fail
  clear o0 o1
  generalize w3.alloc (.cells #[.slice B0 code.length b0, .slice B1 origs.length b1, .slice B2 dests.length b2, .slice B3 loops.length b3, .slice B4 cases.length b4] 53) = w4 at HBD HB3 HO3 HR3 HBx ⊢
  generalize w3.heap.size = bb at HBD ⊢
  refine (lay_bd_long HBD.out k n HL.out).mono ?_
  rintro e w5 ⟨rfl, rfl⟩
  have HRz := HR3
  clear HR3 HBD HO3 HB3
  have hrb : w.heap.size ≤ w.heap.size + 1 + 1 := Nat.le_succ_of_le (Nat.le_succ _)
  obtain ⟨f0, f1, f2, f3, f4⟩ := frozen5 HRz.out
  obtain ⟨r0, r1, r2, r3, r4⟩ := cells5 (show w5.heap[w.heap.size + 1 + 1]? = some (.cells #[.slice none 0 0, .slice none 0 0, .slice none 0 0, .slice none 0 0, .slice none 0 0] _ _) from HRz.out)
  have g0 := blk_put HRz.out 0 (.slice none 0 0) rfl
  have g1 := blk_put g0 1 (.slice none 0 0) rfl
  have g2 := blk_put g1 2 (.slice none 0 0) rfl
  have g3 := blk_put g2 3 (.slice none 0 0) rfl
  have g4 := blk_put g3 4 (.slice none 0 0) rfl
  have HG4 := Aside0.mk g4
  have HBz := Aside0.mk ((((((((((HBx.out).setCell (p := ⟨w.heap.size + 1 + 1, 0, none⟩) hrb (.slice none 0 0))).setCell (p := ⟨w.heap.size + 1 + 1, 1, none⟩) hrb (.slice none 0 0))).setCell (p := ⟨w.heap.size + 1 + 1, 2, none⟩) hrb (.slice none 0 0))).setCell (p := ⟨w.heap.size + 1 + 1, 3, none⟩) hrb (.slice none 0 0))).setCell (p := ⟨w.heap.size + 1 + 1, 4, none⟩) hrb (.slice none 0 0))
  clear g0 g1 g2 g3 g4 hrb
  go_wp2_with fail
  obtain ⟨y0, y1, y2, y3, y4⟩ := cells5 HG4.out
  exact bodyPost_ret (v := .tuple #[zdraft, .int .i64 3]) (by simp [results, Try.results15, go_sem, y0, y1, y2, y3, y4]) rfl ⟨HBz.out, rfl⟩
set_option maxHeartbeats 4000000 in
theorem put_ok (h : DrC w A0 A1 A2 A3 A4 c0 c1 c2 c3 c4 code origs dests loops cases) (hf : formedP code origs dests loops cases = true) (hk : k ∈ ([1, 2, 12, 13] : List Int)) (hs : Small code origs dests loops cases) (hl : code.length < 256) (hn0 : 0 ≤ n) (hn1 : n < 4294967296) :
    Calls Try.prog 15 #[drV A0 A1 A2 A3 A4 c0 c1 c2 c3 c4 code.length origs.length dests.length loops.length cases.length, .agg #[.int .i64 k, .int .u32 n]] w (APost w (.inl ⟨code ++ [(⟨k, n % 4294967296⟩ : S37)], origs, dests, loops, cases⟩)) := by
  have HS := Aside0.mk hs
  have HL := Aside0.mk hl
  clear hs hl
  have hsz : (w.alloc (.cells #[.slice A0 code.length c0, .slice A1 origs.length c1, .slice A2 dests.length c2, .slice A3 loops.length c3, .slice A4 cases.length c4] 26)).heap.size = w.heap.size + 1 := by simp
  have hsz2 : ((w.alloc (.cells #[.slice A0 code.length c0, .slice A1 origs.length c1, .slice A2 dests.length c2, .slice A3 loops.length c3, .slice A4 cases.length c4] 26)).alloc (.cells #[.int .i64 k, .int .u32 n] 37)).heap.size = w.heap.size + 1 + 1 := by simp
  have HD := Aside0.mk (blk_alloc (blk_alloc (blk_new w (.cells #[.slice A0 code.length c0, .slice A1 origs.length c1, .slice A2 dests.length c2, .slice A3 loops.length c3, .slice A4 cases.length c4] 26)) (.cells #[.int .i64 k, .int .u32 n] 37)) (.cells #[.slice none 0 0, .slice none 0 0, .slice none 0 0, .slice none 0 0, .slice none 0 0] 26))
  have HO0 := blk_alloc (blk_new (w.alloc (.cells #[.slice A0 code.length c0, .slice A1 origs.length c1, .slice A2 dests.length c2, .slice A3 loops.length c3, .slice A4 cases.length c4] 26)) (.cells #[.int .i64 k, .int .u32 n] 37)) (.cells #[.slice none 0 0, .slice none 0 0, .slice none 0 0, .slice none 0 0, .slice none 0 0] 26)
  have HR0 := blk_new ((w.alloc (.cells #[.slice A0 code.length c0, .slice A1 origs.length c1, .slice A2 dests.length c2, .slice A3 loops.length c3, .slice A4 cases.length c4] 26)).alloc (.cells #[.int .i64 k, .int .u32 n] 37)) (.cells #[.slice none 0 0, .slice none 0 0, .slice none 0 0, .slice none 0 0, .slice none 0 0] 26)
  rw [hsz] at HO0
  rw [hsz2] at HR0
  have HR := Aside0.mk HR0
  have HO := Aside0.mk HO0
  clear hsz hsz2 HR0 HO0
  have HB := Aside0.mk (below_alloc (below_alloc (below_alloc (Below.refl w.heap.size w) (.cells #[.slice A0 code.length c0, .slice A1 origs.length c1, .slice A2 dests.length c2, .slice A3 loops.length c3, .slice A4 cases.length c4] 26)) (.cells #[.int .i64 k, .int .u32 n] 37)) (.cells #[.slice none 0 0, .slice none 0 0, .slice none 0 0, .slice none 0 0, .slice none 0 0] 26))
  have H := Aside0.mk h
  have HF := Aside0.mk hf
  clear h hf
  obtain ⟨k0, k1, k2, k3, k4⟩ := cells5 HD.out
  go_enter Try.func15, Try.ntmps15
  go_wp2_with fail
  clear k0 k1 k2 k3 k4
  refine (formed_calls A0 A1 A2 A3 A4 c0 c1 c2 c3 c4 code origs dests loops cases _ (H.out.below HB.out)).mono ?_
  rintro e w1 ⟨rfl, hb1⟩
  rw [HF.out]
  have HB1 := Aside0.mk (below_step HB.out hb1)
  have HD1 := Aside0.mk (blk_below HD.out hb1)
  have HR1 := Aside0.mk (blk_below HR.out hb1)
  have HO1 := Aside0.mk (blk_below HO.out hb1)
  clear hb1 HB HD HR HO
  have o0 : (w1.alloc (.cells #[.int .i64 1, .int .i64 2, .int .i64 12, .int .i64 13] 3)).cell? ⟨w.heap.size + 1, 0, none⟩ = some (.int .i64 k) := (blk_cell (blk_alloc HO1.out _) 0).trans rfl
  have hK := decide_eq_true hk
  have HK := Aside0.mk hK
  clear hK hk
  go_wp2_with fail
  clear o0
  refine (contains_calls _ 4 [1, 2, 12, 13] k _ (C_new4 w1) (by simp)).mono ?_
  rintro e w2 ⟨rfl, hd⟩
  rw [HK.out]
  have hB2 := below_step (below_alloc (Below.refl w1.heap.size w1) (.cells #[.int .i64 1, .int .i64 2, .int .i64 12, .int .i64 13] 3)) hd.below
  have HB2 := Aside0.mk hB2
  have HBw := Aside0.mk (below_step HB1.out hB2)
  have HD2 := Aside0.mk (blk_below HD1.out hB2)
  have HO2 := Aside0.mk (blk_below HO1.out hB2)
  have HR2 := Aside0.mk (blk_below HR1.out hB2)
  clear hB2 hd HD1 HO1 HR1 HB1
  obtain ⟨k0, k1, k2, k3, k4⟩ := cells5 HD2.out
  go_wp2_with fail
  clear k0 k1 k2 k3 k4
  refine (copied_calls A0 A1 A2 A3 A4 c0 c1 c2 c3 c4 code origs dests loops cases w2 (H.out.below HBw.out) HS.out).mono ?_
  rintro e w3 ⟨v0, v1, v2, v3, v4, o, rfl, h5, hb2⟩
  obtain ⟨B0, b0, rfl⟩ := Kd.R_slice h5.c3.hc
  obtain ⟨B1, b1, rfl⟩ := Kd.R_slice h5.c3.ho
  obtain ⟨B2, b2, rfl⟩ := Kd.R_slice h5.c3.hd
  obtain ⟨B3, b3, rfl⟩ := Kd.R_slice (Kd.S_R h5.hl)
  obtain ⟨B4, b4, rfl⟩ := Kd.R_slice (Kd.S_R h5.hs)
  have HBD := Aside0.mk (BD.of5 h5 hb2.size)
  have hB3 := below_alloc hb2 (.cells #[.slice B0 code.length b0, .slice B1 origs.length b1, .slice B2 dests.length b2, .slice B3 loops.length b3, .slice B4 cases.length b4] 53)
  have HB3 := Aside0.mk hB3
  have HO3 := Aside0.mk (blk_below HO2.out hB3)
  have HR3 := Aside0.mk (blk_below HR2.out hB3)
  have HBx := Aside0.mk (below_step HBw.out hB3)
  have HLT := Aside0.mk (blk_lt HR2.out)
  have HBx2 := HBw
  clear h5 hb2 hB3 HB2 HBw HO2 HR2 HD2
  have o0 : (w3.alloc (.cells #[.slice B0 code.length b0, .slice B1 origs.length b1, .slice B2 dests.length b2, .slice B3 loops.length b3, .slice B4 cases.length b4] 53)).cell? ⟨w.heap.size + 1, 0, none⟩ = some (.int .i64 k) := (blk_cell HO3.out 0).trans rfl
  have o1 : (w3.alloc (.cells #[.slice B0 code.length b0, .slice B1 origs.length b1, .slice B2 dests.length b2, .slice B3 loops.length b3, .slice B4 cases.length b4] 53)).cell? ⟨w.heap.size + 1, 1, none⟩ = some (.int .u32 n) := (blk_cell HO3.out 1).trans rfl
  go_wp2_with fail
  clear o0 o1
  generalize w3.alloc (.cells #[.slice B0 code.length b0, .slice B1 origs.length b1, .slice B2 dests.length b2, .slice B3 loops.length b3, .slice B4 cases.length b4] 53) = w4 at HBD HB3 HO3 HR3 HBx ⊢
  generalize w3.heap.size = bb at HBD ⊢
  refine (lay_bd HBD.out k n HL.out).mono ?_
  rintro e w5 ⟨rfl, u0, hbd, hB⟩
  generalize hcc : code ++ [(⟨k, n % 4294967296⟩ : S37)] = cd at hbd
  have HCC := Aside0.mk hcc
  clear hcc
  obtain ⟨B0, b0, rfl⟩ := Kd.R_slice hbd.hc
  have HRz := Aside0.mk ((hB.block _ HLT.out).trans HR3.out)
  have HBy := Aside0.mk (below_step HBx2.out (HB3.out.trans hB))
  have HX := Aside0.mk hbd.box
  have H5 := Aside0.mk hbd.c5
  clear hB HBD HB3 hbd HBx HO3 HR3 HLT
  obtain ⟨k0, k1, k2, k3, k4⟩ := cells5 (show w5.heap[bb]? = some (.cells #[.slice B0 cd.length b0, .slice B1 origs.length b1, .slice B2 dests.length b2, .slice B3 loops.length b3, .slice B4 cases.length b4] _ _) from HX.out)
  have hrb : w.heap.size ≤ w.heap.size + 1 + 1 := Nat.le_succ_of_le (Nat.le_succ _)
  obtain ⟨f0, f1, f2, f3, f4⟩ := frozen5 HRz.out
  obtain ⟨r0, r1, r2, r3, r4⟩ := cells5 (show w5.heap[w.heap.size + 1 + 1]? = some (.cells #[.slice none 0 0, .slice none 0 0, .slice none 0 0, .slice none 0 0, .slice none 0 0] _ _) from HRz.out)
  have g0 := blk_put HRz.out 0 (.slice B0 cd.length b0) rfl
  have g1 := blk_put g0 1 (.slice B1 origs.length b1) rfl
  have g2 := blk_put g1 2 (.slice B2 dests.length b2) rfl
  have g3 := blk_put g2 3 (.slice B3 loops.length b3) rfl
  have g4 := blk_put g3 4 (.slice B4 cases.length b4) rfl
  have HG4 := Aside0.mk g4
  have H8 := Aside0.mk ((((((((((H5.out).set HRz.out 0 (.slice B0 cd.length b0))).set g0 1 (.slice B1 origs.length b1))).set g1 2 (.slice B2 dests.length b2))).set g2 3 (.slice B3 loops.length b3))).set g3 4 (.slice B4 cases.length b4))
  have HB9 := Aside0.mk ((((((((((HBy.out).setCell (p := ⟨w.heap.size + 1 + 1, 0, none⟩) hrb (.slice B0 cd.length b0))).setCell (p := ⟨w.heap.size + 1 + 1, 1, none⟩) hrb (.slice B1 origs.length b1))).setCell (p := ⟨w.heap.size + 1 + 1, 2, none⟩) hrb (.slice B2 dests.length b2))).setCell (p := ⟨w.heap.size + 1 + 1, 3, none⟩) hrb (.slice B3 loops.length b3))).setCell (p := ⟨w.heap.size + 1 + 1, 4, none⟩) hrb (.slice B4 cases.length b4))
  clear g0 g1 g2 g3 g4 HX H5 HRz hrb HBy
  go_wp2_with fail
  obtain ⟨y0, y1, y2, y3, y4⟩ := cells5 HG4.out
  refine bodyPost_ret (v := .tuple #[drV B0 B1 B2 B3 B4 b0 b1 b2 b3 b4 cd.length origs.length dests.length loops.length cases.length, .int .i64 0]) (by simp [results, Try.results15, go_sem, y0, y1, y2, y3, y4]) rfl ?_
  rw [HCC.out]
  exact ⟨HB9.out, _, _, _, _, _, _, _, _, _, _, _, rfl, H8.out.lower HBx2.out.size⟩
theorem put_calls (h : DrC w A0 A1 A2 A3 A4 c0 c1 c2 c3 c4 code origs dests loops cases) (hs : Small code origs dests loops cases) (hn0 : 0 ≤ n) (hn1 : n < 4294967296) :
    Calls Try.prog 15 #[drV A0 A1 A2 A3 A4 c0 c1 c2 c3 c4 code.length origs.length dests.length loops.length cases.length, .agg #[.int .i64 k, .int .u32 n]] w (APost w (if formedP code origs dests loops cases = true then putP ⟨code, origs, dests, loops, cases⟩ k n else .inr 1)) := by
  by_cases hf : formedP code origs dests loops cases = true
  · rw [if_pos hf]
    by_cases hk : k ∈ ([1, 2, 12, 13] : List Int)
    · have e : putP ⟨code, origs, dests, loops, cases⟩ k n = layP code k n fun c => ⟨c, origs, dests, loops, cases⟩ := by unfold putP; rw [if_pos hk]
      rw [e]
      unfold layP
      by_cases hl : code.length < 256
      · rw [if_pos hl]
        exact put_ok A0 A1 A2 A3 A4 c0 c1 c2 c3 c4 code origs dests loops cases k n w h hf hk hs hl hn0 hn1
      · rw [if_neg hl]
        exact put_long A0 A1 A2 A3 A4 c0 c1 c2 c3 c4 code origs dests loops cases k n w h hf hk hs hl hn0 hn1
    · have e : putP ⟨code, origs, dests, loops, cases⟩ k n = .inr 1 := by unfold putP; rw [if_neg hk]
      rw [e]
      exact put_kind A0 A1 A2 A3 A4 c0 c1 c2 c3 c4 code origs dests loops cases k n w h hf hk
  · rw [if_neg hf]
    exact put_bad A0 A1 A2 A3 A4 c0 c1 c2 c3 c4 code origs dests loops cases k n w h (by simpa using hf)
end
end Go.Proofs.Ytmglkgjnhoojaaa.PCodeRows
/- Act and Put, by that. -/
namespace Go.Proofs.Ytmglkgjnhoojaaa.PCodeRows
open Go.RowKit Go.Proofs.YtmglkgjnhoojaaaW.PrintWords Go.Proofs.YtmglkgjnhoojaaaW.PrintLast Go.Proofs.YtmglkgjnhoojaaaW.PrintMore
set_option linter.unusedVariables false
set_option linter.unusedSimpArgs false
section
variable {A0 A1 A2 A3 A4 : Option Addr} {c0 c1 c2 c3 c4 N base : Nat} {o : Nat → Nat} {d E : Dr} {W : World} {c : Int}
theorem actU (h : C5 W base (.slice A0 d.code.length c0) (.slice A1 d.origs.length c1) (.slice A2 d.dests.length c2) (.slice A3 d.loops.length c3) (.slice A4 d.cases.length c4) o d.code d.origs d.dests d.loops d.cases) (hN : Bnd d N) (hN2 : N ≤ 1099511627776) {a : Int} (hE : outP (actR d a) = (E, c)) :
    Calls Try.prog 10 #[drV A0 A1 A2 A3 A4 c0 c1 c2 c3 c4 d.code.length d.origs.length d.dests.length d.loops.length d.cases.length, .int .i64 a] W (UPost W E c) :=
  (act_calls A0 A1 A2 A3 A4 c0 c1 c2 c3 c4 d.code d.origs d.dests d.loops d.cases a W h.drc (hN.small hN2) (hN.room hN2)).mono fun e w' hp => upost_of hp hE
theorem putU (h : C5 W base (.slice A0 d.code.length c0) (.slice A1 d.origs.length c1) (.slice A2 d.dests.length c2) (.slice A3 d.loops.length c3) (.slice A4 d.cases.length c4) o d.code d.origs d.dests d.loops d.cases) (hN : Bnd d N) (hN2 : N ≤ 1099511627776) {k n : Int} (hn : 0 ≤ n ∧ n < 4294967296) (hE : outP (putR d k n) = (E, c)) :
    Calls Try.prog 15 #[drV A0 A1 A2 A3 A4 c0 c1 c2 c3 c4 d.code.length d.origs.length d.dests.length d.loops.length d.cases.length, .agg #[.int .i64 k, .int .u32 n]] W (UPost W E c) :=
  (put_calls A0 A1 A2 A3 A4 c0 c1 c2 c3 c4 d.code d.origs d.dests d.loops d.cases k n W h.drc (hN.small hN2) hn.1 hn.2).mono fun e w' hp => upost_of hp hE
end
end Go.Proofs.Ytmglkgjnhoojaaa.PCodeRows
