import Derived.Test.Ytehmhgpogpbjiaafr28
set_option linter.unusedVariables false
set_option linter.unusedSimpArgs false
set_option maxRecDepth 100000
set_option maxHeartbeats 8000000
namespace Go.Proofs.Ytehmhgpogpbjiaa.Fcc
open Go.RowKit Go.Proofs.YtehmhgpogpbjiaaW.PrintWords Go.Proofs.YtehmhgpogpbjiaaW.PrintLast Go.Proofs.YtehmhgpogpbjiaaW.PrintMore Go.Proofs.Ytehmhgpogpbjiaa.PFccTokens
section
variable {w : World} {A : Option Addr} {c : Nat} {rest : List Int}
theorem one_3 (f : Int) (s : ByteArray) (hs : f ≤ 255) (hsz : s.size ≤ 255) (hr : rightP ⟨f, 0, s, 0⟩ true = true) (hk : Yr (f) = 3) (h : CB w A (f :: ((s.size : Int) :: (Xl s ++ rest)))) (hc : rest.length + s.size + 1 + 1 ≤ c) :
 Calls Try.prog 28 #[.slice A (rest.length + s.size + 1 + 1) c, .bool true] w (VW ⟨f, 0, s, 0⟩ w) := by
 have htl : ((s.size : Int) :: (Xl s ++ rest)).length = rest.length + s.size + 1 := by simp [YG] <;> omega
 have hcd : YP (f) = true := by unfold rightP at hr; simp only [Bool.and_eq_true] at hr; exact hr.1.1.1
 obtain ⟨w1, w2, w3, w4⟩ := Ya2 hcd hs
 have hBy := Aside0.mk (fun W => UW ⟨f, 0, s, 0⟩ ⟨Zg, Zg, Zg, Zg⟩ hr W)
 obtain ⟨ad, rfl, c0⟩ := Xs h 0 Z3
 simp [Addr.add] at c0
 obtain ⟨A', c', hcut, hC', hc'⟩ := VK h (c := c) ZH 1 Z3
 replace hcut : ∀ W, (Instr.slice 29 (.slice (some ad) (rest.length + s.size + 1 + 1) c) (some (.int .i64 1)) none none).run Try.prog W = .ok (.slice A' (rest.length + s.size + 1) c') W := fun W => by
  have := hcut W
  simp only [List.length_cons, htl] at this
  exact this
 rw [List.drop_succ_cons, List.drop_zero] at hC' hc'
 have hn := h.2.1
 simp only [List.length_cons, htl] at hn
 have f1 : (((rest.length + s.size + 1 : Nat) : Int) + 1 == 0) = false := beq_eq_false_iff_ne.2 Z0
 have hB0 := Yc (Yc (Below.refl w.heap.size w) tz) (.cells #[.int .i64 (f), .int .u32 0, .string ⟨#[]⟩, .int .i64 0] 37)
 have hBz := Yc (Yc (Below.refl w.heap.size w) tz) tz
 have c1 := (hBz.cell (World.block_lt_of_cell? w ad c0)).trans c0
 obtain ⟨ad2, rfl, d0⟩ := Xs hC' 0 Z3
 simp only [List.getElem_cons_zero] at d0
 simp [Addr.add] at d0
 replace d0 := (hB0.cell (World.block_lt_of_cell? w _ d0)).trans d0
 obtain ⟨A3, c3, hcut3, hC3, -⟩ := cb_mid hC' hc' 1 (1 + s.size) Z0 Z11
 rw [htl] at hcut3
 replace hcut3 : ∀ W, (Instr.slice 29 (.slice (some ad2) (rest.length + s.size + 1) c') (some (.int .i64 1)) (some (.int .i64 (1 + (s.size : Int)))) none).run Try.prog W = .ok (.slice A3 s.size c3) W := fun W => by
  have := hcut3 W
  rw [show 1 + s.size - 1 = s.size by omega, show ((1 + s.size : Nat) : Int) = 1 + (s.size : Int) by omega] at this
  exact this
 have e3 : List.drop 1 (List.take (1 + s.size) ((s.size : Int) :: (Xl s ++ rest))) = Xl s := by
  rw [Nat.add_comm 1 s.size, List.take_succ_cons, List.drop_succ_cons, List.drop_zero, List.take_left' (YG s)]
 rw [e3] at hC3
 have hcv : (convert 29 9 (.slice A3 s.size c3)).run Try.prog ((w.alloc tz).alloc (.cells #[.int .i64 (f), .int .u32 0, .string ⟨#[]⟩, .int .i64 0] 37)) = .ok (.string s) ((w.alloc tz).alloc (.cells #[.int .i64 (f), .int .u32 0, .string ⟨#[]⟩, .int .i64 0] 37)) := by
  have := Kd.C_string (src := 29) (dst := 9) (c := c3) Try.underlying29 Try.underlying5 Try.underlying9 (Kd.C_below hC3 hB0)
  rw [YG, YbY] at this
  exact this
 have hk' := Aside0.mk hk
 replace hr := Aside0.mk hr
 clear hBz hB0 c0 h hc hn hk hC' hc' htl
 rcases w4 with ⟨w4, w5⟩ | w4
 all_goals
  go_enter Try.func28, Try.ntmps28
  go_wp2_with fail
  refine (Yp _ _).mono ?_
  rintro e w' ⟨rfl, rfl⟩
  rw [hk'.out]
  have l0 : (0 : Int) < (rest.length : Int) + s.size + 1 := by omega
  have l1 : decide ((rest.length : Int) + s.size + 1 < 1) = false := decide_eq_false Z0
  have l2 : decide ((rest.length : Int) + s.size + 1 < 1 + (s.size : Int)) = false := decide_eq_false Z0
  have hW : wrap64 (s.size : Int) = (s.size : Int) := IntWalk.wrap64_in _ ⟨Z0, Z0⟩
  have hW2 : wrap64 (1 + (s.size : Int)) = 1 + (s.size : Int) := IntWalk.wrap64_in _ ⟨Z0, Z0⟩
  go_wp2_with fail
  refine (Yp _ _).mono ?_
  rintro e w' ⟨rfl, rfl⟩
  rw [hk'.out]
  have Q4 : (((w.alloc tz).alloc (.cells #[.int .i64 (f), .int .u32 (0), .string (s), .int .i64 (0)] 37))).heap[w.heap.size]? = some tz := Xh (Xa w tz) (.cells #[.int .i64 (f), .int .u32 (0), .string (s), .int .i64 (0)] 37)
  have Q6 : (((w.alloc tz).alloc (.cells #[.int .i64 (f), .int .u32 (0), .string (s), .int .i64 (0)] 37))).heap[w.heap.size + 1]? = some (.cells #[.int .i64 (f), .int .u32 (0), .string (s), .int .i64 (0)] 37) := by
   have := Xa (w.alloc tz) (.cells #[.int .i64 (f), .int .u32 (0), .string (s), .int .i64 (0)] 37)
   rw [World.size_alloc] at this
   exact this
  replace Q4 := Aside0.mk Q4
  replace Q6 := Aside0.mk Q6
  have hB1 := Aside0.mk (Yc (Yc (Below.refl w.heap.size w) tz) (.cells #[.int .i64 (f), .int .u32 (0), .string (s), .int .i64 (0)] 37))
  generalize (w.alloc tz).alloc (.cells #[.int .i64 (f), .int .u32 (0), .string (s), .int .i64 (0)] 37) = W2 at Q4 Q6 hB1 ⊢
  have e0 := Ya Q6.out 0
  have e1 := Ya Q6.out 1
  have e2 := Ya Q6.out 2
  have e3 := Ya Q6.out 3
  try go_wp2_with fail
  refine (hBy.out _).mono ?_
  rintro e w6 ⟨A6, c6, rfl, hB⟩
  have q4 := YQ Q4.out hB
  have q6 := YQ Q6.out hB
  have hB2 := Aside0.mk (hB1.out.trans (Below.mono hB hB1.out.size))
  replace e0 := Ya q6 0
  replace e1 := Ya q6 1
  replace e2 := Ya q6 2
  replace e3 := Ya q6 3
  have k0 := Ya q4 0
  have k1 := Ya q4 1
  have k2 := Ya q4 2
  have k3 := Ya q4 3
  have z0 := Yf q4 0
  have z1 := Yf q4 1
  have z2 := Yf q4 2
  have z3 := Yf q4 3
  have p1 := Aside0.mk (YM (YM (YM (YM q4 0 (.int .i64 (f)) rfl) 1 (.int .u32 (0)) rfl) 2 (.string (s)) rfl) 3 (.int .i64 (0)) rfl)
  clear hB q4 q6
  go_wp2_with fail
  have r0 := Ya p1.out 0
  have r1 := Ya p1.out 1
  have r2 := Ya p1.out 2
  have r3 := Ya p1.out 3
  have hgl : w.heap.size ≤ w.heap.size := Nat.le_refl _
  exact bodyPost_ret (v := .tuple #[tv ⟨f, 0, s, 0⟩, .int .i64 (tokB ⟨f, 0, s, 0⟩ true).length]) ZC rfl ⟨rfl, (((hB2.out.setCell (p := ⟨w.heap.size, 0, none⟩) hgl _).setCell (p := ⟨w.heap.size, 1, none⟩) hgl _).setCell (p := ⟨w.heap.size, 2, none⟩) hgl _).setCell (p := ⟨w.heap.size, 3, none⟩) hgl _⟩
theorem one_4 (f b0 b1 : Int) (hs : f ≤ 255) (hq : decide (32768 ≤ b0 * 256 + b1) = false) (hb0 : 0 ≤ b0 ∧ b0 < 256) (hb1 : 0 ≤ b1 ∧ b1 < 256) (hr : rightP ⟨f, 0, ⟨#[]⟩, b0 * 256 + b1⟩ true = true) (hk : Yr (f) = 4) (h : CB w A (f :: (b0 :: b1 :: rest))) (hc : rest.length + 2 + 1 ≤ c) :
 Calls Try.prog 28 #[.slice A (rest.length + 2 + 1) c, .bool true] w (VW ⟨f, 0, ⟨#[]⟩, b0 * 256 + b1⟩ w) := by
 have htl : (b0 :: b1 :: rest).length = rest.length + 2 := by simp [YG] <;> omega
 have hcd : YP (f) = true := by unfold rightP at hr; simp only [Bool.and_eq_true] at hr; exact hr.1.1.1
 obtain ⟨w1, w2, w3, w4⟩ := Ya2 hcd hs
 have hBy := Aside0.mk (fun W => UW ⟨f, 0, ⟨#[]⟩, b0 * 256 + b1⟩ ⟨Zg, Zg, ZK, Zg⟩ hr W)
 obtain ⟨ad, rfl, c0⟩ := Xs h 0 Z3
 simp [Addr.add] at c0
 obtain ⟨A', c', hcut, hC', hc'⟩ := VK h (c := c) ZH 1 Z3
 replace hcut : ∀ W, (Instr.slice 29 (.slice (some ad) (rest.length + 2 + 1) c) (some (.int .i64 1)) none none).run Try.prog W = .ok (.slice A' (rest.length + 2) c') W := fun W => by
  have := hcut W
  simp only [List.length_cons, htl] at this
  exact this
 rw [List.drop_succ_cons, List.drop_zero] at hC' hc'
 have hn := h.2.1
 simp only [List.length_cons, htl] at hn
 have f1 : (((rest.length + 2 : Nat) : Int) + 1 == 0) = false := beq_eq_false_iff_ne.2 Z0
 have hB0 := Yc (Yc (Below.refl w.heap.size w) tz) (.cells #[.int .i64 (f), .int .u32 0, .string ⟨#[]⟩, .int .i64 0] 37)
 have hBz := Yc (Yc (Below.refl w.heap.size w) tz) tz
 have c1 := (hBz.cell (World.block_lt_of_cell? w ad c0)).trans c0
 obtain ⟨ad2, rfl, d0⟩ := Xs hC' 0 Z3
 obtain ⟨_, hq, d1⟩ := Xs hC' 1 Z3
 cases hq
 simp only [List.getElem_cons_zero, List.getElem_cons_succ] at d0 d1
 simp [Addr.add] at d0 d1
 have u0 := Aside0.mk d0
 replace d0 := (hB0.cell (World.block_lt_of_cell? w _ d0)).trans d0
 have u1 := Aside0.mk d1
 replace d1 := (hB0.cell (World.block_lt_of_cell? w _ d1)).trans d1
 have hk' := Aside0.mk hk
 replace hr := Aside0.mk hr
 clear hBz hB0 c0 h hc hn hk hC' hc' htl
 rcases w4 with ⟨w4, w5⟩ | w4
 all_goals
  go_enter Try.func28, Try.ntmps28
  go_wp2_with fail
  refine (Yp _ _).mono ?_
  rintro e w' ⟨rfl, rfl⟩
  rw [hk'.out]
  have l0 : (0 : Int) < (rest.length : Int) + 2 := by omega
  have l1 : (1 : Int) < (rest.length : Int) + 2 := by omega
  have l8 : decide ((rest.length : Int) + 2 < 1) = false := decide_eq_false Z0
  have l9 : decide ((rest.length : Int) + 2 < 2) = false := decide_eq_false Z0
  have hW : wrap64 b0 = b0 := IntWalk.wrap64_in _ ⟨Z0, Z0⟩
  have hV : wrap64 (wrap64 (b0 * 256) + wrap64 b1) = b0 * 256 + b1 := by
   rw [IntWalk.wrap64_in (b0 * 256) ⟨Z0, Z0⟩, IntWalk.wrap64_in b1 ⟨Z0, Z0⟩, IntWalk.wrap64_in _ ⟨Z0, Z0⟩]
  replace hV := Aside0.mk hV
  have hV2 : wrap64 (b0 * 256 + b1 - 65536) = b0 * 256 + b1 - 65536 := IntWalk.wrap64_in _ ⟨Z0, Z0⟩
  have hBx := Yc (Yc (Below.refl w.heap.size w) tz) (.cells #[.int .i64 f, .int .u32 0, .string ⟨#[]⟩, .int .i64 b0] 37)
  go_wp2_with fail
  refine Uk (ds := [9]) (S := fun W => W.cell? ad2 = some (.int .u8 b0) ∧ W.cell? ⟨ad2.block, ad2.off + 1, none⟩ = some (.int .u8 b1) ∧ W.cell? ⟨w.heap.size + 1, 3, none⟩ = some (.int .i64 b0)) Z2 rfl rfl ⟨(hBx.cell (World.block_lt_of_cell? w _ u0.out)).trans u0.out, (hBx.cell (World.block_lt_of_cell? w _ u1.out)).trans u1.out, (Ya (show (((w.alloc tz).alloc (.cells #[.int .i64 f, .int .u32 0, .string ⟨#[]⟩, .int .i64 b0] 37)).drew).heap[w.heap.size + 1]? = some (.cells #[.int .i64 f, .int .u32 0, .string ⟨#[]⟩, .int .i64 b0] 37) from Z22) 3 : _)⟩ (fun tb hS => ?_)
  refine seg_ [(0, 130), (1, 131), (2, 132), (3, 133), (4, 134), (5, 135), (6, 136), (7, 137), (8, 138)] tb hS Z2 (fun _ _ _ _ h => h) (a' := ?_) ?_ ?_
  rotate_left
  ·repeat (first | exact Seg.nil | (refine Seg.on (v := ?_) (a1 := ?_) rfl rfl Z7 ?_ ?_ ?_; rotate_left 2; (rintro w' hS; go_split_ands; go_simp; with_reducible rfl); (simp only [Act.put, List.setIfInBounds_toArray, List.set_cons_zero, List.set_cons_succ, YH, YJ]; rfl)))
  rw [hV.out]
  refine JL 9 tb rfl Z2 ?_
  clear hS
  go_wp2_with fail
  refine ql_ (end_ tb Z2 ?_)
  go_wp2_with fail
  have Q4 : (((w.alloc tz).alloc (.cells #[.int .i64 (f), .int .u32 (0), .string (⟨#[]⟩), .int .i64 (b0 * 256 + b1)] 37)).drew).heap[w.heap.size]? = some tz := Xh (Xa w tz) (.cells #[.int .i64 (f), .int .u32 (0), .string (⟨#[]⟩), .int .i64 (b0 * 256 + b1)] 37)
  have Q6 : (((w.alloc tz).alloc (.cells #[.int .i64 (f), .int .u32 (0), .string (⟨#[]⟩), .int .i64 (b0 * 256 + b1)] 37)).drew).heap[w.heap.size + 1]? = some (.cells #[.int .i64 (f), .int .u32 (0), .string (⟨#[]⟩), .int .i64 (b0 * 256 + b1)] 37) := by
   have := Xa (w.alloc tz) (.cells #[.int .i64 (f), .int .u32 (0), .string (⟨#[]⟩), .int .i64 (b0 * 256 + b1)] 37)
   rw [World.size_alloc] at this
   exact this
  replace Q4 := Aside0.mk Q4
  replace Q6 := Aside0.mk Q6
  have hB1 := Aside0.mk (YY (Yc (Yc (Below.refl w.heap.size w) tz) (.cells #[.int .i64 (f), .int .u32 (0), .string (⟨#[]⟩), .int .i64 (b0 * 256 + b1)] 37)))
  generalize (((w.alloc tz).alloc (.cells #[.int .i64 (f), .int .u32 (0), .string (⟨#[]⟩), .int .i64 (b0 * 256 + b1)] 37)).drew) = W2 at Q4 Q6 hB1 ⊢
  have e0 := Ya Q6.out 0
  have e1 := Ya Q6.out 1
  have e2 := Ya Q6.out 2
  have e3 := Ya Q6.out 3
  try go_wp2_with fail
  refine (hBy.out _).mono ?_
  rintro e w6 ⟨A6, c6, rfl, hB⟩
  have q4 := YQ Q4.out hB
  have q6 := YQ Q6.out hB
  have hB2 := Aside0.mk (hB1.out.trans (Below.mono hB hB1.out.size))
  replace e0 := Ya q6 0
  replace e1 := Ya q6 1
  replace e2 := Ya q6 2
  replace e3 := Ya q6 3
  have k0 := Ya q4 0
  have k1 := Ya q4 1
  have k2 := Ya q4 2
  have k3 := Ya q4 3
  have z0 := Yf q4 0
  have z1 := Yf q4 1
  have z2 := Yf q4 2
  have z3 := Yf q4 3
  have p1 := Aside0.mk (YM (YM (YM (YM q4 0 (.int .i64 (f)) rfl) 1 (.int .u32 (0)) rfl) 2 (.string (⟨#[]⟩)) rfl) 3 (.int .i64 (b0 * 256 + b1)) rfl)
  clear hB q4 q6
  go_wp2_with fail
  have r0 := Ya p1.out 0
  have r1 := Ya p1.out 1
  have r2 := Ya p1.out 2
  have r3 := Ya p1.out 3
  have hgl : w.heap.size ≤ w.heap.size := Nat.le_refl _
  exact bodyPost_ret (v := .tuple #[tv ⟨f, 0, ⟨#[]⟩, b0 * 256 + b1⟩, .int .i64 (tokB ⟨f, 0, ⟨#[]⟩, b0 * 256 + b1⟩ true).length]) ZC rfl ⟨rfl, (((hB2.out.setCell (p := ⟨w.heap.size, 0, none⟩) hgl _).setCell (p := ⟨w.heap.size, 1, none⟩) hgl _).setCell (p := ⟨w.heap.size, 2, none⟩) hgl _).setCell (p := ⟨w.heap.size, 3, none⟩) hgl _⟩
theorem one_4b (f b0 b1 : Int) (hs : f ≤ 255) (hq : decide (32768 ≤ b0 * 256 + b1) = true) (hb0 : 0 ≤ b0 ∧ b0 < 256) (hb1 : 0 ≤ b1 ∧ b1 < 256) (hr : rightP ⟨f, 0, ⟨#[]⟩, b0 * 256 + b1 - 65536⟩ true = true) (hk : Yr (f) = 4) (h : CB w A (f :: (b0 :: b1 :: rest))) (hc : rest.length + 2 + 1 ≤ c) :
 Calls Try.prog 28 #[.slice A (rest.length + 2 + 1) c, .bool true] w (VW ⟨f, 0, ⟨#[]⟩, b0 * 256 + b1 - 65536⟩ w) := by
 have htl : (b0 :: b1 :: rest).length = rest.length + 2 := by simp [YG] <;> omega
 have hcd : YP (f) = true := by unfold rightP at hr; simp only [Bool.and_eq_true] at hr; exact hr.1.1.1
 obtain ⟨w1, w2, w3, w4⟩ := Ya2 hcd hs
 have hBy := Aside0.mk (fun W => UW ⟨f, 0, ⟨#[]⟩, b0 * 256 + b1 - 65536⟩ ⟨Zg, Zg, ZK, (by have := of_decide_eq_true hq; simp only; omega)⟩ hr W)
 obtain ⟨ad, rfl, c0⟩ := Xs h 0 Z3
 simp [Addr.add] at c0
 obtain ⟨A', c', hcut, hC', hc'⟩ := VK h (c := c) ZH 1 Z3
 replace hcut : ∀ W, (Instr.slice 29 (.slice (some ad) (rest.length + 2 + 1) c) (some (.int .i64 1)) none none).run Try.prog W = .ok (.slice A' (rest.length + 2) c') W := fun W => by
  have := hcut W
  simp only [List.length_cons, htl] at this
  exact this
 rw [List.drop_succ_cons, List.drop_zero] at hC' hc'
 have hn := h.2.1
 simp only [List.length_cons, htl] at hn
 have f1 : (((rest.length + 2 : Nat) : Int) + 1 == 0) = false := beq_eq_false_iff_ne.2 Z0
 have hB0 := Yc (Yc (Below.refl w.heap.size w) tz) (.cells #[.int .i64 (f), .int .u32 0, .string ⟨#[]⟩, .int .i64 0] 37)
 have hBz := Yc (Yc (Below.refl w.heap.size w) tz) tz
 have c1 := (hBz.cell (World.block_lt_of_cell? w ad c0)).trans c0
 obtain ⟨ad2, rfl, d0⟩ := Xs hC' 0 Z3
 obtain ⟨_, hq, d1⟩ := Xs hC' 1 Z3
 cases hq
 simp only [List.getElem_cons_zero, List.getElem_cons_succ] at d0 d1
 simp [Addr.add] at d0 d1
 have u0 := Aside0.mk d0
 replace d0 := (hB0.cell (World.block_lt_of_cell? w _ d0)).trans d0
 have u1 := Aside0.mk d1
 replace d1 := (hB0.cell (World.block_lt_of_cell? w _ d1)).trans d1
 have hk' := Aside0.mk hk
 replace hr := Aside0.mk hr
 clear hBz hB0 c0 h hc hn hk hC' hc' htl
 rcases w4 with ⟨w4, w5⟩ | w4
 all_goals
  go_enter Try.func28, Try.ntmps28
  go_wp2_with fail
  refine (Yp _ _).mono ?_
  rintro e w' ⟨rfl, rfl⟩
  rw [hk'.out]
  have l0 : (0 : Int) < (rest.length : Int) + 2 := by omega
  have l1 : (1 : Int) < (rest.length : Int) + 2 := by omega
  have l8 : decide ((rest.length : Int) + 2 < 1) = false := decide_eq_false Z0
  have l9 : decide ((rest.length : Int) + 2 < 2) = false := decide_eq_false Z0
  have hW : wrap64 b0 = b0 := IntWalk.wrap64_in _ ⟨Z0, Z0⟩
  have hV : wrap64 (wrap64 (b0 * 256) + wrap64 b1) = b0 * 256 + b1 := by
   rw [IntWalk.wrap64_in (b0 * 256) ⟨Z0, Z0⟩, IntWalk.wrap64_in b1 ⟨Z0, Z0⟩, IntWalk.wrap64_in _ ⟨Z0, Z0⟩]
  replace hV := Aside0.mk hV
  have hV2 : wrap64 (b0 * 256 + b1 - 65536) = b0 * 256 + b1 - 65536 := IntWalk.wrap64_in _ ⟨Z0, Z0⟩
  have hBx := Yc (Yc (Below.refl w.heap.size w) tz) (.cells #[.int .i64 f, .int .u32 0, .string ⟨#[]⟩, .int .i64 b0] 37)
  go_wp2_with fail
  refine Uk (ds := [9]) (S := fun W => W.cell? ad2 = some (.int .u8 b0) ∧ W.cell? ⟨ad2.block, ad2.off + 1, none⟩ = some (.int .u8 b1) ∧ W.cell? ⟨w.heap.size + 1, 3, none⟩ = some (.int .i64 b0)) Z2 rfl rfl ⟨(hBx.cell (World.block_lt_of_cell? w _ u0.out)).trans u0.out, (hBx.cell (World.block_lt_of_cell? w _ u1.out)).trans u1.out, (Ya (show (((w.alloc tz).alloc (.cells #[.int .i64 f, .int .u32 0, .string ⟨#[]⟩, .int .i64 b0] 37)).drew).heap[w.heap.size + 1]? = some (.cells #[.int .i64 f, .int .u32 0, .string ⟨#[]⟩, .int .i64 b0] 37) from Z22) 3 : _)⟩ (fun tb hS => ?_)
  refine seg_ [(0, 130), (1, 131), (2, 132), (3, 133), (4, 134), (5, 135), (6, 136), (7, 137), (8, 138)] tb hS Z2 (fun _ _ _ _ h => h) (a' := ?_) ?_ ?_
  rotate_left
  ·repeat (first | exact Seg.nil | (refine Seg.on (v := ?_) (a1 := ?_) rfl rfl Z7 ?_ ?_ ?_; rotate_left 2; (rintro w' hS; go_split_ands; go_simp; with_reducible rfl); (simp only [Act.put, List.setIfInBounds_toArray, List.set_cons_zero, List.set_cons_succ, YH, YJ]; rfl)))
  rw [hV.out]
  refine JL 9 tb rfl Z2 ?_
  clear hS
  go_wp2_with fail
  refine ql_ (end_ tb Z2 ?_)
  go_wp2_with fail
  have Q4 : (((w.alloc tz).alloc (.cells #[.int .i64 (f), .int .u32 (0), .string (⟨#[]⟩), .int .i64 (b0 * 256 + b1 - 65536)] 37)).drew).heap[w.heap.size]? = some tz := Xh (Xa w tz) (.cells #[.int .i64 (f), .int .u32 (0), .string (⟨#[]⟩), .int .i64 (b0 * 256 + b1 - 65536)] 37)
  have Q6 : (((w.alloc tz).alloc (.cells #[.int .i64 (f), .int .u32 (0), .string (⟨#[]⟩), .int .i64 (b0 * 256 + b1 - 65536)] 37)).drew).heap[w.heap.size + 1]? = some (.cells #[.int .i64 (f), .int .u32 (0), .string (⟨#[]⟩), .int .i64 (b0 * 256 + b1 - 65536)] 37) := by
   have := Xa (w.alloc tz) (.cells #[.int .i64 (f), .int .u32 (0), .string (⟨#[]⟩), .int .i64 (b0 * 256 + b1 - 65536)] 37)
   rw [World.size_alloc] at this
   exact this
  replace Q4 := Aside0.mk Q4
  replace Q6 := Aside0.mk Q6
  have hB1 := Aside0.mk (YY (Yc (Yc (Below.refl w.heap.size w) tz) (.cells #[.int .i64 (f), .int .u32 (0), .string (⟨#[]⟩), .int .i64 (b0 * 256 + b1 - 65536)] 37)))
  generalize (((w.alloc tz).alloc (.cells #[.int .i64 (f), .int .u32 (0), .string (⟨#[]⟩), .int .i64 (b0 * 256 + b1 - 65536)] 37)).drew) = W2 at Q4 Q6 hB1 ⊢
  have e0 := Ya Q6.out 0
  have e1 := Ya Q6.out 1
  have e2 := Ya Q6.out 2
  have e3 := Ya Q6.out 3
  try go_wp2_with fail
  refine (hBy.out _).mono ?_
  rintro e w6 ⟨A6, c6, rfl, hB⟩
  have q4 := YQ Q4.out hB
  have q6 := YQ Q6.out hB
  have hB2 := Aside0.mk (hB1.out.trans (Below.mono hB hB1.out.size))
  replace e0 := Ya q6 0
  replace e1 := Ya q6 1
  replace e2 := Ya q6 2
  replace e3 := Ya q6 3
  have k0 := Ya q4 0
  have k1 := Ya q4 1
  have k2 := Ya q4 2
  have k3 := Ya q4 3
  have z0 := Yf q4 0
  have z1 := Yf q4 1
  have z2 := Yf q4 2
  have z3 := Yf q4 3
  have p1 := Aside0.mk (YM (YM (YM (YM q4 0 (.int .i64 (f)) rfl) 1 (.int .u32 (0)) rfl) 2 (.string (⟨#[]⟩)) rfl) 3 (.int .i64 (b0 * 256 + b1 - 65536)) rfl)
  clear hB q4 q6
  go_wp2_with fail
  have r0 := Ya p1.out 0
  have r1 := Ya p1.out 1
  have r2 := Ya p1.out 2
  have r3 := Ya p1.out 3
  have hgl : w.heap.size ≤ w.heap.size := Nat.le_refl _
  exact bodyPost_ret (v := .tuple #[tv ⟨f, 0, ⟨#[]⟩, b0 * 256 + b1 - 65536⟩, .int .i64 (tokB ⟨f, 0, ⟨#[]⟩, b0 * 256 + b1 - 65536⟩ true).length]) ZC rfl ⟨rfl, (((hB2.out.setCell (p := ⟨w.heap.size, 0, none⟩) hgl _).setCell (p := ⟨w.heap.size, 1, none⟩) hgl _).setCell (p := ⟨w.heap.size, 2, none⟩) hgl _).setCell (p := ⟨w.heap.size, 3, none⟩) hgl _⟩
theorem one_5 (f b0 b1 : Int) (hs : f ≤ 255) (hb0 : 0 ≤ b0 ∧ b0 < 256) (hb1 : 0 ≤ b1 ∧ b1 < 256) (hr : rightP ⟨f, b0 * 256 + b1, ⟨#[]⟩, 0⟩ true = true) (hk : Yr (f) = 5) (h : CB w A (f :: (b0 :: b1 :: rest))) (hc : rest.length + 2 + 1 ≤ c) :
 Calls Try.prog 28 #[.slice A (rest.length + 2 + 1) c, .bool true] w (VW ⟨f, b0 * 256 + b1, ⟨#[]⟩, 0⟩ w) := by
 have htl : (b0 :: b1 :: rest).length = rest.length + 2 := by simp [YG] <;> omega
 have hcd : YP (f) = true := by unfold rightP at hr; simp only [Bool.and_eq_true] at hr; exact hr.1.1.1
 obtain ⟨w1, w2, w3, w4⟩ := Ya2 hcd hs
 have hBy := Aside0.mk (fun W => UW ⟨f, b0 * 256 + b1, ⟨#[]⟩, 0⟩ ⟨Zg, Zg, ZK, Zg⟩ hr W)
 obtain ⟨ad, rfl, c0⟩ := Xs h 0 Z3
 simp [Addr.add] at c0
 obtain ⟨A', c', hcut, hC', hc'⟩ := VK h (c := c) ZH 1 Z3
 replace hcut : ∀ W, (Instr.slice 29 (.slice (some ad) (rest.length + 2 + 1) c) (some (.int .i64 1)) none none).run Try.prog W = .ok (.slice A' (rest.length + 2) c') W := fun W => by
  have := hcut W
  simp only [List.length_cons, htl] at this
  exact this
 rw [List.drop_succ_cons, List.drop_zero] at hC' hc'
 have hn := h.2.1
 simp only [List.length_cons, htl] at hn
 have f1 : (((rest.length + 2 : Nat) : Int) + 1 == 0) = false := beq_eq_false_iff_ne.2 Z0
 have hB0 := Yc (Yc (Below.refl w.heap.size w) tz) (.cells #[.int .i64 (f), .int .u32 0, .string ⟨#[]⟩, .int .i64 0] 37)
 have hBz := Yc (Yc (Below.refl w.heap.size w) tz) tz
 have c1 := (hBz.cell (World.block_lt_of_cell? w ad c0)).trans c0
 obtain ⟨ad2, rfl, d0⟩ := Xs hC' 0 Z3
 obtain ⟨_, hq, d1⟩ := Xs hC' 1 Z3
 cases hq
 simp only [List.getElem_cons_zero, List.getElem_cons_succ] at d0 d1
 simp [Addr.add] at d0 d1
 have u0 := Aside0.mk d0
 replace d0 := (hB0.cell (World.block_lt_of_cell? w _ d0)).trans d0
 have u1 := Aside0.mk d1
 replace d1 := (hB0.cell (World.block_lt_of_cell? w _ d1)).trans d1
 have hk' := Aside0.mk hk
 replace hr := Aside0.mk hr
 clear hBz hB0 c0 h hc hn hk hC' hc' htl
 rcases w4 with ⟨w4, w5⟩ | w4
 all_goals
  go_enter Try.func28, Try.ntmps28
  go_wp2_with fail
  refine (Yp _ _).mono ?_
  rintro e w' ⟨rfl, rfl⟩
  rw [hk'.out]
  have l0 : (0 : Int) < (rest.length : Int) + 2 := by omega
  have l1 : (1 : Int) < (rest.length : Int) + 2 := by omega
  have l9 : decide ((rest.length : Int) + 2 < 2) = false := decide_eq_false Z0
  have hV : IntKind.u32.wrap (IntKind.u32.wrap (IntKind.u32.wrap b0 * 256) + IntKind.u32.wrap b1) = b0 * 256 + b1 := by
   simp only [YdA]; omega
  replace hV := Aside0.mk hV
  go_wp2_with fail
  refine Uk (ds := [11]) (S := fun W => W.cell? ad2 = some (.int .u8 b0) ∧ W.cell? ⟨ad2.block, ad2.off + 1, none⟩ = some (.int .u8 b1)) Z2 rfl rfl ⟨d0, d1⟩ (fun tb hS => ?_)
  refine seg_ [(0, 155), (1, 156), (2, 157), (3, 158), (4, 159), (5, 160), (6, 161), (7, 162), (8, 163), (9, 164), (10, 165)] tb hS Z2 (fun _ _ _ _ h => h) (a' := ?_) ?_ ?_
  rotate_left
  ·repeat (first | exact Seg.nil | (refine Seg.on (v := ?_) (a1 := ?_) rfl rfl Z7 ?_ ?_ ?_; rotate_left 2; (rintro w' hS; go_split_ands; go_simp; with_reducible rfl); (simp only [Act.put, List.setIfInBounds_toArray, List.set_cons_zero, List.set_cons_succ, YH, YJ]; rfl)))
  rw [hV.out]
  refine JL 11 tb rfl Z2 ?_
  clear hS
  go_wp2_with fail
  refine ql_ (end_ tb Z2 ?_)
  have Q4 : (((w.alloc tz).alloc (.cells #[.int .i64 (f), .int .u32 (b0 * 256 + b1), .string (⟨#[]⟩), .int .i64 (0)] 37)).drew).heap[w.heap.size]? = some tz := Xh (Xa w tz) (.cells #[.int .i64 (f), .int .u32 (b0 * 256 + b1), .string (⟨#[]⟩), .int .i64 (0)] 37)
  have Q6 : (((w.alloc tz).alloc (.cells #[.int .i64 (f), .int .u32 (b0 * 256 + b1), .string (⟨#[]⟩), .int .i64 (0)] 37)).drew).heap[w.heap.size + 1]? = some (.cells #[.int .i64 (f), .int .u32 (b0 * 256 + b1), .string (⟨#[]⟩), .int .i64 (0)] 37) := by
   have := Xa (w.alloc tz) (.cells #[.int .i64 (f), .int .u32 (b0 * 256 + b1), .string (⟨#[]⟩), .int .i64 (0)] 37)
   rw [World.size_alloc] at this
   exact this
  replace Q4 := Aside0.mk Q4
  replace Q6 := Aside0.mk Q6
  have hB1 := Aside0.mk (YY (Yc (Yc (Below.refl w.heap.size w) tz) (.cells #[.int .i64 (f), .int .u32 (b0 * 256 + b1), .string (⟨#[]⟩), .int .i64 (0)] 37)))
  generalize (((w.alloc tz).alloc (.cells #[.int .i64 (f), .int .u32 (b0 * 256 + b1), .string (⟨#[]⟩), .int .i64 (0)] 37)).drew) = W2 at Q4 Q6 hB1 ⊢
  have e0 := Ya Q6.out 0
  have e1 := Ya Q6.out 1
  have e2 := Ya Q6.out 2
  have e3 := Ya Q6.out 3
  try go_wp2_with fail
  refine (hBy.out _).mono ?_
  rintro e w6 ⟨A6, c6, rfl, hB⟩
  have q4 := YQ Q4.out hB
  have q6 := YQ Q6.out hB
  have hB2 := Aside0.mk (hB1.out.trans (Below.mono hB hB1.out.size))
  replace e0 := Ya q6 0
  replace e1 := Ya q6 1
  replace e2 := Ya q6 2
  replace e3 := Ya q6 3
  have k0 := Ya q4 0
  have k1 := Ya q4 1
  have k2 := Ya q4 2
  have k3 := Ya q4 3
  have z0 := Yf q4 0
  have z1 := Yf q4 1
  have z2 := Yf q4 2
  have z3 := Yf q4 3
  have p1 := Aside0.mk (YM (YM (YM (YM q4 0 (.int .i64 (f)) rfl) 1 (.int .u32 (b0 * 256 + b1)) rfl) 2 (.string (⟨#[]⟩)) rfl) 3 (.int .i64 (0)) rfl)
  clear hB q4 q6
  go_wp2_with fail
  have r0 := Ya p1.out 0
  have r1 := Ya p1.out 1
  have r2 := Ya p1.out 2
  have r3 := Ya p1.out 3
  have hgl : w.heap.size ≤ w.heap.size := Nat.le_refl _
  exact Z2C
theorem one_6 (f : Int) (s : ByteArray) (hs : f ≤ 255) (hsz : s.size ≤ 255) (b0 b1 : Int) (hb0 : 0 ≤ b0 ∧ b0 < 256) (hb1 : 0 ≤ b1 ∧ b1 < 256) (hr : rightP ⟨f, b0 * 256 + b1, s, 0⟩ true = true) (hk : Yr (f) = 6) (h : CB w A (f :: ((s.size : Int) :: (Xl s ++ b0 :: b1 :: rest)))) (hc : rest.length + s.size + 3 + 1 ≤ c) :
 Calls Try.prog 28 #[.slice A (rest.length + s.size + 3 + 1) c, .bool true] w (VW ⟨f, b0 * 256 + b1, s, 0⟩ w) := by
 have htl : ((s.size : Int) :: (Xl s ++ b0 :: b1 :: rest)).length = rest.length + s.size + 3 := by simp [YG] <;> omega
 have hcd : YP (f) = true := by unfold rightP at hr; simp only [Bool.and_eq_true] at hr; exact hr.1.1.1
 obtain ⟨w1, w2, w3, w4⟩ := Ya2 hcd hs
 have hBy := Aside0.mk (fun W => UW ⟨f, b0 * 256 + b1, s, 0⟩ ⟨Zg, Zg, Zg, Zg⟩ hr W)
 obtain ⟨ad, rfl, c0⟩ := Xs h 0 Z3
 simp [Addr.add] at c0
 obtain ⟨A', c', hcut, hC', hc'⟩ := VK h (c := c) ZH 1 Z3
 replace hcut : ∀ W, (Instr.slice 29 (.slice (some ad) (rest.length + s.size + 3 + 1) c) (some (.int .i64 1)) none none).run Try.prog W = .ok (.slice A' (rest.length + s.size + 3) c') W := fun W => by
  have := hcut W
  simp only [List.length_cons, htl] at this
  exact this
 rw [List.drop_succ_cons, List.drop_zero] at hC' hc'
 have hn := h.2.1
 simp only [List.length_cons, htl] at hn
 have f1 : (((rest.length + s.size + 3 : Nat) : Int) + 1 == 0) = false := beq_eq_false_iff_ne.2 Z0
 have hB0 := Yc (Yc (Below.refl w.heap.size w) tz) (.cells #[.int .i64 (f), .int .u32 0, .string ⟨#[]⟩, .int .i64 0] 37)
 have hBz := Yc (Yc (Below.refl w.heap.size w) tz) tz
 have c1 := (hBz.cell (World.block_lt_of_cell? w ad c0)).trans c0
 obtain ⟨ad2, rfl, d0⟩ := Xs hC' 0 Z3
 simp only [List.getElem_cons_zero] at d0
 simp [Addr.add] at d0
 replace d0 := (hB0.cell (World.block_lt_of_cell? w _ d0)).trans d0
 obtain ⟨A3, c3, hcut3, hC3, -⟩ := cb_mid hC' hc' 1 (1 + s.size) Z0 Z11
 rw [htl] at hcut3
 replace hcut3 : ∀ W, (Instr.slice 29 (.slice (some ad2) (rest.length + s.size + 3) c') (some (.int .i64 1)) (some (.int .i64 (1 + (s.size : Int)))) none).run Try.prog W = .ok (.slice A3 s.size c3) W := fun W => by
  have := hcut3 W
  rw [show 1 + s.size - 1 = s.size by omega, show ((1 + s.size : Nat) : Int) = 1 + (s.size : Int) by omega] at this
  exact this
 have e3 : List.drop 1 (List.take (1 + s.size) ((s.size : Int) :: (Xl s ++ b0 :: b1 :: rest))) = Xl s := by
  rw [Nat.add_comm 1 s.size, List.take_succ_cons, List.drop_succ_cons, List.drop_zero, List.take_left' (YG s)]
 rw [e3] at hC3
 have hcv : (convert 29 9 (.slice A3 s.size c3)).run Try.prog ((w.alloc tz).alloc (.cells #[.int .i64 (f), .int .u32 0, .string ⟨#[]⟩, .int .i64 0] 37)) = .ok (.string s) ((w.alloc tz).alloc (.cells #[.int .i64 (f), .int .u32 0, .string ⟨#[]⟩, .int .i64 0] 37)) := by
  have := Kd.C_string (src := 29) (dst := 9) (c := c3) Try.underlying29 Try.underlying5 Try.underlying9 (Kd.C_below hC3 hB0)
  rw [YG, YbY] at this
  exact this
 obtain ⟨_, hq, d1⟩ := Xs hC' (s.size + 1) Z11
 cases hq
 obtain ⟨_, hq, d2⟩ := Xs hC' (s.size + 2) Z11
 cases hq
 have g1 : ((s.size : Int) :: (Xl s ++ b0 :: b1 :: rest))[s.size + 1]'Z11 = b0 := by simp [List.getElem_append_right, YG]
 have g2 : ((s.size : Int) :: (Xl s ++ b0 :: b1 :: rest))[s.size + 2]'Z11 = b1 := by simp [List.getElem_append_right, YG]
 rw [g1] at d1
 rw [g2] at d2
 replace d1 : w.cell? ⟨ad2.block, ad2.off + (s.size + 1), none⟩ = some (.int .u8 b0) := by simpa [Addr.add] using d1
 replace d2 : w.cell? ⟨ad2.block, ad2.off + (s.size + 2), none⟩ = some (.int .u8 b1) := by simpa [Addr.add] using d2
 have u1 := Aside0.mk d1
 have u2 := Aside0.mk d2
 clear d1 d2 g1 g2
 have hk' := Aside0.mk hk
 replace hr := Aside0.mk hr
 clear hBz hB0 c0 h hc hn hk hC' hc' htl
 rcases w4 with ⟨w4, w5⟩ | w4
 all_goals
  go_enter Try.func28, Try.ntmps28
  go_wp2_with fail
  refine (Yp _ _).mono ?_
  rintro e w' ⟨rfl, rfl⟩
  rw [hk'.out]
  have l0 : (0 : Int) < (rest.length : Int) + s.size + 3 := by omega
  have l1 : decide ((rest.length : Int) + s.size + 3 < 1) = false := decide_eq_false Z0
  have l2 : decide ((rest.length : Int) + s.size + 3 < 1 + (s.size : Int)) = false := decide_eq_false Z0
  have hW : wrap64 (s.size : Int) = (s.size : Int) := IntWalk.wrap64_in _ ⟨Z0, Z0⟩
  have hW2 : wrap64 (1 + (s.size : Int)) = 1 + (s.size : Int) := IntWalk.wrap64_in _ ⟨Z0, Z0⟩
  go_wp2_with fail
  refine (Yp _ _).mono ?_
  rintro e w' ⟨rfl, rfl⟩
  rw [hk'.out]
  have l3 : decide ((rest.length : Int) + s.size + 3 < 1 + (s.size : Int) + 2) = false := decide_eq_false Z0
  have hW3 : wrap64 (1 + (s.size : Int) + 2) = 1 + (s.size : Int) + 2 := IntWalk.wrap64_in _ ⟨Z0, Z0⟩
  have hV : IntKind.u32.wrap (IntKind.u32.wrap (IntKind.u32.wrap b0 * 256) + IntKind.u32.wrap b1) = b0 * 256 + b1 := by
   simp only [YdA]; omega
  replace hV := Aside0.mk hV
  have hBx := Yc (Yc (Below.refl w.heap.size w) tz) (.cells #[.int .i64 f, .int .u32 0, .string s, .int .i64 0] 37)
  go_wp2_with fail
  have l4 : 1 + (s.size : Int) < (rest.length : Int) + s.size + 3 := by omega
  have l5 : 1 + (s.size : Int) + 1 < (rest.length : Int) + s.size + 3 := by omega
  have l6 : (0 : Int) ≤ 1 + (s.size : Int) := by omega
  have l7 : (0 : Int) ≤ 1 + (s.size : Int) + 1 := by omega
  have t1 : (1 + (s.size : Int)).toNat = s.size + 1 := by omega
  have t2 : (1 + (s.size : Int) + 1).toNat = s.size + 2 := by omega
  have hW4 : wrap64 (1 + (s.size : Int) + 1) = 1 + (s.size : Int) + 1 := IntWalk.wrap64_in _ ⟨Z0, Z0⟩
  refine Uk (ds := [14]) (S := fun W => W.cell? ⟨ad2.block, ad2.off + (s.size + 1), none⟩ = some (.int .u8 b0) ∧ W.cell? ⟨ad2.block, ad2.off + (s.size + 2), none⟩ = some (.int .u8 b1)) Z2 rfl rfl ⟨(hBx.cell (World.block_lt_of_cell? w _ u1.out)).trans u1.out, (hBx.cell (World.block_lt_of_cell? w _ u2.out)).trans u2.out⟩ (fun tb hS => ?_)
  refine seg_ [(0, 203), (1, 204), (2, 205), (3, 206), (4, 207), (5, 208), (6, 209), (7, 210), (8, 211), (9, 212), (10, 213), (11, 214), (12, 215), (13, 216)] tb hS Z2 (fun _ _ _ _ h => h) (a' := ?_) ?_ ?_
  rotate_left
  ·repeat (first | exact Seg.nil | (refine Seg.on (v := ?_) (a1 := ?_) rfl rfl Z7 ?_ ?_ ?_; rotate_left 2; (rintro w' hS; go_split_ands; go_simp; with_reducible rfl); (simp only [Act.put, List.setIfInBounds_toArray, List.set_cons_zero, List.set_cons_succ, YH, YJ]; rfl)))
  rw [hV.out]
  refine JL 14 tb rfl Z2 ?_
  clear hS
  go_wp2_with fail
  refine ql_ (end_ tb Z2 ?_)
  have Q4 : (((w.alloc tz).alloc (.cells #[.int .i64 (f), .int .u32 (b0 * 256 + b1), .string (s), .int .i64 (0)] 37)).drew).heap[w.heap.size]? = some tz := Xh (Xa w tz) (.cells #[.int .i64 (f), .int .u32 (b0 * 256 + b1), .string (s), .int .i64 (0)] 37)
  have Q6 : (((w.alloc tz).alloc (.cells #[.int .i64 (f), .int .u32 (b0 * 256 + b1), .string (s), .int .i64 (0)] 37)).drew).heap[w.heap.size + 1]? = some (.cells #[.int .i64 (f), .int .u32 (b0 * 256 + b1), .string (s), .int .i64 (0)] 37) := by
   have := Xa (w.alloc tz) (.cells #[.int .i64 (f), .int .u32 (b0 * 256 + b1), .string (s), .int .i64 (0)] 37)
   rw [World.size_alloc] at this
   exact this
  replace Q4 := Aside0.mk Q4
  replace Q6 := Aside0.mk Q6
  have hB1 := Aside0.mk (YY (Yc (Yc (Below.refl w.heap.size w) tz) (.cells #[.int .i64 (f), .int .u32 (b0 * 256 + b1), .string (s), .int .i64 (0)] 37)))
  generalize (((w.alloc tz).alloc (.cells #[.int .i64 (f), .int .u32 (b0 * 256 + b1), .string (s), .int .i64 (0)] 37)).drew) = W2 at Q4 Q6 hB1 ⊢
  have e0 := Ya Q6.out 0
  have e1 := Ya Q6.out 1
  have e2 := Ya Q6.out 2
  have e3 := Ya Q6.out 3
  try go_wp2_with fail
  refine (hBy.out _).mono ?_
  rintro e w6 ⟨A6, c6, rfl, hB⟩
  have q4 := YQ Q4.out hB
  have q6 := YQ Q6.out hB
  have hB2 := Aside0.mk (hB1.out.trans (Below.mono hB hB1.out.size))
  replace e0 := Ya q6 0
  replace e1 := Ya q6 1
  replace e2 := Ya q6 2
  replace e3 := Ya q6 3
  have k0 := Ya q4 0
  have k1 := Ya q4 1
  have k2 := Ya q4 2
  have k3 := Ya q4 3
  have z0 := Yf q4 0
  have z1 := Yf q4 1
  have z2 := Yf q4 2
  have z3 := Yf q4 3
  have p1 := Aside0.mk (YM (YM (YM (YM q4 0 (.int .i64 (f)) rfl) 1 (.int .u32 (b0 * 256 + b1)) rfl) 2 (.string (s)) rfl) 3 (.int .i64 (0)) rfl)
  clear hB q4 q6
  go_wp2_with fail
  have r0 := Ya p1.out 0
  have r1 := Ya p1.out 1
  have r2 := Ya p1.out 2
  have r3 := Ya p1.out 3
  have hgl : w.heap.size ≤ w.heap.size := Nat.le_refl _
  exact bodyPost_ret (v := .tuple #[tv ⟨f, b0 * 256 + b1, s, 0⟩, .int .i64 (tokB ⟨f, b0 * 256 + b1, s, 0⟩ true).length]) ZC rfl ⟨rfl, (((hB2.out.setCell (p := ⟨w.heap.size, 0, none⟩) hgl _).setCell (p := ⟨w.heap.size, 1, none⟩) hgl _).setCell (p := ⟨w.heap.size, 2, none⟩) hgl _).setCell (p := ⟨w.heap.size, 3, none⟩) hgl _⟩
end
section
variable {w : World} {A : Option Addr} {c : Nat} {rest : List Int}
theorem VT {f : Int} (h : Yr f ≠ 0) : 16 ≤ f ∧ f ≤ 255 := by
 unfold Yr at h
 repeat' split at h
 all_goals first | omega | exact absurd rfl h
theorem Ju {s : ByteArray} (h : s.toList = []) : s = ⟨#[]⟩ := by
 obtain ⟨⟨l⟩⟩ := s
 rw [ByteArray.toList_eq] at h
 simp at h
 subst h
 rfl
theorem one_calls {t : Tk} (hr : rightP t true = true) (hf : Fits t) (h : CB w A (tokB t true ++ rest)) (hc : (tokB t true ++ rest).length ≤ c) :
 Calls Try.prog 28 #[.slice A (tokB t true ++ rest).length c, .bool true] w (VW t w) := by
 obtain ⟨f, n, s, o⟩ := t
 have hq := hr
 unfold rightP at hq
 simp only [Bool.and_eq_true, Bool.or_eq_true, decide_eq_true_eq] at hq
 obtain ⟨⟨⟨hcd, ho⟩, hs⟩, hx⟩ := hq
 have hf0 : 0 ≤ f ∧ f ≤ 4095 := hf.f0
 have hf1 : 0 ≤ n ∧ n < 4294967296 := hf.f1
 have hone : Yr f ≠ 0 → codeB f = [f] := fun hk => by
  have := VT hk
  unfold codeB
  rw [if_neg Z0, show f % 256 = f by omega]
 rcases behindP_all f with hk | hk | hk | hk | hk | hk | hk
 ·rw [hk] at ho hs hx
  simp at ho hs hx
  subst ho hx
  obtain rfl := Ju hs
  by_cases h2 : f ≤ 255
  ·have e : tokB ⟨f, 0, ⟨#[]⟩, 0⟩ true ++ rest = f :: rest := by unfold tokB codeB; simp only [hk]; rw [if_neg Z0, show f % 256 = f by omega]; simp
   rw [e] at h hc ⊢
   exact one_0 f h2 hr hk h hc
  ·have e : tokB ⟨f, 0, ⟨#[]⟩, 0⟩ true ++ rest = f / 256 % 256 :: f % 256 :: rest := by unfold tokB codeB; simp only [hk]; rw [if_pos Z0]; simp
   rw [e, show f / 256 % 256 = f / 256 by omega] at h hc ⊢
   have := one_0b (w := w) (A := A) (c := c) (rest := rest) (f / 256) (f % 256) Z0 Z0
   rw [show f / 256 * 256 + f % 256 = f by omega] at this
   exact this hr hk h hc
 ·have e1 := hone Z0
  have hb := VT (show Yr f ≠ 0 by omega)
  rw [hk] at ho hs hx
  simp at ho hs
  subst ho
  obtain rfl := Ju hs
  have e : tokB ⟨f, n, ⟨#[]⟩, 0⟩ true ++ rest = f :: n / 16777216 :: n / 65536 % 256 :: n / 256 % 256 :: n % 256 :: rest := by
   unfold tokB; simp only [hk, e1, twoB]; simp; omega
  rw [e] at h hc ⊢
  have := one_1 (w := w) (A := A) (c := c) (rest := rest) f (n / 16777216) (n / 65536 % 256) (n / 256 % 256) (n % 256) Z0 Z0 Z0 Z0 Z0
  rw [show ((n / 16777216 * 256 + n / 65536 % 256) * 256 + n / 256 % 256) * 256 + n % 256 = n by omega] at this
  exact this hr hk h hc
 ·have e1 := hone Z0
  have hb := VT (show Yr f ≠ 0 by omega)
  rw [hk] at ho hs hx
  simp at ho hs hx
  subst ho
  obtain rfl := Ju hs
  by_cases h2 : n ≤ 255
  ·have e : tokB ⟨f, n, ⟨#[]⟩, 0⟩ true ++ rest = f :: n :: rest := by
    unfold tokB; simp only [hk, e1]; unfold codeB; rw [if_neg (show ¬ 255 < n by omega), show n % 256 = n by omega]; simp
   rw [e] at h hc ⊢
   exact one_2 f n Z0 (Ya2 hx.2 h2).2.2.2 Z0 hr hk h hc
  ·have e : tokB ⟨f, n, ⟨#[]⟩, 0⟩ true ++ rest = f :: n / 256 :: n % 256 :: rest := by
    unfold tokB; simp only [hk, e1]; unfold codeB; rw [if_pos (show 255 < n by omega), show n / 256 % 256 = n / 256 by omega]; simp
   rw [e] at h hc ⊢
   have := one_2b (w := w) (A := A) (c := c) (rest := rest) f (n / 256) (n % 256) Z0 (decide_eq_true Z0) (decide_eq_true Z0) Z0 Z0
   rw [show n / 256 * 256 + n % 256 = n by omega] at this
   exact this hr hk h hc
 ·have e1 := hone Z0
  have hb := VT (show Yr f ≠ 0 by omega)
  rw [hk] at ho hs hx
  simp at ho hs hx
  obtain ⟨rfl, hsz⟩ := hx
  subst ho
  have e : tokB ⟨f, 0, s, 0⟩ true ++ rest = f :: (s.size : Int) :: (Xl s ++ rest) := by
   unfold tokB; simp only [hk, e1, textB]; simp; omega
  have el : (f :: (s.size : Int) :: (Xl s ++ rest)).length = rest.length + s.size + 1 + 1 := by simp [YG]; omega
  rw [e] at h hc ⊢
  rw [el] at hc ⊢
  exact one_3 f s Z0 Z0 hr hk h hc
 ·have e1 := hone Z0
  have hb := VT (show Yr f ≠ 0 by omega)
  rw [hk] at ho hs hx
  simp at ho hs hx
  obtain ⟨⟨rfl, h1⟩, h2⟩ := hx
  obtain rfl := Ju hs
  have e : tokB ⟨f, 0, ⟨#[]⟩, o⟩ true ++ rest = f :: o / 256 % 256 :: o % 256 :: rest := by
   unfold tokB; simp only [hk, e1, twoB]; simp
  rw [e] at h hc ⊢
  by_cases h3 : 0 ≤ o
  ·have := one_4 (w := w) (A := A) (c := c) (rest := rest) f (o / 256 % 256) (o % 256) Z0 (decide_eq_false Z0) Z0 Z0
   rw [show o / 256 % 256 * 256 + o % 256 = o by omega] at this
   exact this hr hk h hc
  ·have := one_4b (w := w) (A := A) (c := c) (rest := rest) f (o / 256 % 256) (o % 256) Z0 (decide_eq_true Z0) Z0 Z0
   rw [show o / 256 % 256 * 256 + o % 256 - 65536 = o by omega] at this
   exact this hr hk h hc
 ·have e1 := hone Z0
  have hb := VT (show Yr f ≠ 0 by omega)
  rw [hk] at ho hs hx
  simp at ho hs hx
  subst ho
  obtain rfl := Ju hs
  have e : tokB ⟨f, n, ⟨#[]⟩, 0⟩ true ++ rest = f :: n / 256 :: n % 256 :: rest := by
   unfold tokB; simp only [hk, e1, twoB]; simp; omega
  rw [e] at h hc ⊢
  have := one_5 (w := w) (A := A) (c := c) (rest := rest) f (n / 256) (n % 256) Z0 Z0 Z0
  rw [show n / 256 * 256 + n % 256 = n by omega] at this
  exact this hr hk h hc
 ·have e1 := hone Z0
  have hb := VT (show Yr f ≠ 0 by omega)
  rw [hk] at ho hs hx
  simp at ho hs hx
  subst ho
  have e : tokB ⟨f, n, s, 0⟩ true ++ rest = f :: (s.size : Int) :: (Xl s ++ n / 256 :: n % 256 :: rest) := by
   unfold tokB; simp only [hk, e1, textB, twoB]; simp; omega
  have el : (f :: (s.size : Int) :: (Xl s ++ n / 256 :: n % 256 :: rest)).length = rest.length + s.size + 3 + 1 := by simp [YG]; omega
  rw [e] at h hc ⊢
  rw [el] at hc ⊢
  have := one_6 (w := w) (A := A) (c := c) (rest := rest) f s Z0 Z0 (n / 256) (n % 256) Z0 Z0
  rw [show n / 256 * 256 + n % 256 = n by omega] at this
  exact this hr hk h hc
end
theorem row_app {ops : Array Oper} {rest : List Oper} {q : Oper} {a : Act} {Q : Exit → Act → World → Prop} {base : Nat} {w0 w : World} {v : Value} {l : List S37} {s x : Operand} (hR : Kd.R k37 37 w base (fun _ => True) v l) (hB : Below base w0 w) (hbb : base ≤ w.heap.size) (hl : l.length < 1000000) (t : S37)
 (hgd : q.guard = none) (hq : q.op = .call { callee := .builtin .append, args := #[s, x], argTypes := #[23, 23] }) (hs : a.eval s = v) {g : Nat} (hg : w.heap.size = g) (hx : a.eval x = .slice (some ⟨g, 0, none⟩) 1 1)
 (k : ∀ v w', Kd.R k37 37 w' base (fun _ => True) v (l ++ [t]) → Below base w0 w' → wpList Try.prog ops Q rest (a.put q.dst v) w') : wpList Try.prog ops Q (q :: rest) a (w.alloc (.cells #[.int .i64 t.f0, .int .u32 t.f1, .string t.f2, .int .i64 t.f3] 37)) := by
 subst hg
 refine Kd.R_append k37 (w0 := w0) (W := w) base hgd s x 23 37 _ 40 hq Try.underlying23 info37 rfl Z1 Z1 v l t [.int .i64 t.f0, .int .u32 t.f1, .string t.f2, .int .i64 t.f3] (fun _ => True) (fun _ => False) hs hx (YbI _ _ _ _) (fun _ hk => hk.elim) (fun _ _ => trivial) hR hB hbb Z0 ?_
 intro v w' hR hB hg _
 exact k v w' hR hB
theorem Ybo {t : Tk} : 1 ≤ (tokB t true).length := by
 unfold tokB codeB
 rw [List.length_append]
 split <;> simp <;> omega
theorem nat_ne0 {M : Nat} (h : 1 ≤ M) : ((M : Int) == 0) = false := beq_eq_false_iff_ne.2 Z0
theorem YcZ (l : List Tk) {k : Nat} (h : k < l.length) : bytesL (l.drop k) = tokB l[k] true ++ bytesL (l.drop (k + 1)) := by
 unfold bytesL
 rw [List.drop_eq_getElem_cons h, List.flatMap_cons]
theorem Ycq (l : List Tk) (k : Nat) : bytesL l = bytesL (l.take k) ++ bytesL (l.drop k) := by
 unfold bytesL
 rw [← List.flatMap_append, List.take_append_drop]
theorem Ycn (l : List S37) (hl : Right l) (hL : (bytesL l).length ≤ 8184) (A0 : Option Addr) (c0 : Nat) (w : World) (hC : CB w A0 (bytesL l)) (hc : (bytesL l).length ≤ c0) :
 Calls Try.prog 13 #[.slice A0 (bytesL l).length c0, .bool true] w fun e w' => ∃ v, e = .returned (.tuple #[v, .int .i64 0]) ∧ Kd.R k37 37 w' w.heap.size (fun _ => True) v l ∧ Below w.heap.size w w' := by
 have hR' := Aside0.mk hl
 have hC' := Aside0.mk hC
 obtain ⟨b, hb⟩ : ∃ b, bytesL l = b := ⟨_, rfl⟩
 have hbs := Aside0.mk (Ybp hl.rt)
 have hbl : (b.length : Int) = sumP l l.length := by rw [← hb, ← Ybp hl.rt, List.take_length]
 rw [hb] at hC' hc hL ⊢
 replace hb := Aside0.mk hb
 replace hbl := Aside0.mk hbl
 replace hc := Aside0.mk hc
 have f1 : decide (8192 < (b.length : Int)) = false := decide_eq_false Z0
 have hll := Aside0.mk (show l.length ≤ 8184 by
  have : ∀ q : List Tk, q.length ≤ (bytesL q).length := fun q => by
   induction q with
   | nil => simp [bytesL]
   | cons t r ih => have := Ybo (t := t); unfold bytesL at *; simp only [List.flatMap_cons, List.length_append, List.length_cons]; omega
  have := this l
  rw [hb.out] at this
  omega)
 have hL' := Aside0.mk hL
 clear hl hC hL
 go_enter Try.func13, Try.ntmps13
 go_wp2_with fail
 go_loopg [6, 7, 1] l.length (fun gg s6 s7 s1 wr => ∃ (kk : Nat) (v : Value), kk ≤ l.length ∧ l.length - kk ≤ gg ∧ s6 = v ∧ s7 = .int .i64 (sumP l kk) ∧ s1 = .bool true ∧ Aside0 (Below w.heap.size w wr) ∧ Aside0 (Kd.R k37 37 wr w.heap.size (fun _ => True) v (l.take kk)))
 case atStart => exact ⟨0, _, Nat.zero_le _, Z0, rfl, (by simp [sumP]), rfl, ⟨Below.refl _ _⟩, ⟨Kd.R_nil _ _ _ _ _⟩⟩
 case round =>
  obtain ⟨kk, v, hkk, hg, rfl, rfl, rfl, HB, HR⟩ := hrel
  have hsb := Uw l kk
  have hsm := Vp l hkk
  by_cases hlt : kk < l.length
  ·have hs1 := VS l kk hlt
   have hm1 := Vp l (show kk + 1 ≤ l.length by omega)
   have hrt := hR'.out.rt _ (List.getElem_mem hlt)
   have hft := Aside0.mk (hR'.out.fit _ (List.getElem_mem hlt))
   have hsz : XH l[kk] = (tokB l[kk] true).length := by unfold XH; rw [if_pos hrt]
   have hpos := Ybo (t := l[kk])
   obtain ⟨n, hn⟩ : ∃ n : Nat, sumP l kk = n := ⟨(sumP l kk).toNat, Z0⟩
   have htk := Aside0.mk (show l.take (kk + 1) = l.take kk ++ [l[kk]] by rw [List.take_append_getElem])
   have hdr : b.drop n = tokB l[kk] true ++ bytesL (l.drop (kk + 1)) := by
    rw [← YcZ l hlt, ← hb.out, Ycq l kk, List.drop_left' (by have := hbs.out kk; omega)]
   have hbl2 := hbl.out
   obtain ⟨A1, c1, hcut, hC1, hc1⟩ := VK (Kd.C_below hC'.out HB.out) hc.out n Z0
   have hdl : b.length - n = (b.drop n).length := List.length_drop.symm
   rw [hdl] at hcut
   rw [hdr] at hC1 hc1 hcut
   have hgk := Aside0.mk (show l.length - (kk + 1) < gk ∧ kk + 1 ≤ l.length by omega)
   have hO := Aside0.mk (one_calls hrt hft.out hC1 hc1)
   have hlt2 : n < b.length := by omega
   have hw : wrap64 ((n : Int) + ((tokB l[kk] true).length : Int)) = sumP l (kk + 1) := by have := hL'.out; rw [IntWalk.wrap64_in _ ⟨Z0, Z0⟩]; omega
   have hne := nat_ne0 hpos
   have htl := Aside0.mk (show (l.take kk).length < 1000000 by rw [List.length_take]; have := hll.out; omega)
   rw [hn]
   replace hs1 := Aside0.mk hs1
   clear hdr hC1 hc1 hdl hbl2 hsz hpos hsb hsm hm1 hrt hg
   unfold VW at hO
   generalize l[kk] = t at hs1 hft htk hO hw hne hcut
   generalize (tokB t true ++ bytesL (l.drop (kk + 1))).length = N at hO hcut
   generalize (tokB t true).length = M at hO hw hne
   go_wp2_with fail
   refine hO.out.mono ?_
   rintro e w2 ⟨rfl, hB2⟩
   have hB3 := HB.out.trans (Below.mono hB2 HB.out.size)
   have hR3 := Kd.R_below HR.out hB2
   have hBb := Yc (Below.refl w2.heap.size w2) (.cells #[.int .i64 t.f0, .int .u32 t.f1, .string t.f2, .int .i64 t.f3] 37)
   have hR4 := Aside0.mk (Kd.R_below hR3 hBb)
   have hB4 := Aside0.mk (hB3.trans (Below.mono hBb hB3.size))
   have hsz4 := Aside0.mk (Nat.le_trans hB3.size hBb.size)
   clear hB2 hB3 hR3 hBb
   go_wp2_with (at_builtin; refine row_app hR4.out hB4.out hsz4.out htl.out t rfl rfl rfl (World.size_alloc _ _) rfl ?_)
   intro v5 w5 hR5 hB5
   have hB6 := Aside0.mk hB5
   have hR6 := Aside0.mk hR5
   rw [← htk.out] at hR6
   clear hB5 hR5
   go_wp2_with fail
   go_roundg (l.length - (kk + 1))
   case measure => exact hgk.out.1
   case rel => exact ⟨kk + 1, _, hgk.out.2, Nat.le_refl _, rfl, (by rw [hw]), Z1r, hB6, hR6⟩
  ·have hkk2 : kk = l.length := by omega
   subst hkk2
   have hb2 := hbl.out
   have hlt2 : decide (sumP l l.length < (b.length : Int)) = false := decide_eq_false Z0
   have hR7 := HR.out
   rw [List.take_length] at hR7
   replace hR7 := Aside0.mk hR7
   clear hg hb2 hsb hsm
   go_wp2_with fail
   exact bodyPost_ret (v := .tuple #[_, .int .i64 0]) (by simp [results, Try.results13, go_sem]) rfl ⟨_, rfl, hR7.out, HB.out⟩
end Go.Proofs.Ytehmhgpogpbjiaa.Fcc
namespace Go.Proofs.Ytehmhgpogpbjiaa.PFccTokens
open Go.RowKit Go.Proofs.YtehmhgpogpbjiaaW.PrintWords Go.Proofs.YtehmhgpogpbjiaaW.PrintLast Go.Proofs.YtehmhgpogpbjiaaW.PrintMore
attribute [local go_sem] Vx Vv VV VU Ve Vd Vw Vu
theorem eqA37 (d : Nat) (w : World) (x0 y0 : Int) (x1 y1 : Int) (x2 y2 : ByteArray) (x3 y3 : Int) :
 (Op.equalIn (d + 2) 37 (.agg #[.int .i64 x0, .int .u32 x1, .string x2, .int .i64 x3]) (.agg #[.int .i64 y0, .int .u32 y1, .string y2, .int .i64 y3])).run Try.prog w = .ok (x0 == y0 && (x1 == y1 && (x2.toList == y2.toList && (x3 == y3)))) w := by
 refine eqA_of Try.underlying37 Z2 ?_
 refine YbO Z7 ZN ZN (by go_simp) ?_
 refine YbO Z7 ZN ZN (by go_simp) ?_
 refine YbO Z7 ZN ZN (by go_simp) ?_
 exact eqf_last Z7 ZN ZN (by go_simp)
end Go.Proofs.Ytehmhgpogpbjiaa.PFccTokens
