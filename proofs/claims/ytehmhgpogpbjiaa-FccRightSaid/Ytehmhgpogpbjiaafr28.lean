import Derived.Test.Ytehmhgpogpbjiaafr27
set_option linter.unusedVariables false
set_option linter.unusedSimpArgs false
set_option maxRecDepth 100000
set_option maxHeartbeats 8000000
namespace Go.Proofs.Ytehmhgpogpbjiaa.Fcc
open Go.RowKit Go.Proofs.YtehmhgpogpbjiaaW.PrintWords Go.Proofs.YtehmhgpogpbjiaaW.PrintLast Go.Proofs.YtehmhgpogpbjiaaW.PrintMore Go.Proofs.Ytehmhgpogpbjiaa.PFccTokens
abbrev tz : Obj := .cells #[.int .i64 0, .int .u32 0, .string ⟨#[]⟩, .int .i64 0] 37
def VW (t : Tk) (w : World) (e : Ending) (w' : World) : Prop := e = .returned (.tuple #[tv t, .int .i64 (tokB t true).length]) ∧ Below w.heap.size w w'
theorem YdA (x : Int) : IntKind.u32.wrap x = x % 4294967296 := rfl
theorem YbY (s : ByteArray) : strOfNums (Xl s) = s := by
 obtain ⟨⟨l⟩⟩ := s
 show (⟨List.toArray (List.map _ (List.map _ l))⟩ : ByteArray) = ⟨⟨l⟩⟩
 rw [List.map_map]
 congr 2
 conv => rhs; rw [← List.map_id l]
 apply List.map_congr_left
 intro b _
 simp
theorem UW (t : Tk) (hf : Fits t) (hr : rightP t true = true) (W : World) : Calls Try.prog 29 #[tv t, .bool true] W fun e w' => ∃ A c, e = .returned (.tuple #[.slice A (tokB t true).length c, .bool true]) ∧ Below W.heap.size W w' := by
 refine (Ybb t hf W).mono ?_
 rintro e w' ⟨A, n, c, rfl, hR, hB⟩
 obtain ⟨A2, c2, e2, -, -⟩ := Kd.R_reads (hR hr)
 injection e2 with e1 e2 e3
 subst e2
 exact ⟨A, c, (by rw [hr]), hB⟩
section
variable {w : World} {A : Option Addr} {c : Nat} {rest : List Int}
theorem Ya2 {f : Int} (hc : YP f = true) (hs : f ≤ 255) : wrap64 f = f ∧ 0 ≤ f ∧ f < 256 ∧ ((decide (0 < f) = true ∧ decide (f < 16) = false) ∨ decide (0 < f) = false) := by
 unfold YP at hc
 simp at hc
 refine ⟨IntWalk.wrap64_in _ ⟨Z0, Z0⟩, Z0, Z0, ?_⟩
 rcases hc with rfl | h
 ·exact .inr Z1
 ·exact .inl ⟨decide_eq_true Z0, decide_eq_false Z0⟩
theorem one_0 (f : Int) (hs : f ≤ 255) (hr : rightP ⟨f, 0, ⟨#[]⟩, 0⟩ true = true) (hk : Yr (f) = 0) (h : CB w A (f :: (rest))) (hc : rest.length + 1 ≤ c) :
 Calls Try.prog 28 #[.slice A (rest.length + 1) c, .bool true] w (VW ⟨f, 0, ⟨#[]⟩, 0⟩ w) := by
 have htl : (rest).length = rest.length := by simp [YG] <;> omega
 have hcd : YP (f) = true := by unfold rightP at hr; simp only [Bool.and_eq_true] at hr; exact hr.1.1.1
 obtain ⟨w1, w2, w3, w4⟩ := Ya2 hcd hs
 have hBy := Aside0.mk (fun W => UW ⟨f, 0, ⟨#[]⟩, 0⟩ ⟨Zg, Zg, ZK, Zg⟩ hr W)
 obtain ⟨ad, rfl, c0⟩ := Xs h 0 Z3
 simp [Addr.add] at c0
 obtain ⟨A', c', hcut, hC', hc'⟩ := VK h (c := c) ZH 1 Z3
 replace hcut : ∀ W, (Instr.slice 29 (.slice (some ad) (rest.length + 1) c) (some (.int .i64 1)) none none).run Try.prog W = .ok (.slice A' (rest.length) c') W := fun W => by
  have := hcut W
  simp only [List.length_cons, htl] at this
  exact this
 rw [List.drop_succ_cons, List.drop_zero] at hC' hc'
 have hn := h.2.1
 simp only [List.length_cons, htl] at hn
 have f1 : (((rest.length : Nat) : Int) + 1 == 0) = false := beq_eq_false_iff_ne.2 Z0
 have hB0 := Yc (Yc (Below.refl w.heap.size w) tz) (.cells #[.int .i64 (f), .int .u32 0, .string ⟨#[]⟩, .int .i64 0] 37)
 have hBz := Yc (Yc (Below.refl w.heap.size w) tz) tz
 have c1 := (hBz.cell (World.block_lt_of_cell? w ad c0)).trans c0
 have hk' := Aside0.mk hk
 replace hr := Aside0.mk hr
 clear hBz hB0 c0 h hc hn hk hC' hc' htl
 rcases w4 with ⟨w4, w5⟩ | w4
 all_goals
  go_enter Try.func28, Try.ntmps28
  go_wp2_with fail
  refine (Yp _ _).mono ?_
  rintro e w' ⟨rfl, rfl⟩
  rw [hk'.out]
  have Q4 : (((w.alloc tz).alloc (.cells #[.int .i64 (f), .int .u32 (0), .string (⟨#[]⟩), .int .i64 (0)] 37))).heap[w.heap.size]? = some tz := Xh (Xa w tz) (.cells #[.int .i64 (f), .int .u32 (0), .string (⟨#[]⟩), .int .i64 (0)] 37)
  have Q6 : (((w.alloc tz).alloc (.cells #[.int .i64 (f), .int .u32 (0), .string (⟨#[]⟩), .int .i64 (0)] 37))).heap[w.heap.size + 1]? = some (.cells #[.int .i64 (f), .int .u32 (0), .string (⟨#[]⟩), .int .i64 (0)] 37) := by
   have := Xa (w.alloc tz) (.cells #[.int .i64 (f), .int .u32 (0), .string (⟨#[]⟩), .int .i64 (0)] 37)
   rw [World.size_alloc] at this
   exact this
  replace Q4 := Aside0.mk Q4
  replace Q6 := Aside0.mk Q6
  have hB1 := Aside0.mk (Yc (Yc (Below.refl w.heap.size w) tz) (.cells #[.int .i64 (f), .int .u32 (0), .string (⟨#[]⟩), .int .i64 (0)] 37))
  generalize (w.alloc tz).alloc (.cells #[.int .i64 (f), .int .u32 (0), .string (⟨#[]⟩), .int .i64 (0)] 37) = W2 at Q4 Q6 hB1 ⊢
  have e0 := Ya Q6.out 0
  have e1 := Ya Q6.out 1
  have e2 := Ya Q6.out 2
  have e3 := Ya Q6.out 3
  try go_wp2_with fail
  refine (hBy.out _).mono ?_
  rintro e w6 ⟨A6, c6, rfl, hB⟩
  have q4 := YQ Q4.out hB
  have q6 := YQ Q6.out hB
  have hB2 := Aside0.mk (hB1.out.trans (Below.mono hB hB1.out.size))
  replace e0 := Ya q6 0
  replace e1 := Ya q6 1
  replace e2 := Ya q6 2
  replace e3 := Ya q6 3
  have k0 := Ya q4 0
  have k1 := Ya q4 1
  have k2 := Ya q4 2
  have k3 := Ya q4 3
  have z0 := Yf q4 0
  have z1 := Yf q4 1
  have z2 := Yf q4 2
  have z3 := Yf q4 3
  have p1 := Aside0.mk (YM (YM (YM (YM q4 0 (.int .i64 (f)) rfl) 1 (.int .u32 (0)) rfl) 2 (.string (⟨#[]⟩)) rfl) 3 (.int .i64 (0)) rfl)
  clear hB q4 q6
  go_wp2_with fail
  have r0 := Ya p1.out 0
  have r1 := Ya p1.out 1
  have r2 := Ya p1.out 2
  have r3 := Ya p1.out 3
  have hgl : w.heap.size ≤ w.heap.size := Nat.le_refl _
  exact bodyPost_ret (v := .tuple #[tv ⟨f, 0, ⟨#[]⟩, 0⟩, .int .i64 (tokB ⟨f, 0, ⟨#[]⟩, 0⟩ true).length]) ZC rfl ⟨rfl, (((hB2.out.setCell (p := ⟨w.heap.size, 0, none⟩) hgl _).setCell (p := ⟨w.heap.size, 1, none⟩) hgl _).setCell (p := ⟨w.heap.size, 2, none⟩) hgl _).setCell (p := ⟨w.heap.size, 3, none⟩) hgl _⟩
theorem one_0b (b0 b1 : Int) (h1 : 0 < b0 ∧ b0 < 16) (hb1 : 0 ≤ b1 ∧ b1 < 256) (hr : rightP ⟨b0 * 256 + b1, 0, ⟨#[]⟩, 0⟩ true = true) (hk : Yr (b0 * 256 + b1) = 0) (h : CB w A (b0 :: (b1 :: rest))) (hc : rest.length + 1 + 1 ≤ c) :
 Calls Try.prog 28 #[.slice A (rest.length + 1 + 1) c, .bool true] w (VW ⟨b0 * 256 + b1, 0, ⟨#[]⟩, 0⟩ w) := by
 have htl : (b1 :: rest).length = rest.length + 1 := by simp [YG] <;> omega
 have hcd : YP (b0 * 256 + b1) = true := by unfold rightP at hr; simp only [Bool.and_eq_true] at hr; exact hr.1.1.1
 have hBy := Aside0.mk (fun W => UW ⟨b0 * 256 + b1, 0, ⟨#[]⟩, 0⟩ ⟨Zg, Zg, ZK, Zg⟩ hr W)
 obtain ⟨ad, rfl, c0⟩ := Xs h 0 Z3
 obtain ⟨_, hq, c1⟩ := Xs h 1 Z3
 cases hq
 simp only [List.getElem_cons_zero, List.getElem_cons_succ] at c0 c1
 simp [Addr.add] at c0 c1
 obtain ⟨A', c', hcut, -, -⟩ := VK h (c := c) (by simp only [List.length_cons]; omega) 2 Z3
 replace hcut : ∀ W, (Instr.slice 29 (.slice (some ad) (rest.length + 1 + 1) c) (some (.int .i64 2)) none none).run Try.prog W = .ok (.slice A' rest.length c') W := fun W => hcut W
 have f1 : ((rest.length : Int) + 1 + 1 == 0) = false := beq_eq_false_iff_ne.2 Z0
 have f2 : decide ((rest.length : Int) + 1 + 1 < 2) = false := decide_eq_false Z0
 have l0 : (0 : Int) < (rest.length : Int) + 1 + 1 := by omega
 have l1 : (1 : Int) < (rest.length : Int) + 1 + 1 := by omega
 have w1 : wrap64 b0 = b0 := IntWalk.wrap64_in _ ⟨Z0, Z0⟩
 have w2 : decide (0 < b0) = true := decide_eq_true Z0
 have w3 : decide (b0 < 16) = true := decide_eq_true Z0
 have hV : wrap64 (wrap64 (b0 * 256) + wrap64 b1) = b0 * 256 + b1 := by
  rw [IntWalk.wrap64_in (b0 * 256) ⟨Z0, Z0⟩, IntWalk.wrap64_in b1 ⟨Z0, Z0⟩, IntWalk.wrap64_in _ ⟨Z0, Z0⟩]
 replace hV := Aside0.mk hV
 have hBz := Yc (Yc (Below.refl w.heap.size w) tz) tz
 have hBx := Yc (Yc (Below.refl w.heap.size w) tz) (.cells #[.int .i64 b0, .int .u32 0, .string ⟨#[]⟩, .int .i64 0] 37)
 have u1 := Aside0.mk c1
 replace c0 := (hBz.cell (World.block_lt_of_cell? w ad c0)).trans c0
 clear c1
 have hk' := Aside0.mk hk
 replace hr := Aside0.mk hr
 clear hBz h hc hk htl
 go_enter Try.func28, Try.ntmps28
 go_wp2_with fail
 refine Uk (ds := [9]) (S := fun W => W.cell? ⟨ad.block, ad.off + 1, none⟩ = some (.int .u8 b1) ∧ W.cell? ⟨w.heap.size + 1, 0, none⟩ = some (.int .i64 b0)) Z2 rfl rfl ⟨(hBx.cell (World.block_lt_of_cell? w _ u1.out)).trans u1.out, (Ya (show (((w.alloc tz).alloc (.cells #[.int .i64 b0, .int .u32 0, .string ⟨#[]⟩, .int .i64 0] 37)).drew).heap[w.heap.size + 1]? = some (.cells #[.int .i64 b0, .int .u32 0, .string ⟨#[]⟩, .int .i64 0] 37) from (by have := Xa (w.alloc tz) (.cells #[.int .i64 b0, .int .u32 0, .string ⟨#[]⟩, .int .i64 0] 37); rw [World.size_alloc] at this; exact this)) 0 : _)⟩ (fun tb hS => ?_)
 refine seg_ [(0, 34), (1, 35), (2, 36), (3, 37), (4, 38), (5, 39), (6, 40), (7, 41), (8, 42)] tb hS Z2 (fun _ _ _ _ h => h) (a' := ?_) ?_ ?_
 rotate_left
 ·repeat (first | exact Seg.nil | (refine Seg.on (v := ?_) (a1 := ?_) rfl rfl Z7 ?_ ?_ ?_; rotate_left 2; (rintro w' hS; go_split_ands; go_simp; with_reducible rfl); (simp only [Act.put, List.setIfInBounds_toArray, List.set_cons_zero, List.set_cons_succ, YH, YJ]; rfl)))
 rw [hV.out]
 refine JL 9 tb rfl Z2 ?_
 clear hS
 go_wp2_with fail
 refine ql_ (end_ tb Z2 ?_)
 go_wp2_with fail
 all_goals
  refine (Yp _ _).mono ?_
  rintro e w' ⟨rfl, rfl⟩
  rw [hk'.out]
  have Q4 : (((w.alloc tz).alloc (.cells #[.int .i64 (b0 * 256 + b1), .int .u32 (0), .string (⟨#[]⟩), .int .i64 (0)] 37)).drew).heap[w.heap.size]? = some tz := Xh (Xa w tz) (.cells #[.int .i64 (b0 * 256 + b1), .int .u32 (0), .string (⟨#[]⟩), .int .i64 (0)] 37)
  have Q6 : (((w.alloc tz).alloc (.cells #[.int .i64 (b0 * 256 + b1), .int .u32 (0), .string (⟨#[]⟩), .int .i64 (0)] 37)).drew).heap[w.heap.size + 1]? = some (.cells #[.int .i64 (b0 * 256 + b1), .int .u32 (0), .string (⟨#[]⟩), .int .i64 (0)] 37) := by
   have := Xa (w.alloc tz) (.cells #[.int .i64 (b0 * 256 + b1), .int .u32 (0), .string (⟨#[]⟩), .int .i64 (0)] 37)
   rw [World.size_alloc] at this
   exact this
  replace Q4 := Aside0.mk Q4
  replace Q6 := Aside0.mk Q6
  have hB1 := Aside0.mk (YY (Yc (Yc (Below.refl w.heap.size w) tz) (.cells #[.int .i64 (b0 * 256 + b1), .int .u32 (0), .string (⟨#[]⟩), .int .i64 (0)] 37)))
  generalize (((w.alloc tz).alloc (.cells #[.int .i64 (b0 * 256 + b1), .int .u32 (0), .string (⟨#[]⟩), .int .i64 (0)] 37)).drew) = W2 at Q4 Q6 hB1 ⊢
  have e0 := Ya Q6.out 0
  have e1 := Ya Q6.out 1
  have e2 := Ya Q6.out 2
  have e3 := Ya Q6.out 3
  try go_wp2_with fail
  refine (hBy.out _).mono ?_
  rintro e w6 ⟨A6, c6, rfl, hB⟩
  have q4 := YQ Q4.out hB
  have q6 := YQ Q6.out hB
  have hB2 := Aside0.mk (hB1.out.trans (Below.mono hB hB1.out.size))
  replace e0 := Ya q6 0
  replace e1 := Ya q6 1
  replace e2 := Ya q6 2
  replace e3 := Ya q6 3
  have k0 := Ya q4 0
  have k1 := Ya q4 1
  have k2 := Ya q4 2
  have k3 := Ya q4 3
  have z0 := Yf q4 0
  have z1 := Yf q4 1
  have z2 := Yf q4 2
  have z3 := Yf q4 3
  have p1 := Aside0.mk (YM (YM (YM (YM q4 0 (.int .i64 (b0 * 256 + b1)) rfl) 1 (.int .u32 (0)) rfl) 2 (.string (⟨#[]⟩)) rfl) 3 (.int .i64 (0)) rfl)
  clear hB q4 q6
  go_wp2_with fail
  have r0 := Ya p1.out 0
  have r1 := Ya p1.out 1
  have r2 := Ya p1.out 2
  have r3 := Ya p1.out 3
  have hgl : w.heap.size ≤ w.heap.size := Nat.le_refl _
  exact bodyPost_ret (v := .tuple #[tv ⟨b0 * 256 + b1, 0, ⟨#[]⟩, 0⟩, .int .i64 (tokB ⟨b0 * 256 + b1, 0, ⟨#[]⟩, 0⟩ true).length]) ZC rfl ⟨rfl, (((hB2.out.setCell (p := ⟨w.heap.size, 0, none⟩) hgl _).setCell (p := ⟨w.heap.size, 1, none⟩) hgl _).setCell (p := ⟨w.heap.size, 2, none⟩) hgl _).setCell (p := ⟨w.heap.size, 3, none⟩) hgl _⟩
theorem one_1 (f b0 b1 b2 b3 : Int) (hs : f ≤ 255) (hb0 : 0 ≤ b0 ∧ b0 < 256) (hb1 : 0 ≤ b1 ∧ b1 < 256) (hb2 : 0 ≤ b2 ∧ b2 < 256) (hb3 : 0 ≤ b3 ∧ b3 < 256) (hr : rightP ⟨f, ((b0 * 256 + b1) * 256 + b2) * 256 + b3, ⟨#[]⟩, 0⟩ true = true) (hk : Yr (f) = 1) (h : CB w A (f :: (b0 :: b1 :: b2 :: b3 :: rest))) (hc : rest.length + 4 + 1 ≤ c) :
 Calls Try.prog 28 #[.slice A (rest.length + 4 + 1) c, .bool true] w (VW ⟨f, ((b0 * 256 + b1) * 256 + b2) * 256 + b3, ⟨#[]⟩, 0⟩ w) := by
 have htl : (b0 :: b1 :: b2 :: b3 :: rest).length = rest.length + 4 := by simp [YG] <;> omega
 have hcd : YP (f) = true := by unfold rightP at hr; simp only [Bool.and_eq_true] at hr; exact hr.1.1.1
 obtain ⟨w1, w2, w3, w4⟩ := Ya2 hcd hs
 have hBy := Aside0.mk (fun W => UW ⟨f, ((b0 * 256 + b1) * 256 + b2) * 256 + b3, ⟨#[]⟩, 0⟩ ⟨Zg, Zg, ZK, Zg⟩ hr W)
 obtain ⟨ad, rfl, c0⟩ := Xs h 0 Z3
 simp [Addr.add] at c0
 obtain ⟨A', c', hcut, hC', hc'⟩ := VK h (c := c) ZH 1 Z3
 replace hcut : ∀ W, (Instr.slice 29 (.slice (some ad) (rest.length + 4 + 1) c) (some (.int .i64 1)) none none).run Try.prog W = .ok (.slice A' (rest.length + 4) c') W := fun W => by
  have := hcut W
  simp only [List.length_cons, htl] at this
  exact this
 rw [List.drop_succ_cons, List.drop_zero] at hC' hc'
 have hn := h.2.1
 simp only [List.length_cons, htl] at hn
 have f1 : (((rest.length + 4 : Nat) : Int) + 1 == 0) = false := beq_eq_false_iff_ne.2 Z0
 have hB0 := Yc (Yc (Below.refl w.heap.size w) tz) (.cells #[.int .i64 (f), .int .u32 0, .string ⟨#[]⟩, .int .i64 0] 37)
 have hBz := Yc (Yc (Below.refl w.heap.size w) tz) tz
 have c1 := (hBz.cell (World.block_lt_of_cell? w ad c0)).trans c0
 obtain ⟨ad2, rfl, d0⟩ := Xs hC' 0 Z3
 obtain ⟨_, hq, d1⟩ := Xs hC' 1 Z3
 cases hq
 obtain ⟨_, hq, d2⟩ := Xs hC' 2 Z3
 cases hq
 obtain ⟨_, hq, d3⟩ := Xs hC' 3 Z3
 cases hq
 simp only [List.getElem_cons_zero, List.getElem_cons_succ] at d0 d1 d2 d3
 simp [Addr.add] at d0 d1 d2 d3
 have u0 := Aside0.mk d0
 replace d0 := (hB0.cell (World.block_lt_of_cell? w _ d0)).trans d0
 have u1 := Aside0.mk d1
 replace d1 := (hB0.cell (World.block_lt_of_cell? w _ d1)).trans d1
 have u2 := Aside0.mk d2
 replace d2 := (hB0.cell (World.block_lt_of_cell? w _ d2)).trans d2
 have u3 := Aside0.mk d3
 replace d3 := (hB0.cell (World.block_lt_of_cell? w _ d3)).trans d3
 have hk' := Aside0.mk hk
 replace hr := Aside0.mk hr
 clear hBz hB0 c0 h hc hn hk hC' hc' htl
 rcases w4 with ⟨w4, w5⟩ | w4
 all_goals
  go_enter Try.func28, Try.ntmps28
  go_wp2_with fail
  refine (Yp _ _).mono ?_
  rintro e w' ⟨rfl, rfl⟩
  rw [hk'.out]
  have l0 : (0 : Int) < (rest.length : Int) + 4 := by omega
  have l1 : (1 : Int) < (rest.length : Int) + 4 := by omega
  have l2 : (2 : Int) < (rest.length : Int) + 4 := by omega
  have l3 : (3 : Int) < (rest.length : Int) + 4 := by omega
  have hV : IntKind.u32.wrap (IntKind.u32.wrap (IntKind.u32.wrap (IntKind.u32.wrap (IntKind.u32.wrap b0 * 16777216) + IntKind.u32.wrap (IntKind.u32.wrap b1 * 65536)) + IntKind.u32.wrap (IntKind.u32.wrap b2 * 256)) + IntKind.u32.wrap b3) = ((b0 * 256 + b1) * 256 + b2) * 256 + b3 := by
   simp only [YdA]; omega
  replace hV := Aside0.mk hV
  go_wp2_with fail
  refine Uk (ds := [23]) (S := fun W => W.cell? ad2 = some (.int .u8 b0) ∧ W.cell? ⟨ad2.block, ad2.off + 1, none⟩ = some (.int .u8 b1) ∧ W.cell? ⟨ad2.block, ad2.off + 2, none⟩ = some (.int .u8 b2) ∧ W.cell? ⟨ad2.block, ad2.off + 3, none⟩ = some (.int .u8 b3)) Z2 rfl rfl ⟨d0, d1, d2, d3⟩ (fun tb hS => ?_)
  refine seg_ [(0, 55), (1, 56), (2, 57), (3, 58), (4, 59), (5, 60), (6, 61), (7, 62), (8, 63), (9, 64), (10, 65), (11, 66), (12, 67), (13, 68), (14, 69), (15, 70), (16, 71), (17, 72), (18, 73), (19, 74), (20, 75), (21, 76), (22, 77)] tb hS Z2 (fun _ _ _ _ h => h) (a' := ?_) ?_ ?_
  rotate_left
  ·repeat (first | exact Seg.nil | (refine Seg.on (v := ?_) (a1 := ?_) rfl rfl Z7 ?_ ?_ ?_; rotate_left 2; (rintro w' hS; go_split_ands; go_simp; with_reducible rfl); (simp only [Act.put, List.setIfInBounds_toArray, List.set_cons_zero, List.set_cons_succ, YH, YJ]; rfl)))
  rw [hV.out]
  refine JL 23 tb rfl Z2 ?_
  clear hS
  go_wp2_with fail
  refine ql_ (end_ tb Z2 ?_)
  have Q4 : (((w.alloc tz).alloc (.cells #[.int .i64 (f), .int .u32 (((b0 * 256 + b1) * 256 + b2) * 256 + b3), .string (⟨#[]⟩), .int .i64 (0)] 37)).drew).heap[w.heap.size]? = some tz := Xh (Xa w tz) (.cells #[.int .i64 (f), .int .u32 (((b0 * 256 + b1) * 256 + b2) * 256 + b3), .string (⟨#[]⟩), .int .i64 (0)] 37)
  have Q6 : (((w.alloc tz).alloc (.cells #[.int .i64 (f), .int .u32 (((b0 * 256 + b1) * 256 + b2) * 256 + b3), .string (⟨#[]⟩), .int .i64 (0)] 37)).drew).heap[w.heap.size + 1]? = some (.cells #[.int .i64 (f), .int .u32 (((b0 * 256 + b1) * 256 + b2) * 256 + b3), .string (⟨#[]⟩), .int .i64 (0)] 37) := by
   have := Xa (w.alloc tz) (.cells #[.int .i64 (f), .int .u32 (((b0 * 256 + b1) * 256 + b2) * 256 + b3), .string (⟨#[]⟩), .int .i64 (0)] 37)
   rw [World.size_alloc] at this
   exact this
  replace Q4 := Aside0.mk Q4
  replace Q6 := Aside0.mk Q6
  have hB1 := Aside0.mk (YY (Yc (Yc (Below.refl w.heap.size w) tz) (.cells #[.int .i64 (f), .int .u32 (((b0 * 256 + b1) * 256 + b2) * 256 + b3), .string (⟨#[]⟩), .int .i64 (0)] 37)))
  generalize (((w.alloc tz).alloc (.cells #[.int .i64 (f), .int .u32 (((b0 * 256 + b1) * 256 + b2) * 256 + b3), .string (⟨#[]⟩), .int .i64 (0)] 37)).drew) = W2 at Q4 Q6 hB1 ⊢
  have e0 := Ya Q6.out 0
  have e1 := Ya Q6.out 1
  have e2 := Ya Q6.out 2
  have e3 := Ya Q6.out 3
  try go_wp2_with fail
  refine (hBy.out _).mono ?_
  rintro e w6 ⟨A6, c6, rfl, hB⟩
  have q4 := YQ Q4.out hB
  have q6 := YQ Q6.out hB
  have hB2 := Aside0.mk (hB1.out.trans (Below.mono hB hB1.out.size))
  replace e0 := Ya q6 0
  replace e1 := Ya q6 1
  replace e2 := Ya q6 2
  replace e3 := Ya q6 3
  have k0 := Ya q4 0
  have k1 := Ya q4 1
  have k2 := Ya q4 2
  have k3 := Ya q4 3
  have z0 := Yf q4 0
  have z1 := Yf q4 1
  have z2 := Yf q4 2
  have z3 := Yf q4 3
  have p1 := Aside0.mk (YM (YM (YM (YM q4 0 (.int .i64 (f)) rfl) 1 (.int .u32 (((b0 * 256 + b1) * 256 + b2) * 256 + b3)) rfl) 2 (.string (⟨#[]⟩)) rfl) 3 (.int .i64 (0)) rfl)
  clear hB q4 q6
  go_wp2_with fail
  have r0 := Ya p1.out 0
  have r1 := Ya p1.out 1
  have r2 := Ya p1.out 2
  have r3 := Ya p1.out 3
  have hgl : w.heap.size ≤ w.heap.size := Nat.le_refl _
  exact bodyPost_ret (v := .tuple #[tv ⟨f, ((b0 * 256 + b1) * 256 + b2) * 256 + b3, ⟨#[]⟩, 0⟩, .int .i64 (tokB ⟨f, ((b0 * 256 + b1) * 256 + b2) * 256 + b3, ⟨#[]⟩, 0⟩ true).length]) ZC rfl ⟨rfl, (((hB2.out.setCell (p := ⟨w.heap.size, 0, none⟩) hgl _).setCell (p := ⟨w.heap.size, 1, none⟩) hgl _).setCell (p := ⟨w.heap.size, 2, none⟩) hgl _).setCell (p := ⟨w.heap.size, 3, none⟩) hgl _⟩
theorem one_2 (f b0 : Int) (hs : f ≤ 255) (n4 : (decide (0 < b0) = true ∧ decide (b0 < 16) = false) ∨ decide (0 < b0) = false) (hb0 : 0 ≤ b0 ∧ b0 < 256) (hr : rightP ⟨f, b0, ⟨#[]⟩, 0⟩ true = true) (hk : Yr (f) = 2) (h : CB w A (f :: (b0 :: rest))) (hc : rest.length + 1 + 1 ≤ c) :
 Calls Try.prog 28 #[.slice A (rest.length + 1 + 1) c, .bool true] w (VW ⟨f, b0, ⟨#[]⟩, 0⟩ w) := by
 have htl : (b0 :: rest).length = rest.length + 1 := by simp [YG] <;> omega
 have hcd : YP (f) = true := by unfold rightP at hr; simp only [Bool.and_eq_true] at hr; exact hr.1.1.1
 obtain ⟨w1, w2, w3, w4⟩ := Ya2 hcd hs
 have hBy := Aside0.mk (fun W => UW ⟨f, b0, ⟨#[]⟩, 0⟩ ⟨Zg, Zg, ZK, Zg⟩ hr W)
 obtain ⟨ad, rfl, c0⟩ := Xs h 0 Z3
 simp [Addr.add] at c0
 obtain ⟨A', c', hcut, hC', hc'⟩ := VK h (c := c) ZH 1 Z3
 replace hcut : ∀ W, (Instr.slice 29 (.slice (some ad) (rest.length + 1 + 1) c) (some (.int .i64 1)) none none).run Try.prog W = .ok (.slice A' (rest.length + 1) c') W := fun W => by
  have := hcut W
  simp only [List.length_cons, htl] at this
  exact this
 rw [List.drop_succ_cons, List.drop_zero] at hC' hc'
 have hn := h.2.1
 simp only [List.length_cons, htl] at hn
 have f1 : (((rest.length + 1 : Nat) : Int) + 1 == 0) = false := beq_eq_false_iff_ne.2 Z0
 have hB0 := Yc (Yc (Below.refl w.heap.size w) tz) (.cells #[.int .i64 (f), .int .u32 0, .string ⟨#[]⟩, .int .i64 0] 37)
 have hBz := Yc (Yc (Below.refl w.heap.size w) tz) tz
 have c1 := (hBz.cell (World.block_lt_of_cell? w ad c0)).trans c0
 obtain ⟨ad2, rfl, d0⟩ := Xs hC' 0 Z3
 simp only [List.getElem_cons_zero, List.getElem_cons_succ] at d0
 simp [Addr.add] at d0
 have u0 := Aside0.mk d0
 replace d0 := (hB0.cell (World.block_lt_of_cell? w _ d0)).trans d0
 have hk' := Aside0.mk hk
 replace hr := Aside0.mk hr
 clear hBz hB0 c0 h hc hn hk hC' hc' htl
 rcases w4 with ⟨w4, w5⟩ | w4 <;> rcases n4 with ⟨n4, n5⟩ | n4
 all_goals
  go_enter Try.func28, Try.ntmps28
  go_wp2_with fail
  refine (Yp _ _).mono ?_
  rintro e w' ⟨rfl, rfl⟩
  rw [hk'.out]
  have l0 : (0 : Int) < (rest.length : Int) + 1 := by omega
  have hW : IntKind.u32.wrap b0 = b0 := by rw [YdA]; omega
  go_wp2_with fail
  have Q4 : (((w.alloc tz).alloc (.cells #[.int .i64 (f), .int .u32 (b0), .string (⟨#[]⟩), .int .i64 (0)] 37))).heap[w.heap.size]? = some tz := Xh (Xa w tz) (.cells #[.int .i64 (f), .int .u32 (b0), .string (⟨#[]⟩), .int .i64 (0)] 37)
  have Q6 : (((w.alloc tz).alloc (.cells #[.int .i64 (f), .int .u32 (b0), .string (⟨#[]⟩), .int .i64 (0)] 37))).heap[w.heap.size + 1]? = some (.cells #[.int .i64 (f), .int .u32 (b0), .string (⟨#[]⟩), .int .i64 (0)] 37) := by
   have := Xa (w.alloc tz) (.cells #[.int .i64 (f), .int .u32 (b0), .string (⟨#[]⟩), .int .i64 (0)] 37)
   rw [World.size_alloc] at this
   exact this
  replace Q4 := Aside0.mk Q4
  replace Q6 := Aside0.mk Q6
  have hB1 := Aside0.mk (Yc (Yc (Below.refl w.heap.size w) tz) (.cells #[.int .i64 (f), .int .u32 (b0), .string (⟨#[]⟩), .int .i64 (0)] 37))
  generalize (w.alloc tz).alloc (.cells #[.int .i64 (f), .int .u32 (b0), .string (⟨#[]⟩), .int .i64 (0)] 37) = W2 at Q4 Q6 hB1 ⊢
  have e0 := Ya Q6.out 0
  have e1 := Ya Q6.out 1
  have e2 := Ya Q6.out 2
  have e3 := Ya Q6.out 3
  try go_wp2_with fail
  refine (hBy.out _).mono ?_
  rintro e w6 ⟨A6, c6, rfl, hB⟩
  have q4 := YQ Q4.out hB
  have q6 := YQ Q6.out hB
  have hB2 := Aside0.mk (hB1.out.trans (Below.mono hB hB1.out.size))
  replace e0 := Ya q6 0
  replace e1 := Ya q6 1
  replace e2 := Ya q6 2
  replace e3 := Ya q6 3
  have k0 := Ya q4 0
  have k1 := Ya q4 1
  have k2 := Ya q4 2
  have k3 := Ya q4 3
  have z0 := Yf q4 0
  have z1 := Yf q4 1
  have z2 := Yf q4 2
  have z3 := Yf q4 3
  have p1 := Aside0.mk (YM (YM (YM (YM q4 0 (.int .i64 (f)) rfl) 1 (.int .u32 (b0)) rfl) 2 (.string (⟨#[]⟩)) rfl) 3 (.int .i64 (0)) rfl)
  clear hB q4 q6
  go_wp2_with fail
  have r0 := Ya p1.out 0
  have r1 := Ya p1.out 1
  have r2 := Ya p1.out 2
  have r3 := Ya p1.out 3
  have hgl : w.heap.size ≤ w.heap.size := Nat.le_refl _
  exact bodyPost_ret (v := .tuple #[tv ⟨f, b0, ⟨#[]⟩, 0⟩, .int .i64 (tokB ⟨f, b0, ⟨#[]⟩, 0⟩ true).length]) ZC rfl ⟨rfl, (((hB2.out.setCell (p := ⟨w.heap.size, 0, none⟩) hgl _).setCell (p := ⟨w.heap.size, 1, none⟩) hgl _).setCell (p := ⟨w.heap.size, 2, none⟩) hgl _).setCell (p := ⟨w.heap.size, 3, none⟩) hgl _⟩
theorem one_2b (f b0 b1 : Int) (hs : f ≤ 255) (n4 : decide (0 < b0) = true) (n5 : decide (b0 < 16) = true) (hb0 : 0 ≤ b0 ∧ b0 < 256) (hb1 : 0 ≤ b1 ∧ b1 < 256) (hr : rightP ⟨f, b0 * 256 + b1, ⟨#[]⟩, 0⟩ true = true) (hk : Yr (f) = 2) (h : CB w A (f :: (b0 :: b1 :: rest))) (hc : rest.length + 2 + 1 ≤ c) :
 Calls Try.prog 28 #[.slice A (rest.length + 2 + 1) c, .bool true] w (VW ⟨f, b0 * 256 + b1, ⟨#[]⟩, 0⟩ w) := by
 have htl : (b0 :: b1 :: rest).length = rest.length + 2 := by simp [YG] <;> omega
 have hcd : YP (f) = true := by unfold rightP at hr; simp only [Bool.and_eq_true] at hr; exact hr.1.1.1
 obtain ⟨w1, w2, w3, w4⟩ := Ya2 hcd hs
 have hBy := Aside0.mk (fun W => UW ⟨f, b0 * 256 + b1, ⟨#[]⟩, 0⟩ ⟨Zg, Zg, ZK, Zg⟩ hr W)
 obtain ⟨ad, rfl, c0⟩ := Xs h 0 Z3
 simp [Addr.add] at c0
 obtain ⟨A', c', hcut, hC', hc'⟩ := VK h (c := c) ZH 1 Z3
 replace hcut : ∀ W, (Instr.slice 29 (.slice (some ad) (rest.length + 2 + 1) c) (some (.int .i64 1)) none none).run Try.prog W = .ok (.slice A' (rest.length + 2) c') W := fun W => by
  have := hcut W
  simp only [List.length_cons, htl] at this
  exact this
 rw [List.drop_succ_cons, List.drop_zero] at hC' hc'
 have hn := h.2.1
 simp only [List.length_cons, htl] at hn
 have f1 : (((rest.length + 2 : Nat) : Int) + 1 == 0) = false := beq_eq_false_iff_ne.2 Z0
 have hB0 := Yc (Yc (Below.refl w.heap.size w) tz) (.cells #[.int .i64 (f), .int .u32 0, .string ⟨#[]⟩, .int .i64 0] 37)
 have hBz := Yc (Yc (Below.refl w.heap.size w) tz) tz
 have c1 := (hBz.cell (World.block_lt_of_cell? w ad c0)).trans c0
 obtain ⟨ad2, rfl, d0⟩ := Xs hC' 0 Z3
 obtain ⟨_, hq, d1⟩ := Xs hC' 1 Z3
 cases hq
 simp only [List.getElem_cons_zero, List.getElem_cons_succ] at d0 d1
 simp [Addr.add] at d0 d1
 have u0 := Aside0.mk d0
 replace d0 := (hB0.cell (World.block_lt_of_cell? w _ d0)).trans d0
 have u1 := Aside0.mk d1
 replace d1 := (hB0.cell (World.block_lt_of_cell? w _ d1)).trans d1
 have hk' := Aside0.mk hk
 replace hr := Aside0.mk hr
 clear hBz hB0 c0 h hc hn hk hC' hc' htl
 rcases w4 with ⟨w4, w5⟩ | w4
 all_goals
  go_enter Try.func28, Try.ntmps28
  go_wp2_with fail
  refine (Yp _ _).mono ?_
  rintro e w' ⟨rfl, rfl⟩
  rw [hk'.out]
  have l0 : (0 : Int) < (rest.length : Int) + 2 := by omega
  have l1 : (1 : Int) < (rest.length : Int) + 2 := by omega
  have hW : IntKind.u32.wrap b0 = b0 := by rw [YdA]; omega
  have l9 : decide ((rest.length : Int) + 2 < 2) = false := decide_eq_false Z0
  have hV : IntKind.u32.wrap (IntKind.u32.wrap (b0 * 256) + IntKind.u32.wrap b1) = b0 * 256 + b1 := by
   simp only [YdA]; omega
  replace hV := Aside0.mk hV
  have hBx := Yc (Yc (Below.refl w.heap.size w) tz) (.cells #[.int .i64 f, .int .u32 b0, .string ⟨#[]⟩, .int .i64 0] 37)
  go_wp2_with fail
  refine Uk (ds := [9]) (S := fun W => W.cell? ad2 = some (.int .u8 b0) ∧ W.cell? ⟨ad2.block, ad2.off + 1, none⟩ = some (.int .u8 b1) ∧ W.cell? ⟨w.heap.size + 1, 1, none⟩ = some (.int .u32 b0)) Z2 rfl rfl ⟨(hBx.cell (World.block_lt_of_cell? w _ u0.out)).trans u0.out, (hBx.cell (World.block_lt_of_cell? w _ u1.out)).trans u1.out, (Ya (show (((w.alloc tz).alloc (.cells #[.int .i64 f, .int .u32 b0, .string ⟨#[]⟩, .int .i64 0] 37)).drew).heap[w.heap.size + 1]? = some (.cells #[.int .i64 f, .int .u32 b0, .string ⟨#[]⟩, .int .i64 0] 37) from (by have := Xa (w.alloc tz) (.cells #[.int .i64 f, .int .u32 b0, .string ⟨#[]⟩, .int .i64 0] 37); rw [World.size_alloc] at this; exact this)) 1 : _)⟩ (fun tb hS => ?_)
  refine seg_ [(0, 101), (1, 102), (2, 103), (3, 104), (4, 105), (5, 106), (6, 107), (7, 108), (8, 109)] tb hS Z2 (fun _ _ _ _ h => h) (a' := ?_) ?_ ?_
  rotate_left
  ·repeat (first | exact Seg.nil | (refine Seg.on (v := ?_) (a1 := ?_) rfl rfl Z7 ?_ ?_ ?_; rotate_left 2; (rintro w' hS; go_split_ands; go_simp; with_reducible rfl); (simp only [Act.put, List.setIfInBounds_toArray, List.set_cons_zero, List.set_cons_succ, YH, YJ]; rfl)))
  rw [hV.out]
  refine JL 9 tb rfl Z2 ?_
  clear hS
  go_wp2_with fail
  refine ql_ (end_ tb Z2 ?_)
  have Q4 : (((w.alloc tz).alloc (.cells #[.int .i64 (f), .int .u32 (b0 * 256 + b1), .string (⟨#[]⟩), .int .i64 (0)] 37)).drew).heap[w.heap.size]? = some tz := Xh (Xa w tz) (.cells #[.int .i64 (f), .int .u32 (b0 * 256 + b1), .string (⟨#[]⟩), .int .i64 (0)] 37)
  have Q6 : (((w.alloc tz).alloc (.cells #[.int .i64 (f), .int .u32 (b0 * 256 + b1), .string (⟨#[]⟩), .int .i64 (0)] 37)).drew).heap[w.heap.size + 1]? = some (.cells #[.int .i64 (f), .int .u32 (b0 * 256 + b1), .string (⟨#[]⟩), .int .i64 (0)] 37) := by
   have := Xa (w.alloc tz) (.cells #[.int .i64 (f), .int .u32 (b0 * 256 + b1), .string (⟨#[]⟩), .int .i64 (0)] 37)
   rw [World.size_alloc] at this
   exact this
  replace Q4 := Aside0.mk Q4
  replace Q6 := Aside0.mk Q6
  have hB1 := Aside0.mk (YY (Yc (Yc (Below.refl w.heap.size w) tz) (.cells #[.int .i64 (f), .int .u32 (b0 * 256 + b1), .string (⟨#[]⟩), .int .i64 (0)] 37)))
  generalize (((w.alloc tz).alloc (.cells #[.int .i64 (f), .int .u32 (b0 * 256 + b1), .string (⟨#[]⟩), .int .i64 (0)] 37)).drew) = W2 at Q4 Q6 hB1 ⊢
  have e0 := Ya Q6.out 0
  have e1 := Ya Q6.out 1
  have e2 := Ya Q6.out 2
  have e3 := Ya Q6.out 3
  try go_wp2_with fail
  refine (hBy.out _).mono ?_
  rintro e w6 ⟨A6, c6, rfl, hB⟩
  have q4 := YQ Q4.out hB
  have q6 := YQ Q6.out hB
  have hB2 := Aside0.mk (hB1.out.trans (Below.mono hB hB1.out.size))
  replace e0 := Ya q6 0
  replace e1 := Ya q6 1
  replace e2 := Ya q6 2
  replace e3 := Ya q6 3
  have k0 := Ya q4 0
  have k1 := Ya q4 1
  have k2 := Ya q4 2
  have k3 := Ya q4 3
  have z0 := Yf q4 0
  have z1 := Yf q4 1
  have z2 := Yf q4 2
  have z3 := Yf q4 3
  have p1 := Aside0.mk (YM (YM (YM (YM q4 0 (.int .i64 (f)) rfl) 1 (.int .u32 (b0 * 256 + b1)) rfl) 2 (.string (⟨#[]⟩)) rfl) 3 (.int .i64 (0)) rfl)
  clear hB q4 q6
  go_wp2_with fail
  have r0 := Ya p1.out 0
  have r1 := Ya p1.out 1
  have r2 := Ya p1.out 2
  have r3 := Ya p1.out 3
  have hgl : w.heap.size ≤ w.heap.size := Nat.le_refl _
  exact Z2C
end
end Go.Proofs.Ytehmhgpogpbjiaa.Fcc
