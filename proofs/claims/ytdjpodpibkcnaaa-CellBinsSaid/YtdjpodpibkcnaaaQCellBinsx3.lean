-- written by a program of this session (xprint.py) out of the translation
import Derived.Test.YtdjpodpibkcnaaaQCellBinsx0
import Derived.Test.YtdjpodpibkcnaaaQCellBinsx1
import Derived.Test.YtdjpodpibkcnaaaQCellBinsx2
namespace Go.Proofs.Ytdjpodpibkcnaaa.QCellBins
open Go.RowKit Go.Proofs.YtdjpodpibkcnaaaW.PrintWords Go.Proofs.YtdjpodpibkcnaaaW.PrintLast Go.Proofs.YtdjpodpibkcnaaaW.PrintMore
attribute [local go_sem] max2_int min2_int max_two min_two max_three min_three max_four min_four   -- for this text's walks alone
set_option linter.unusedVariables false
set_option linter.unusedSimpArgs false

/-! ### tinderref01_Bin: function 11 -/
mutual
def tinderref01_Bin.j0 : Nat → Int → Int → Int → Int → Int → Int → Bool → Option (Int × Int)
  | 0, _, _, _, _, _, _, _ => none
  | k + 1, x0, x1, x2, x8, x9, x16, x37 => if x37 = true then ((tinderref01_bits.f k x0 x1 x2).bind fun t125 => (some (t125, 0))) else (if x16 = 39 then (tinderref01_Bin.j1 k x0 x1 x2 x8 x9 x16 (x16 == 39)) else (if x16 = 40 then (tinderref01_Bin.j1 k x0 x1 x2 x8 x9 x16 (x16 == 40)) else (tinderref01_Bin.j1 k x0 x1 x2 x8 x9 x16 (x16 == 41))))
def tinderref01_Bin.j1 : Nat → Int → Int → Int → Int → Int → Int → Bool → Option (Int × Int)
  | 0, _, _, _, _, _, _, _ => none
  | k + 1, x0, x1, x2, x8, x9, x16, x45 => if x45 = true then ((tinderref01_shift.f k x0 x1 x2).bind fun t126 => (some (t126, 0))) else (if x16 = 46 then ((tinderref01_Cell.f (mn x8 x9)).bind fun t127 => (some (t127, 0))) else (if x16 = 47 then ((tinderref01_Cell.f (mx x8 x9)).bind fun t128 => (some (t128, 0))) else (if x16 = 58 then ((tinderref01_Flag.f (decide (x8 < x9))).bind fun t129 => (some (t129, 0))) else (if x16 = 59 then ((tinderref01_Flag.f (decide (x8 > x9))).bind fun t130 => (some (t130, 0))) else (if x16 = 60 then ((tinderref01_Flag.f (x1 == x2)).bind fun t131 => (some (t131, 0))) else (if x16 = 61 then ((tinderref01_Flag.f (x1 != x2)).bind fun t132 => (some (t132, 0))) else (if x16 = 62 then ((tinderref01_Flag.f (decide (x1 > x2))).bind fun t133 => (some (t133, 0))) else (if x16 = 63 then ((tinderref01_Flag.f (decide (x1 ≤ x2))).bind fun t134 => (some (t134, 0))) else (if x16 = 64 then ((tinderref01_Flag.f (decide (x1 < x2))).bind fun t135 => (some (t135, 0))) else (if x16 = 65 then ((tinderref01_Flag.f (decide (x1 ≥ x2))).bind fun t136 => (some (t136, 0))) else (if x16 = 66 then ((tinderref01_Flag.f (decide (x8 ≥ x9))).bind fun t137 => (some (t137, 0))) else (if x16 = 67 then ((tinderref01_Flag.f (decide (x8 ≤ x9))).bind fun t138 => (some (t138, 0))) else (if x16 = 33 then (tinderref01_Bin.j2 k x0 x8 x9 (x16 == 33)) else (tinderref01_Bin.j2 k x0 x8 x9 (x16 == 34)))))))))))))))
def tinderref01_Bin.j2 : Nat → Int → Int → Int → Bool → Option (Int × Int)
  | 0, _, _, _, _ => none
  | k + 1, x0, x8, x9, x125 => if x125 = true then (if x9 = 0 then (some (0, 7)) else ((tinderref01_Floor.f x8 x9).bind fun bt139 => (if x0 = 33 then ((tinderref01_Cell.f bt139.1).bind fun t141 => (some (t141, 0))) else ((tinderref01_Cell.f bt139.2).bind fun t142 => (some (t142, 0)))))) else (some (0, 2))
end
def tinderref01_Bin.f (k : Nat) (a0 : Int) (a1 : Int) (a2 : Int) : Option (Int × Int) := (tinderref01_Signed.f a1).bind fun t120 => ((tinderref01_Signed.f a2).bind fun t121 => (if a0 = 30 then ((tinderref01_Cell.f (wrap64 ((wrap64 (a1)) + (wrap64 (a2))))).bind fun t122 => (some (t122, 0))) else (if a0 = 31 then ((tinderref01_Cell.f (wrap64 (t120 - t121))).bind fun t123 => (some (t123, 0))) else (if a0 = 32 then ((tinderref01_Cell.f (wrap64 (t120 * t121))).bind fun t124 => (some (t124, 0))) else (if a0 = 35 then (tinderref01_Bin.j0 k a0 a1 a2 t120 t121 a0 (a0 == 35)) else (if a0 = 36 then (tinderref01_Bin.j0 k a0 a1 a2 t120 t121 a0 (a0 == 36)) else (tinderref01_Bin.j0 k a0 a1 a2 t120 t121 a0 (a0 == 37))))))))
theorem tinderref01_Bin.mono_l : ∀ k, (∀ y0 y1 y2 y3 y4 y5 y6, LeO (tinderref01_Bin.j0 k y0 y1 y2 y3 y4 y5 y6) (tinderref01_Bin.j0 (k + 1) y0 y1 y2 y3 y4 y5 y6)) ∧ (∀ y0 y1 y2 y3 y4 y5 y6, LeO (tinderref01_Bin.j1 k y0 y1 y2 y3 y4 y5 y6) (tinderref01_Bin.j1 (k + 1) y0 y1 y2 y3 y4 y5 y6)) ∧ (∀ y0 y1 y2 y3, LeO (tinderref01_Bin.j2 k y0 y1 y2 y3) (tinderref01_Bin.j2 (k + 1) y0 y1 y2 y3))
  | 0 => ⟨fun _ _ _ _ _ _ _ r h => by simp [tinderref01_Bin.j0] at h, fun _ _ _ _ _ _ _ r h => by simp [tinderref01_Bin.j1] at h, fun _ _ _ _ r h => by simp [tinderref01_Bin.j2] at h⟩
  | k + 1 => by
    obtain ⟨ih0, ih1, ih2⟩ := tinderref01_Bin.mono_l k
    refine ⟨?_, ?_, ?_⟩
    · intro y0 y1 y2 y3 y4 y5 y6
      unfold tinderref01_Bin.j0
      repeat' first
      | (with_reducible exact ih0 _ _ _ _ _ _ _)
      | (with_reducible exact ih1 _ _ _ _ _ _ _)
      | (with_reducible exact ih2 _ _ _ _)
      | (with_reducible exact tinderref01_bits.mono _ _ _ _)
      | (with_reducible exact tinderref01_shift.mono _ _ _ _)
      | (with_reducible exact LeO.refl _)
      | (with_reducible exact LeO.none _)
      | (with_reducible refine LeO.ite ?_ ?_)
      | (with_reducible refine LeO.bind ?_ (fun _ => ?_))
      | exact ih0 _ _ _ _ _ _ _
      | exact ih1 _ _ _ _ _ _ _
      | exact ih2 _ _ _ _
      | exact tinderref01_bits.mono _ _ _ _
      | exact tinderref01_shift.mono _ _ _ _
      | exact LeO.none _
      | refine LeO.ite ?_ ?_
      | refine LeO.bind ?_ (fun _ => ?_)
    · intro y0 y1 y2 y3 y4 y5 y6
      unfold tinderref01_Bin.j1
      repeat' first
      | (with_reducible exact ih0 _ _ _ _ _ _ _)
      | (with_reducible exact ih1 _ _ _ _ _ _ _)
      | (with_reducible exact ih2 _ _ _ _)
      | (with_reducible exact tinderref01_bits.mono _ _ _ _)
      | (with_reducible exact tinderref01_shift.mono _ _ _ _)
      | (with_reducible exact LeO.refl _)
      | (with_reducible exact LeO.none _)
      | (with_reducible refine LeO.ite ?_ ?_)
      | (with_reducible refine LeO.bind ?_ (fun _ => ?_))
      | exact ih0 _ _ _ _ _ _ _
      | exact ih1 _ _ _ _ _ _ _
      | exact ih2 _ _ _ _
      | exact tinderref01_bits.mono _ _ _ _
      | exact tinderref01_shift.mono _ _ _ _
      | exact LeO.none _
      | refine LeO.ite ?_ ?_
      | refine LeO.bind ?_ (fun _ => ?_)
    · intro y0 y1 y2 y3
      unfold tinderref01_Bin.j2
      repeat' first
      | (with_reducible exact ih0 _ _ _ _ _ _ _)
      | (with_reducible exact ih1 _ _ _ _ _ _ _)
      | (with_reducible exact ih2 _ _ _ _)
      | (with_reducible exact tinderref01_bits.mono _ _ _ _)
      | (with_reducible exact tinderref01_shift.mono _ _ _ _)
      | (with_reducible exact LeO.refl _)
      | (with_reducible exact LeO.none _)
      | (with_reducible refine LeO.ite ?_ ?_)
      | (with_reducible refine LeO.bind ?_ (fun _ => ?_))
      | exact ih0 _ _ _ _ _ _ _
      | exact ih1 _ _ _ _ _ _ _
      | exact ih2 _ _ _ _
      | exact tinderref01_bits.mono _ _ _ _
      | exact tinderref01_shift.mono _ _ _ _
      | exact LeO.none _
      | refine LeO.ite ?_ ?_
      | refine LeO.bind ?_ (fun _ => ?_)
theorem tinderref01_Bin.mono : ∀ a0 a1 a2 k, LeO (tinderref01_Bin.f k a0 a1 a2) (tinderref01_Bin.f (k + 1) a0 a1 a2) := by
  intro a0 a1 a2 k
  obtain ⟨ih0, ih1, ih2⟩ := tinderref01_Bin.mono_l k
  unfold tinderref01_Bin.f
  repeat' first
      | (with_reducible exact ih0 _ _ _ _ _ _ _)
      | (with_reducible exact ih1 _ _ _ _ _ _ _)
      | (with_reducible exact ih2 _ _ _ _)
      | (with_reducible exact tinderref01_bits.mono _ _ _ _)
      | (with_reducible exact tinderref01_shift.mono _ _ _ _)
      | (with_reducible exact LeO.refl _)
      | (with_reducible exact LeO.none _)
      | (with_reducible refine LeO.ite ?_ ?_)
      | (with_reducible refine LeO.bind ?_ (fun _ => ?_))
      | exact ih0 _ _ _ _ _ _ _
      | exact ih1 _ _ _ _ _ _ _
      | exact ih2 _ _ _ _
      | exact tinderref01_bits.mono _ _ _ _
      | exact tinderref01_shift.mono _ _ _ _
      | exact LeO.none _
      | refine LeO.ite ?_ ?_
      | refine LeO.bind ?_ (fun _ => ?_)
set_option maxHeartbeats 8000000 in
set_option maxRecDepth 100000 in
theorem tinderref01_Bin.calls (k : Nat) (a0 : Int) (a1 : Int) (a2 : Int) (r1 : Int) (r2 : Int) (w : World) (h : tinderref01_Bin.f k a0 a1 a2 = some (r1, r2)) :
    Calls Try.prog 11 #[.int .i64 a0, .int .u32 a1, .int .u32 a2] w fun e w' => e = .returned (.tuple #[.int .u32 r1, .int .i64 r2]) ∧ Below w.heap.size w w' := by
  have HB := Aside0.mk (Below.refl w.heap.size w)
  have H : ((tinderref01_Signed.f a1).bind fun t120 => ((tinderref01_Signed.f a2).bind fun t121 => (if a0 = 30 then ((tinderref01_Cell.f (wrap64 ((wrap64 (a1)) + (wrap64 (a2))))).bind fun t122 => (some (t122, 0))) else (if a0 = 31 then ((tinderref01_Cell.f (wrap64 (t120 - t121))).bind fun t123 => (some (t123, 0))) else (if a0 = 32 then ((tinderref01_Cell.f (wrap64 (t120 * t121))).bind fun t124 => (some (t124, 0))) else (if a0 = 35 then (tinderref01_Bin.j0 k a0 a1 a2 t120 t121 a0 (a0 == 35)) else (if a0 = 36 then (tinderref01_Bin.j0 k a0 a1 a2 t120 t121 a0 (a0 == 36)) else (tinderref01_Bin.j0 k a0 a1 a2 t120 t121 a0 (a0 == 37))))))))) = some (r1, r2) := h
  clear h
  replace H := Option.bind_eq_some_iff.mp H
  obtain ⟨t120, A40, H⟩ := H
  replace H : ((tinderref01_Signed.f a2).bind fun t121 => (if a0 = 30 then ((tinderref01_Cell.f (wrap64 ((wrap64 (a1)) + (wrap64 (a2))))).bind fun t122 => (some (t122, 0))) else (if a0 = 31 then ((tinderref01_Cell.f (wrap64 (t120 - t121))).bind fun t123 => (some (t123, 0))) else (if a0 = 32 then ((tinderref01_Cell.f (wrap64 (t120 * t121))).bind fun t124 => (some (t124, 0))) else (if a0 = 35 then (tinderref01_Bin.j0 k a0 a1 a2 t120 t121 a0 (a0 == 35)) else (if a0 = 36 then (tinderref01_Bin.j0 k a0 a1 a2 t120 t121 a0 (a0 == 36)) else (tinderref01_Bin.j0 k a0 a1 a2 t120 t121 a0 (a0 == 37)))))))) = some (r1, r2) := H
  have A4 := Aside0.mk A40
  clear A40
  replace H := Option.bind_eq_some_iff.mp H
  obtain ⟨t121, A50, H⟩ := H
  replace H : (if a0 = 30 then ((tinderref01_Cell.f (wrap64 ((wrap64 (a1)) + (wrap64 (a2))))).bind fun t122 => (some (t122, 0))) else (if a0 = 31 then ((tinderref01_Cell.f (wrap64 (t120 - t121))).bind fun t123 => (some (t123, 0))) else (if a0 = 32 then ((tinderref01_Cell.f (wrap64 (t120 * t121))).bind fun t124 => (some (t124, 0))) else (if a0 = 35 then (tinderref01_Bin.j0 k a0 a1 a2 t120 t121 a0 (a0 == 35)) else (if a0 = 36 then (tinderref01_Bin.j0 k a0 a1 a2 t120 t121 a0 (a0 == 36)) else (tinderref01_Bin.j0 k a0 a1 a2 t120 t121 a0 (a0 == 37))))))) = some (r1, r2) := H
  have A5 := Aside0.mk A50
  clear A50
  by_cases c6 : a0 = 30
  · rw [if_pos c6] at H
    have c6b0 : (a0 == 30) = true := beq_iff_eq.mpr c6
    have c6b1 : (a0 != 30) = false := bne_eq_false_iff_eq.mpr c6
    clear c6
    replace H := Option.bind_eq_some_iff.mp H
    obtain ⟨t122, A70, H⟩ := H
    replace H : (some (t122, 0)) = some (r1, r2) := H
    have A7 := Aside0.mk A70
    clear A70
    simp only [Option.some.injEq, Prod.mk.injEq] at H
    obtain ⟨rfl, rfl⟩ := H
    go_enter Try.func11, Try.ntmps11
    go_wp2_with (first | ((with_reducible refine gate_callee (f := 23) rfl ?_); refine goesL_ (some 13) rfl rfl Try.func23 (by kernel_rfl) rfl #[.int .u32 a1] rfl (by (try simp only [List.map_toArray, List.map_cons, List.map_nil]); first | done | rfl | (simp only [List.length_drop, List.length_take]; rfl)) ?_; (with_reducible refine (tinderref01_Signed.calls a1 t120 _ A4.out).mono ?_); rintro e w' ⟨rfl, ⟨nd, rfl⟩⟩; refine ⟨_, rfl, ?_⟩) | ((with_reducible refine gate_callee (f := 23) rfl ?_); refine goesL_ (some 15) rfl rfl Try.func23 (by kernel_rfl) rfl #[.int .u32 a2] rfl (by (try simp only [List.map_toArray, List.map_cons, List.map_nil]); first | done | rfl | (simp only [List.length_drop, List.length_take]; rfl)) ?_; (with_reducible refine (tinderref01_Signed.calls a2 t121 _ A5.out).mono ?_); rintro e w' ⟨rfl, ⟨nd, rfl⟩⟩; refine ⟨_, rfl, ?_⟩) | ((with_reducible refine gate_callee (f := 24) rfl ?_); refine goesL_ (some 24) rfl rfl Try.func24 (by kernel_rfl) rfl #[.int .i64 (wrap64 ((wrap64 (a1)) + (wrap64 (a2))))] rfl (by (try simp only [List.map_toArray, List.map_cons, List.map_nil]); first | done | rfl | (simp only [List.length_drop, List.length_take]; rfl)) ?_; (with_reducible refine (tinderref01_Cell.calls (wrap64 ((wrap64 (a1)) + (wrap64 (a2)))) t122 _ A7.out).mono ?_); rintro e w' ⟨rfl, ⟨nd, rfl⟩⟩; refine ⟨_, rfl, ?_⟩))
    go_ret2
    exact ⟨by first | rfl | (simp [errW_none, errW_some] <;> rfl) | (simp [*, errW_none, errW_some] <;> rfl) | (simp [errW_none, errW_some] <;> omega) | (simp [*, errW_none, errW_some] <;> omega), by repeat (first | (with_reducible first | exact HB.out | apply below_alloc | apply pw_below_drewN | apply below_drew1) | exact HB.out)⟩
  · rw [if_neg c6] at H
    have c6b0 : (a0 == 30) = false := beq_eq_false_iff_ne.mpr c6
    have c6b1 : (a0 != 30) = true := bne_iff_ne.mpr c6
    by_cases c8 : a0 = 31
    · rw [if_pos c8] at H
      have c8b0 : (a0 == 31) = true := beq_iff_eq.mpr c8
      have c8b1 : (a0 != 31) = false := bne_eq_false_iff_eq.mpr c8
      clear c8
      replace H := Option.bind_eq_some_iff.mp H
      obtain ⟨t123, A90, H⟩ := H
      replace H : (some (t123, 0)) = some (r1, r2) := H
      have A9 := Aside0.mk A90
      clear A90
      simp only [Option.some.injEq, Prod.mk.injEq] at H
      obtain ⟨rfl, rfl⟩ := H
      go_enter Try.func11, Try.ntmps11
      go_wp2_with (first | ((with_reducible refine gate_callee (f := 23) rfl ?_); refine goesL_ (some 13) rfl rfl Try.func23 (by kernel_rfl) rfl #[.int .u32 a1] rfl (by (try simp only [List.map_toArray, List.map_cons, List.map_nil]); first | done | rfl | (simp only [List.length_drop, List.length_take]; rfl)) ?_; (with_reducible refine (tinderref01_Signed.calls a1 t120 _ A4.out).mono ?_); rintro e w' ⟨rfl, ⟨nd, rfl⟩⟩; refine ⟨_, rfl, ?_⟩) | ((with_reducible refine gate_callee (f := 23) rfl ?_); refine goesL_ (some 15) rfl rfl Try.func23 (by kernel_rfl) rfl #[.int .u32 a2] rfl (by (try simp only [List.map_toArray, List.map_cons, List.map_nil]); first | done | rfl | (simp only [List.length_drop, List.length_take]; rfl)) ?_; (with_reducible refine (tinderref01_Signed.calls a2 t121 _ A5.out).mono ?_); rintro e w' ⟨rfl, ⟨nd, rfl⟩⟩; refine ⟨_, rfl, ?_⟩) | ((with_reducible refine gate_callee (f := 24) rfl ?_); refine goesL_ (some 30) rfl rfl Try.func24 (by kernel_rfl) rfl #[.int .i64 (wrap64 (t120 - t121))] rfl (by (try simp only [List.map_toArray, List.map_cons, List.map_nil]); first | done | rfl | (simp only [List.length_drop, List.length_take]; rfl)) ?_; (with_reducible refine (tinderref01_Cell.calls (wrap64 (t120 - t121)) t123 _ A9.out).mono ?_); rintro e w' ⟨rfl, ⟨nd, rfl⟩⟩; refine ⟨_, rfl, ?_⟩))
      go_ret2
      exact ⟨by first | rfl | (simp [errW_none, errW_some] <;> rfl) | (simp [*, errW_none, errW_some] <;> rfl) | (simp [errW_none, errW_some] <;> omega) | (simp [*, errW_none, errW_some] <;> omega), by repeat (first | (with_reducible first | exact HB.out | apply below_alloc | apply pw_below_drewN | apply below_drew1) | exact HB.out)⟩
    · rw [if_neg c8] at H
      have c8b0 : (a0 == 31) = false := beq_eq_false_iff_ne.mpr c8
      have c8b1 : (a0 != 31) = true := bne_iff_ne.mpr c8
      by_cases c10 : a0 = 32
      · rw [if_pos c10] at H
        have c10b0 : (a0 == 32) = true := beq_iff_eq.mpr c10
        have c10b1 : (a0 != 32) = false := bne_eq_false_iff_eq.mpr c10
        clear c10
        replace H := Option.bind_eq_some_iff.mp H
        obtain ⟨t124, A110, H⟩ := H
        replace H : (some (t124, 0)) = some (r1, r2) := H
        have A11 := Aside0.mk A110
        clear A110
        simp only [Option.some.injEq, Prod.mk.injEq] at H
        obtain ⟨rfl, rfl⟩ := H
        go_enter Try.func11, Try.ntmps11
        go_wp2_with (first | ((with_reducible refine gate_callee (f := 23) rfl ?_); refine goesL_ (some 13) rfl rfl Try.func23 (by kernel_rfl) rfl #[.int .u32 a1] rfl (by (try simp only [List.map_toArray, List.map_cons, List.map_nil]); first | done | rfl | (simp only [List.length_drop, List.length_take]; rfl)) ?_; (with_reducible refine (tinderref01_Signed.calls a1 t120 _ A4.out).mono ?_); rintro e w' ⟨rfl, ⟨nd, rfl⟩⟩; refine ⟨_, rfl, ?_⟩) | ((with_reducible refine gate_callee (f := 23) rfl ?_); refine goesL_ (some 15) rfl rfl Try.func23 (by kernel_rfl) rfl #[.int .u32 a2] rfl (by (try simp only [List.map_toArray, List.map_cons, List.map_nil]); first | done | rfl | (simp only [List.length_drop, List.length_take]; rfl)) ?_; (with_reducible refine (tinderref01_Signed.calls a2 t121 _ A5.out).mono ?_); rintro e w' ⟨rfl, ⟨nd, rfl⟩⟩; refine ⟨_, rfl, ?_⟩) | ((with_reducible refine gate_callee (f := 24) rfl ?_); refine goesL_ (some 36) rfl rfl Try.func24 (by kernel_rfl) rfl #[.int .i64 (wrap64 (t120 * t121))] rfl (by (try simp only [List.map_toArray, List.map_cons, List.map_nil]); first | done | rfl | (simp only [List.length_drop, List.length_take]; rfl)) ?_; (with_reducible refine (tinderref01_Cell.calls (wrap64 (t120 * t121)) t124 _ A11.out).mono ?_); rintro e w' ⟨rfl, ⟨nd, rfl⟩⟩; refine ⟨_, rfl, ?_⟩))
        go_ret2
        exact ⟨by first | rfl | (simp [errW_none, errW_some] <;> rfl) | (simp [*, errW_none, errW_some] <;> rfl) | (simp [errW_none, errW_some] <;> omega) | (simp [*, errW_none, errW_some] <;> omega), by repeat (first | (with_reducible first | exact HB.out | apply below_alloc | apply pw_below_drewN | apply below_drew1) | exact HB.out)⟩
      · rw [if_neg c10] at H
        have c10b0 : (a0 == 32) = false := beq_eq_false_iff_ne.mpr c10
        have c10b1 : (a0 != 32) = true := bne_iff_ne.mpr c10
        have HC12 := Aside0.mk H
        clear H
        go_enter Try.func11, Try.ntmps11
        go_upto_if 37 with (first | ((with_reducible refine gate_callee (f := 23) rfl ?_); refine goesL_ (some 13) rfl rfl Try.func23 (by kernel_rfl) rfl #[.int .u32 a1] rfl (by (try simp only [List.map_toArray, List.map_cons, List.map_nil]); first | done | rfl | (simp only [List.length_drop, List.length_take]; rfl)) ?_; (with_reducible refine (tinderref01_Signed.calls a1 t120 _ A4.out).mono ?_); rintro e w' ⟨rfl, ⟨nd, rfl⟩⟩; refine ⟨_, rfl, ?_⟩) | ((with_reducible refine gate_callee (f := 23) rfl ?_); refine goesL_ (some 15) rfl rfl Try.func23 (by kernel_rfl) rfl #[.int .u32 a2] rfl (by (try simp only [List.map_toArray, List.map_cons, List.map_nil]); first | done | rfl | (simp only [List.length_drop, List.length_take]; rfl)) ?_; (with_reducible refine (tinderref01_Signed.calls a2 t121 _ A5.out).mono ?_); rintro e w' ⟨rfl, ⟨nd, rfl⟩⟩; refine ⟨_, rfl, ?_⟩))
        (try simp only [Act.put, List.setIfInBounds_toArray, List.set_cons_zero, List.set_cons_succ])
        go_cut [37] (fun v37 wc => ∃ (kq : Nat) (x37_11 : Bool), v37 = .bool x37_11 ∧ Aside0 (tinderref01_Bin.j0 kq a0 a1 a2 t120 t121 a0 x37_11 = some (r1, r2)) ∧ Aside0 (kq ≤ k) ∧ Aside0 (Below w.heap.size w wc))
        case first =>
          have H := HC12.out
          clear HC12
          by_cases c13 : a0 = 35
          · rw [if_pos c13] at H
            have c13b0 : (a0 == 35) = true := beq_iff_eq.mpr c13
            have c13b1 : (a0 != 35) = false := bne_eq_false_iff_eq.mpr c13
            clear c13
            (first | rw [c13b0] | (simp only [i64_w, i32_w]; rw [c13b0]) | skip)
            have H' := Aside0.mk H
            clear H
            go_wp2
            go_meet
            case rel => exact ⟨_, ((a0 == 35)), (by first | rfl | (simp; done) | (simp [*]; done) | (simp <;> omega) | (simp [*] <;> omega)), H', ⟨by first | omega | exact Nat.le_refl _⟩, ⟨by repeat (first | (with_reducible first | exact HB.out | apply below_alloc | apply pw_below_drewN | apply below_drew1) | exact HB.out)⟩⟩
          · rw [if_neg c13] at H
            have c13b0 : (a0 == 35) = false := beq_eq_false_iff_ne.mpr c13
            have c13b1 : (a0 != 35) = true := bne_iff_ne.mpr c13
            (first | rw [c13b0] | (simp only [i64_w, i32_w]; rw [c13b0]) | skip)
            by_cases c14 : a0 = 36
            · rw [if_pos c14] at H
              have c14b0 : (a0 == 36) = true := beq_iff_eq.mpr c14
              have c14b1 : (a0 != 36) = false := bne_eq_false_iff_eq.mpr c14
              clear c14
              have H' := Aside0.mk H
              clear H
              go_wp2
              go_meet
              case rel => exact ⟨_, ((a0 == 36)), (by first | rfl | (simp; done) | (simp [*]; done) | (simp <;> omega) | (simp [*] <;> omega)), H', ⟨by first | omega | exact Nat.le_refl _⟩, ⟨by repeat (first | (with_reducible first | exact HB.out | apply below_alloc | apply pw_below_drewN | apply below_drew1) | exact HB.out)⟩⟩
            · rw [if_neg c14] at H
              have c14b0 : (a0 == 36) = false := beq_eq_false_iff_ne.mpr c14
              have c14b1 : (a0 != 36) = true := bne_iff_ne.mpr c14
              have H' := Aside0.mk H
              clear H
              go_wp2
              go_meet
              case rel => exact ⟨_, ((a0 == 37)), (by first | rfl | (simp; done) | (simp [*]; done) | (simp <;> omega) | (simp [*] <;> omega)), H', ⟨by first | omega | exact Nat.le_refl _⟩, ⟨by repeat (first | (with_reducible first | exact HB.out | apply below_alloc | apply pw_below_drewN | apply below_drew1) | exact HB.out)⟩⟩
        case rest =>
          clear HC12
          try clear c1
          try clear c2
          try clear p2
          try clear c6
          try clear c6b0
          try clear c6b1
          try clear p6
          try clear c8
          try clear c8b0
          try clear c8b1
          try clear c10
          try clear c10b0
          try clear c10b1
          try clear c11
          try clear c13
          try clear c13b0
          try clear c13b1
          try clear c14
          try clear c14b0
          try clear c14b1
          obtain ⟨kq, x37_11, rfl, HA, HJ11, HB⟩ := hcut
          cases kq with
          | zero => exact absurd HA.out (by simp [tinderref01_Bin.j0])
          | succ kj11 =>
            have H := HA.out
            clear HA
            simp only [tinderref01_Bin.j0] at H
            by_cases c15 : x37_11 = true
            · subst c15
              have H1 : ((tinderref01_bits.f kj11 a0 a1 a2).bind fun t125 => (some (t125, 0))) = some (r1, r2) := by rw [if_pos rfl] at H; exact H
              clear H
              have H := H1
              clear H1
              replace H := Option.bind_eq_some_iff.mp H
              obtain ⟨t125, A160, H⟩ := H
              replace H : (some (t125, 0)) = some (r1, r2) := H
              have A16 := Aside0.mk A160
              clear A160
              simp only [Option.some.injEq, Prod.mk.injEq] at H
              obtain ⟨rfl, rfl⟩ := H
              go_wp2_with (first | ((with_reducible refine gate_callee (f := 25) rfl ?_); refine goesL_ (some 44) rfl rfl Try.func25 (by kernel_rfl) rfl #[.int .i64 a0, .int .u32 a1, .int .u32 a2] rfl (by (try simp only [List.map_toArray, List.map_cons, List.map_nil]); first | done | rfl | (simp only [List.length_drop, List.length_take]; rfl)) ?_; (with_reducible refine (tinderref01_bits.calls kj11 a0 a1 a2 t125 _ A16.out).mono ?_); rintro e w' ⟨rfl, ⟨nd, rfl⟩⟩; refine ⟨_, rfl, ?_⟩))
              go_ret2
              exact ⟨by first | rfl | (simp [errW_none, errW_some] <;> rfl) | (simp [*, errW_none, errW_some] <;> rfl) | (simp [errW_none, errW_some] <;> omega) | (simp [*, errW_none, errW_some] <;> omega), by repeat (first | (with_reducible first | exact HB.out | apply below_alloc | apply pw_below_drewN | apply below_drew1) | exact HB.out)⟩
            · replace c15 := Bool.eq_false_iff.mpr c15
              subst c15
              have H1 : (if a0 = 39 then (tinderref01_Bin.j1 kj11 a0 a1 a2 t120 t121 a0 (a0 == 39)) else (if a0 = 40 then (tinderref01_Bin.j1 kj11 a0 a1 a2 t120 t121 a0 (a0 == 40)) else (tinderref01_Bin.j1 kj11 a0 a1 a2 t120 t121 a0 (a0 == 41)))) = some (r1, r2) := by rw [if_neg (show ¬ (false = true) by decide)] at H; exact H
              clear H
              have H := H1
              clear H1
              have HC17 := Aside0.mk H
              clear H
              go_upto_if 45 with (fail)
              go_cut [45] (fun v45 wc => ∃ (kq : Nat) (x45_16 : Bool), v45 = .bool x45_16 ∧ Aside0 (tinderref01_Bin.j1 kq a0 a1 a2 t120 t121 a0 x45_16 = some (r1, r2)) ∧ Aside0 (kq ≤ kj11) ∧ Aside0 (Below w.heap.size w wc))
              case first =>
                have H := HC17.out
                clear HC17
                by_cases c18 : a0 = 39
                · rw [if_pos c18] at H
                  have c18b0 : (a0 == 39) = true := beq_iff_eq.mpr c18
                  have c18b1 : (a0 != 39) = false := bne_eq_false_iff_eq.mpr c18
                  clear c18
                  (first | rw [c18b0] | (simp only [i64_w, i32_w]; rw [c18b0]) | skip)
                  have H' := Aside0.mk H
                  clear H
                  go_wp2
                  go_meet
                  case rel => exact ⟨_, ((a0 == 39)), (by first | rfl | (simp; done) | (simp [*]; done) | (simp <;> omega) | (simp [*] <;> omega)), H', ⟨by have := HJ11.out; first | omega | exact Nat.le_refl _⟩, ⟨by repeat (first | (with_reducible first | exact HB.out | apply below_alloc | apply pw_below_drewN | apply below_drew1) | exact HB.out)⟩⟩
                · rw [if_neg c18] at H
                  have c18b0 : (a0 == 39) = false := beq_eq_false_iff_ne.mpr c18
                  have c18b1 : (a0 != 39) = true := bne_iff_ne.mpr c18
                  (first | rw [c18b0] | (simp only [i64_w, i32_w]; rw [c18b0]) | skip)
                  by_cases c19 : a0 = 40
                  · rw [if_pos c19] at H
                    have c19b0 : (a0 == 40) = true := beq_iff_eq.mpr c19
                    have c19b1 : (a0 != 40) = false := bne_eq_false_iff_eq.mpr c19
                    clear c19
                    have H' := Aside0.mk H
                    clear H
                    go_wp2
                    go_meet
                    case rel => exact ⟨_, ((a0 == 40)), (by first | rfl | (simp; done) | (simp [*]; done) | (simp <;> omega) | (simp [*] <;> omega)), H', ⟨by have := HJ11.out; first | omega | exact Nat.le_refl _⟩, ⟨by repeat (first | (with_reducible first | exact HB.out | apply below_alloc | apply pw_below_drewN | apply below_drew1) | exact HB.out)⟩⟩
                  · rw [if_neg c19] at H
                    have c19b0 : (a0 == 40) = false := beq_eq_false_iff_ne.mpr c19
                    have c19b1 : (a0 != 40) = true := bne_iff_ne.mpr c19
                    have H' := Aside0.mk H
                    clear H
                    go_wp2
                    go_meet
                    case rel => exact ⟨_, ((a0 == 41)), (by first | rfl | (simp; done) | (simp [*]; done) | (simp <;> omega) | (simp [*] <;> omega)), H', ⟨by have := HJ11.out; first | omega | exact Nat.le_refl _⟩, ⟨by repeat (first | (with_reducible first | exact HB.out | apply below_alloc | apply pw_below_drewN | apply below_drew1) | exact HB.out)⟩⟩
              case rest =>
                clear HC17
                try clear c1
                try clear c2
                try clear p2
                try clear c6
                try clear c6b0
                try clear c6b1
                try clear p6
                try clear c8
                try clear c8b0
                try clear c8b1
                try clear c10
                try clear c10b0
                try clear c10b1
                try clear c11
                try clear c13
                try clear c13b0
                try clear c13b1
                try clear c14
                try clear c14b0
                try clear c14b1
                try clear c15
                try clear c18
                try clear c18b0
                try clear c18b1
                try clear c19
                try clear c19b0
                try clear c19b1
                try clear p2
                try clear p6
                obtain ⟨kq, x45_16, rfl, HA, HJ16, HB⟩ := hcut
                cases kq with
                | zero => exact absurd HA.out (by simp [tinderref01_Bin.j1])
                | succ kj16 =>
                  have H := HA.out
                  clear HA
                  simp only [tinderref01_Bin.j1] at H
                  by_cases c20 : x45_16 = true
                  · subst c20
                    have H1 : ((tinderref01_shift.f kj16 a0 a1 a2).bind fun t126 => (some (t126, 0))) = some (r1, r2) := by rw [if_pos rfl] at H; exact H
                    clear H
                    have H := H1
                    clear H1
                    replace H := Option.bind_eq_some_iff.mp H
                    obtain ⟨t126, A210, H⟩ := H
                    replace H : (some (t126, 0)) = some (r1, r2) := H
                    have A21 := Aside0.mk A210
                    clear A210
                    simp only [Option.some.injEq, Prod.mk.injEq] at H
                    obtain ⟨rfl, rfl⟩ := H
                    go_wp2_with (first | ((with_reducible refine gate_callee (f := 26) rfl ?_); refine goesL_ (some 52) rfl rfl Try.func26 (by kernel_rfl) rfl #[.int .i64 a0, .int .u32 a1, .int .u32 a2] rfl (by (try simp only [List.map_toArray, List.map_cons, List.map_nil]); first | done | rfl | (simp only [List.length_drop, List.length_take]; rfl)) ?_; (with_reducible refine (tinderref01_shift.calls kj16 a0 a1 a2 t126 _ A21.out).mono ?_); rintro e w22 ⟨rfl, hb⟩; refine ⟨_, rfl, ?_⟩; have n0_ := Aside0.mk (below_step (by repeat (first | (with_reducible first | exact HB.out | apply below_alloc | apply pw_below_drewN | apply below_drew1) | exact HB.out)) hb); clear HB; have HB := n0_; clear n0_; (try clear hb); (try clear hb2); (try clear hk); (try clear hi)))
                    go_ret2
                    exact ⟨by first | rfl | (simp [errW_none, errW_some] <;> rfl) | (simp [*, errW_none, errW_some] <;> rfl) | (simp [errW_none, errW_some] <;> omega) | (simp [*, errW_none, errW_some] <;> omega), by repeat (first | (with_reducible first | exact HB.out | apply below_alloc | apply pw_below_drewN | apply below_drew1) | exact HB.out)⟩
                  · replace c20 := Bool.eq_false_iff.mpr c20
                    subst c20
                    have H1 : (if a0 = 46 then ((tinderref01_Cell.f (mn t120 t121)).bind fun t127 => (some (t127, 0))) else (if a0 = 47 then ((tinderref01_Cell.f (mx t120 t121)).bind fun t128 => (some (t128, 0))) else (if a0 = 58 then ((tinderref01_Flag.f (decide (t120 < t121))).bind fun t129 => (some (t129, 0))) else (if a0 = 59 then ((tinderref01_Flag.f (decide (t120 > t121))).bind fun t130 => (some (t130, 0))) else (if a0 = 60 then ((tinderref01_Flag.f (a1 == a2)).bind fun t131 => (some (t131, 0))) else (if a0 = 61 then ((tinderref01_Flag.f (a1 != a2)).bind fun t132 => (some (t132, 0))) else (if a0 = 62 then ((tinderref01_Flag.f (decide (a1 > a2))).bind fun t133 => (some (t133, 0))) else (if a0 = 63 then ((tinderref01_Flag.f (decide (a1 ≤ a2))).bind fun t134 => (some (t134, 0))) else (if a0 = 64 then ((tinderref01_Flag.f (decide (a1 < a2))).bind fun t135 => (some (t135, 0))) else (if a0 = 65 then ((tinderref01_Flag.f (decide (a1 ≥ a2))).bind fun t136 => (some (t136, 0))) else (if a0 = 66 then ((tinderref01_Flag.f (decide (t120 ≥ t121))).bind fun t137 => (some (t137, 0))) else (if a0 = 67 then ((tinderref01_Flag.f (decide (t120 ≤ t121))).bind fun t138 => (some (t138, 0))) else (if a0 = 33 then (tinderref01_Bin.j2 kj16 a0 t120 t121 (a0 == 33)) else (tinderref01_Bin.j2 kj16 a0 t120 t121 (a0 == 34))))))))))))))) = some (r1, r2) := by rw [if_neg (show ¬ (false = true) by decide)] at H; exact H
                    clear H
                    have H := H1
                    clear H1
                    by_cases c23 : a0 = 46
                    · rw [if_pos c23] at H
                      have c23b0 : (a0 == 46) = true := beq_iff_eq.mpr c23
                      have c23b1 : (a0 != 46) = false := bne_eq_false_iff_eq.mpr c23
                      clear c23
                      obtain ⟨ji24, hji24⟩ : ∃ j_ : Int, (mn t120 t121) = j_ := ⟨_, rfl⟩
                      replace H : ((tinderref01_Cell.f (ji24)).bind fun t127 => (some (t127, 0))) = some (r1, r2) := by first | (rw [hji24] at H; exact H) | (simp only [hji24] at H ⊢; exact H)
                      have hji24_ : (if t121 < t120 then t121 else t120) = ji24 := hji24
                      replace H := Option.bind_eq_some_iff.mp H
                      obtain ⟨t127, A250, H⟩ := H
                      replace H : (some (t127, 0)) = some (r1, r2) := H
                      have A25 := Aside0.mk A250
                      clear A250
                      simp only [Option.some.injEq, Prod.mk.injEq] at H
                      obtain ⟨rfl, rfl⟩ := H
                      go_wp2_with (first | ((with_reducible refine gate_callee (f := 24) rfl ?_); refine goesL_ (some 58) rfl rfl Try.func24 (by kernel_rfl) rfl #[.int .i64 ji24] rfl (by (try simp only [List.map_toArray, List.map_cons, List.map_nil]); first | done | (simp only [hji24]; rfl) | rfl | (simp only [List.length_drop, List.length_take]; rfl)) ?_; (with_reducible refine (tinderref01_Cell.calls ji24 t127 _ A25.out).mono ?_); rintro e w' ⟨rfl, ⟨nd, rfl⟩⟩; refine ⟨_, rfl, ?_⟩))
                      go_ret2
                      exact ⟨by first | rfl | (simp [errW_none, errW_some] <;> rfl) | (simp only [← hji24]; first | rfl | (simp [errW_none, errW_some] <;> rfl)) | (simp [*, errW_none, errW_some] <;> rfl) | (simp [errW_none, errW_some] <;> omega) | (simp [*, errW_none, errW_some] <;> omega), by repeat (first | (with_reducible first | exact HB.out | apply below_alloc | apply pw_below_drewN | apply below_drew1) | exact HB.out)⟩
                    · rw [if_neg c23] at H
                      have c23b0 : (a0 == 46) = false := beq_eq_false_iff_ne.mpr c23
                      have c23b1 : (a0 != 46) = true := bne_iff_ne.mpr c23
                      by_cases c26 : a0 = 47
                      · rw [if_pos c26] at H
                        have c26b0 : (a0 == 47) = true := beq_iff_eq.mpr c26
                        have c26b1 : (a0 != 47) = false := bne_eq_false_iff_eq.mpr c26
                        clear c26
                        obtain ⟨ji27, hji27⟩ : ∃ j_ : Int, (mx t120 t121) = j_ := ⟨_, rfl⟩
                        replace H : ((tinderref01_Cell.f (ji27)).bind fun t128 => (some (t128, 0))) = some (r1, r2) := by first | (rw [hji27] at H; exact H) | (simp only [hji27] at H ⊢; exact H)
                        have hji27_ : (if t120 < t121 then t121 else t120) = ji27 := hji27
                        replace H := Option.bind_eq_some_iff.mp H
                        obtain ⟨t128, A280, H⟩ := H
                        replace H : (some (t128, 0)) = some (r1, r2) := H
                        have A28 := Aside0.mk A280
                        clear A280
                        simp only [Option.some.injEq, Prod.mk.injEq] at H
                        obtain ⟨rfl, rfl⟩ := H
                        go_wp2_with (first | ((with_reducible refine gate_callee (f := 24) rfl ?_); refine goesL_ (some 64) rfl rfl Try.func24 (by kernel_rfl) rfl #[.int .i64 ji27] rfl (by (try simp only [List.map_toArray, List.map_cons, List.map_nil]); first | done | (simp only [hji27]; rfl) | rfl | (simp only [List.length_drop, List.length_take]; rfl)) ?_; (with_reducible refine (tinderref01_Cell.calls ji27 t128 _ A28.out).mono ?_); rintro e w' ⟨rfl, ⟨nd, rfl⟩⟩; refine ⟨_, rfl, ?_⟩))
                        go_ret2
                        exact ⟨by first | rfl | (simp [errW_none, errW_some] <;> rfl) | (simp only [← hji27]; first | rfl | (simp [errW_none, errW_some] <;> rfl)) | (simp [*, errW_none, errW_some] <;> rfl) | (simp [errW_none, errW_some] <;> omega) | (simp [*, errW_none, errW_some] <;> omega), by repeat (first | (with_reducible first | exact HB.out | apply below_alloc | apply pw_below_drewN | apply below_drew1) | exact HB.out)⟩
                      · rw [if_neg c26] at H
                        have c26b0 : (a0 == 47) = false := beq_eq_false_iff_ne.mpr c26
                        have c26b1 : (a0 != 47) = true := bne_iff_ne.mpr c26
                        by_cases c29 : a0 = 58
                        · rw [if_pos c29] at H
                          have c29b0 : (a0 == 58) = true := beq_iff_eq.mpr c29
                          have c29b1 : (a0 != 58) = false := bne_eq_false_iff_eq.mpr c29
                          clear c29
                          replace H := Option.bind_eq_some_iff.mp H
                          obtain ⟨t129, A300, H⟩ := H
                          replace H : (some (t129, 0)) = some (r1, r2) := H
                          have A30 := Aside0.mk A300
                          clear A300
                          simp only [Option.some.injEq, Prod.mk.injEq] at H
                          obtain ⟨rfl, rfl⟩ := H
                          go_wp2_with (first | ((with_reducible refine gate_callee (f := 27) rfl ?_); refine goesL_ (some 70) rfl rfl Try.func27 (by kernel_rfl) rfl #[.bool (decide (t120 < t121))] rfl (by (try simp only [List.map_toArray, List.map_cons, List.map_nil]); first | done | rfl | (simp only [List.length_drop, List.length_take]; rfl)) ?_; (with_reducible refine (tinderref01_Flag.calls (decide (t120 < t121)) t129 _ A30.out).mono ?_); rintro e w' ⟨rfl, ⟨nd, rfl⟩⟩; refine ⟨_, rfl, ?_⟩))
                          go_ret2
                          exact ⟨by first | rfl | (simp [errW_none, errW_some] <;> rfl) | (simp [*, errW_none, errW_some] <;> rfl) | (simp [errW_none, errW_some] <;> omega) | (simp [*, errW_none, errW_some] <;> omega), by repeat (first | (with_reducible first | exact HB.out | apply below_alloc | apply pw_below_drewN | apply below_drew1) | exact HB.out)⟩
                        · rw [if_neg c29] at H
                          have c29b0 : (a0 == 58) = false := beq_eq_false_iff_ne.mpr c29
                          have c29b1 : (a0 != 58) = true := bne_iff_ne.mpr c29
                          by_cases c31 : a0 = 59
                          · rw [if_pos c31] at H
                            have c31b0 : (a0 == 59) = true := beq_iff_eq.mpr c31
                            have c31b1 : (a0 != 59) = false := bne_eq_false_iff_eq.mpr c31
                            clear c31
                            replace H := Option.bind_eq_some_iff.mp H
                            obtain ⟨t130, A320, H⟩ := H
                            replace H : (some (t130, 0)) = some (r1, r2) := H
                            have A32 := Aside0.mk A320
                            clear A320
                            simp only [Option.some.injEq, Prod.mk.injEq] at H
                            obtain ⟨rfl, rfl⟩ := H
                            go_wp2_with (first | ((with_reducible refine gate_callee (f := 27) rfl ?_); refine goesL_ (some 76) rfl rfl Try.func27 (by kernel_rfl) rfl #[.bool (decide (t120 > t121))] rfl (by (try simp only [List.map_toArray, List.map_cons, List.map_nil]); first | done | rfl | (simp only [List.length_drop, List.length_take]; rfl)) ?_; (with_reducible refine (tinderref01_Flag.calls (decide (t120 > t121)) t130 _ A32.out).mono ?_); rintro e w' ⟨rfl, ⟨nd, rfl⟩⟩; refine ⟨_, rfl, ?_⟩))
                            go_ret2
                            exact ⟨by first | rfl | (simp [errW_none, errW_some] <;> rfl) | (simp [*, errW_none, errW_some] <;> rfl) | (simp [errW_none, errW_some] <;> omega) | (simp [*, errW_none, errW_some] <;> omega), by repeat (first | (with_reducible first | exact HB.out | apply below_alloc | apply pw_below_drewN | apply below_drew1) | exact HB.out)⟩
                          · rw [if_neg c31] at H
                            have c31b0 : (a0 == 59) = false := beq_eq_false_iff_ne.mpr c31
                            have c31b1 : (a0 != 59) = true := bne_iff_ne.mpr c31
                            by_cases c33 : a0 = 60
                            · rw [if_pos c33] at H
                              have c33b0 : (a0 == 60) = true := beq_iff_eq.mpr c33
                              have c33b1 : (a0 != 60) = false := bne_eq_false_iff_eq.mpr c33
                              clear c33
                              replace H := Option.bind_eq_some_iff.mp H
                              obtain ⟨t131, A340, H⟩ := H
                              replace H : (some (t131, 0)) = some (r1, r2) := H
                              have A34 := Aside0.mk A340
                              clear A340
                              simp only [Option.some.injEq, Prod.mk.injEq] at H
                              obtain ⟨rfl, rfl⟩ := H
                              go_wp2_with (first | ((with_reducible refine gate_callee (f := 27) rfl ?_); refine goesL_ (some 82) rfl rfl Try.func27 (by kernel_rfl) rfl #[.bool (a1 == a2)] rfl (by (try simp only [List.map_toArray, List.map_cons, List.map_nil]); first | done | rfl | (simp only [List.length_drop, List.length_take]; rfl)) ?_; (with_reducible refine (tinderref01_Flag.calls (a1 == a2) t131 _ A34.out).mono ?_); rintro e w' ⟨rfl, ⟨nd, rfl⟩⟩; refine ⟨_, rfl, ?_⟩))
                              go_ret2
                              exact ⟨by first | rfl | (simp [errW_none, errW_some] <;> rfl) | (simp [*, errW_none, errW_some] <;> rfl) | (simp [errW_none, errW_some] <;> omega) | (simp [*, errW_none, errW_some] <;> omega), by repeat (first | (with_reducible first | exact HB.out | apply below_alloc | apply pw_below_drewN | apply below_drew1) | exact HB.out)⟩
                            · rw [if_neg c33] at H
                              have c33b0 : (a0 == 60) = false := beq_eq_false_iff_ne.mpr c33
                              have c33b1 : (a0 != 60) = true := bne_iff_ne.mpr c33
                              by_cases c35 : a0 = 61
                              · rw [if_pos c35] at H
                                have c35b0 : (a0 == 61) = true := beq_iff_eq.mpr c35
                                have c35b1 : (a0 != 61) = false := bne_eq_false_iff_eq.mpr c35
                                clear c35
                                replace H := Option.bind_eq_some_iff.mp H
                                obtain ⟨t132, A360, H⟩ := H
                                replace H : (some (t132, 0)) = some (r1, r2) := H
                                have A36 := Aside0.mk A360
                                clear A360
                                simp only [Option.some.injEq, Prod.mk.injEq] at H
                                obtain ⟨rfl, rfl⟩ := H
                                go_wp2_with (first | ((with_reducible refine gate_callee (f := 27) rfl ?_); refine goesL_ (some 88) rfl rfl Try.func27 (by kernel_rfl) rfl #[.bool (a1 != a2)] rfl (by (try simp only [List.map_toArray, List.map_cons, List.map_nil]); first | done | rfl | (simp only [List.length_drop, List.length_take]; rfl)) ?_; (with_reducible refine (tinderref01_Flag.calls (a1 != a2) t132 _ A36.out).mono ?_); rintro e w' ⟨rfl, ⟨nd, rfl⟩⟩; refine ⟨_, rfl, ?_⟩))
                                go_ret2
                                exact ⟨by first | rfl | (simp [errW_none, errW_some] <;> rfl) | (simp [*, errW_none, errW_some] <;> rfl) | (simp [errW_none, errW_some] <;> omega) | (simp [*, errW_none, errW_some] <;> omega), by repeat (first | (with_reducible first | exact HB.out | apply below_alloc | apply pw_below_drewN | apply below_drew1) | exact HB.out)⟩
                              · rw [if_neg c35] at H
                                have c35b0 : (a0 == 61) = false := beq_eq_false_iff_ne.mpr c35
                                have c35b1 : (a0 != 61) = true := bne_iff_ne.mpr c35
                                by_cases c37 : a0 = 62
                                · rw [if_pos c37] at H
                                  have c37b0 : (a0 == 62) = true := beq_iff_eq.mpr c37
                                  have c37b1 : (a0 != 62) = false := bne_eq_false_iff_eq.mpr c37
                                  clear c37
                                  replace H := Option.bind_eq_some_iff.mp H
                                  obtain ⟨t133, A380, H⟩ := H
                                  replace H : (some (t133, 0)) = some (r1, r2) := H
                                  have A38 := Aside0.mk A380
                                  clear A380
                                  simp only [Option.some.injEq, Prod.mk.injEq] at H
                                  obtain ⟨rfl, rfl⟩ := H
                                  go_wp2_with (first | ((with_reducible refine gate_callee (f := 27) rfl ?_); refine goesL_ (some 94) rfl rfl Try.func27 (by kernel_rfl) rfl #[.bool (decide (a1 > a2))] rfl (by (try simp only [List.map_toArray, List.map_cons, List.map_nil]); first | done | rfl | (simp only [List.length_drop, List.length_take]; rfl)) ?_; (with_reducible refine (tinderref01_Flag.calls (decide (a1 > a2)) t133 _ A38.out).mono ?_); rintro e w' ⟨rfl, ⟨nd, rfl⟩⟩; refine ⟨_, rfl, ?_⟩))
                                  go_ret2
                                  exact ⟨by first | rfl | (simp [errW_none, errW_some] <;> rfl) | (simp [*, errW_none, errW_some] <;> rfl) | (simp [errW_none, errW_some] <;> omega) | (simp [*, errW_none, errW_some] <;> omega), by repeat (first | (with_reducible first | exact HB.out | apply below_alloc | apply pw_below_drewN | apply below_drew1) | exact HB.out)⟩
                                · rw [if_neg c37] at H
                                  have c37b0 : (a0 == 62) = false := beq_eq_false_iff_ne.mpr c37
                                  have c37b1 : (a0 != 62) = true := bne_iff_ne.mpr c37
                                  by_cases c39 : a0 = 63
                                  · rw [if_pos c39] at H
                                    have c39b0 : (a0 == 63) = true := beq_iff_eq.mpr c39
                                    have c39b1 : (a0 != 63) = false := bne_eq_false_iff_eq.mpr c39
                                    clear c39
                                    replace H := Option.bind_eq_some_iff.mp H
                                    obtain ⟨t134, A400, H⟩ := H
                                    replace H : (some (t134, 0)) = some (r1, r2) := H
                                    have A40 := Aside0.mk A400
                                    clear A400
                                    simp only [Option.some.injEq, Prod.mk.injEq] at H
                                    obtain ⟨rfl, rfl⟩ := H
                                    go_wp2_with (first | ((with_reducible refine gate_callee (f := 27) rfl ?_); refine goesL_ (some 100) rfl rfl Try.func27 (by kernel_rfl) rfl #[.bool (decide (a1 ≤ a2))] rfl (by (try simp only [List.map_toArray, List.map_cons, List.map_nil]); first | done | rfl | (simp only [List.length_drop, List.length_take]; rfl)) ?_; (with_reducible refine (tinderref01_Flag.calls (decide (a1 ≤ a2)) t134 _ A40.out).mono ?_); rintro e w' ⟨rfl, ⟨nd, rfl⟩⟩; refine ⟨_, rfl, ?_⟩))
                                    go_ret2
                                    exact ⟨by first | rfl | (simp [errW_none, errW_some] <;> rfl) | (simp [*, errW_none, errW_some] <;> rfl) | (simp [errW_none, errW_some] <;> omega) | (simp [*, errW_none, errW_some] <;> omega), by repeat (first | (with_reducible first | exact HB.out | apply below_alloc | apply pw_below_drewN | apply below_drew1) | exact HB.out)⟩
                                  · rw [if_neg c39] at H
                                    have c39b0 : (a0 == 63) = false := beq_eq_false_iff_ne.mpr c39
                                    have c39b1 : (a0 != 63) = true := bne_iff_ne.mpr c39
                                    by_cases c41 : a0 = 64
                                    · rw [if_pos c41] at H
                                      have c41b0 : (a0 == 64) = true := beq_iff_eq.mpr c41
                                      have c41b1 : (a0 != 64) = false := bne_eq_false_iff_eq.mpr c41
                                      clear c41
                                      replace H := Option.bind_eq_some_iff.mp H
                                      obtain ⟨t135, A420, H⟩ := H
                                      replace H : (some (t135, 0)) = some (r1, r2) := H
                                      have A42 := Aside0.mk A420
                                      clear A420
                                      simp only [Option.some.injEq, Prod.mk.injEq] at H
                                      obtain ⟨rfl, rfl⟩ := H
                                      go_wp2_with (first | ((with_reducible refine gate_callee (f := 27) rfl ?_); refine goesL_ (some 106) rfl rfl Try.func27 (by kernel_rfl) rfl #[.bool (decide (a1 < a2))] rfl (by (try simp only [List.map_toArray, List.map_cons, List.map_nil]); first | done | rfl | (simp only [List.length_drop, List.length_take]; rfl)) ?_; (with_reducible refine (tinderref01_Flag.calls (decide (a1 < a2)) t135 _ A42.out).mono ?_); rintro e w' ⟨rfl, ⟨nd, rfl⟩⟩; refine ⟨_, rfl, ?_⟩))
                                      go_ret2
                                      exact ⟨by first | rfl | (simp [errW_none, errW_some] <;> rfl) | (simp [*, errW_none, errW_some] <;> rfl) | (simp [errW_none, errW_some] <;> omega) | (simp [*, errW_none, errW_some] <;> omega), by repeat (first | (with_reducible first | exact HB.out | apply below_alloc | apply pw_below_drewN | apply below_drew1) | exact HB.out)⟩
                                    · rw [if_neg c41] at H
                                      have c41b0 : (a0 == 64) = false := beq_eq_false_iff_ne.mpr c41
                                      have c41b1 : (a0 != 64) = true := bne_iff_ne.mpr c41
                                      by_cases c43 : a0 = 65
                                      · rw [if_pos c43] at H
                                        have c43b0 : (a0 == 65) = true := beq_iff_eq.mpr c43
                                        have c43b1 : (a0 != 65) = false := bne_eq_false_iff_eq.mpr c43
                                        clear c43
                                        replace H := Option.bind_eq_some_iff.mp H
                                        obtain ⟨t136, A440, H⟩ := H
                                        replace H : (some (t136, 0)) = some (r1, r2) := H
                                        have A44 := Aside0.mk A440
                                        clear A440
                                        simp only [Option.some.injEq, Prod.mk.injEq] at H
                                        obtain ⟨rfl, rfl⟩ := H
                                        go_wp2_with (first | ((with_reducible refine gate_callee (f := 27) rfl ?_); refine goesL_ (some 112) rfl rfl Try.func27 (by kernel_rfl) rfl #[.bool (decide (a1 ≥ a2))] rfl (by (try simp only [List.map_toArray, List.map_cons, List.map_nil]); first | done | rfl | (simp only [List.length_drop, List.length_take]; rfl)) ?_; (with_reducible refine (tinderref01_Flag.calls (decide (a1 ≥ a2)) t136 _ A44.out).mono ?_); rintro e w' ⟨rfl, ⟨nd, rfl⟩⟩; refine ⟨_, rfl, ?_⟩))
                                        go_ret2
                                        exact ⟨by first | rfl | (simp [errW_none, errW_some] <;> rfl) | (simp [*, errW_none, errW_some] <;> rfl) | (simp [errW_none, errW_some] <;> omega) | (simp [*, errW_none, errW_some] <;> omega), by repeat (first | (with_reducible first | exact HB.out | apply below_alloc | apply pw_below_drewN | apply below_drew1) | exact HB.out)⟩
                                      · rw [if_neg c43] at H
                                        have c43b0 : (a0 == 65) = false := beq_eq_false_iff_ne.mpr c43
                                        have c43b1 : (a0 != 65) = true := bne_iff_ne.mpr c43
                                        by_cases c45 : a0 = 66
                                        · rw [if_pos c45] at H
                                          have c45b0 : (a0 == 66) = true := beq_iff_eq.mpr c45
                                          have c45b1 : (a0 != 66) = false := bne_eq_false_iff_eq.mpr c45
                                          clear c45
                                          replace H := Option.bind_eq_some_iff.mp H
                                          obtain ⟨t137, A460, H⟩ := H
                                          replace H : (some (t137, 0)) = some (r1, r2) := H
                                          have A46 := Aside0.mk A460
                                          clear A460
                                          simp only [Option.some.injEq, Prod.mk.injEq] at H
                                          obtain ⟨rfl, rfl⟩ := H
                                          go_wp2_with (first | ((with_reducible refine gate_callee (f := 27) rfl ?_); refine goesL_ (some 118) rfl rfl Try.func27 (by kernel_rfl) rfl #[.bool (decide (t120 ≥ t121))] rfl (by (try simp only [List.map_toArray, List.map_cons, List.map_nil]); first | done | rfl | (simp only [List.length_drop, List.length_take]; rfl)) ?_; (with_reducible refine (tinderref01_Flag.calls (decide (t120 ≥ t121)) t137 _ A46.out).mono ?_); rintro e w' ⟨rfl, ⟨nd, rfl⟩⟩; refine ⟨_, rfl, ?_⟩))
                                          go_ret2
                                          exact ⟨by first | rfl | (simp [errW_none, errW_some] <;> rfl) | (simp [*, errW_none, errW_some] <;> rfl) | (simp [errW_none, errW_some] <;> omega) | (simp [*, errW_none, errW_some] <;> omega), by repeat (first | (with_reducible first | exact HB.out | apply below_alloc | apply pw_below_drewN | apply below_drew1) | exact HB.out)⟩
                                        · rw [if_neg c45] at H
                                          have c45b0 : (a0 == 66) = false := beq_eq_false_iff_ne.mpr c45
                                          have c45b1 : (a0 != 66) = true := bne_iff_ne.mpr c45
                                          by_cases c47 : a0 = 67
                                          · rw [if_pos c47] at H
                                            have c47b0 : (a0 == 67) = true := beq_iff_eq.mpr c47
                                            have c47b1 : (a0 != 67) = false := bne_eq_false_iff_eq.mpr c47
                                            clear c47
                                            replace H := Option.bind_eq_some_iff.mp H
                                            obtain ⟨t138, A480, H⟩ := H
                                            replace H : (some (t138, 0)) = some (r1, r2) := H
                                            have A48 := Aside0.mk A480
                                            clear A480
                                            simp only [Option.some.injEq, Prod.mk.injEq] at H
                                            obtain ⟨rfl, rfl⟩ := H
                                            go_wp2_with (first | ((with_reducible refine gate_callee (f := 27) rfl ?_); refine goesL_ (some 124) rfl rfl Try.func27 (by kernel_rfl) rfl #[.bool (decide (t120 ≤ t121))] rfl (by (try simp only [List.map_toArray, List.map_cons, List.map_nil]); first | done | rfl | (simp only [List.length_drop, List.length_take]; rfl)) ?_; (with_reducible refine (tinderref01_Flag.calls (decide (t120 ≤ t121)) t138 _ A48.out).mono ?_); rintro e w' ⟨rfl, ⟨nd, rfl⟩⟩; refine ⟨_, rfl, ?_⟩))
                                            go_ret2
                                            exact ⟨by first | rfl | (simp [errW_none, errW_some] <;> rfl) | (simp [*, errW_none, errW_some] <;> rfl) | (simp [errW_none, errW_some] <;> omega) | (simp [*, errW_none, errW_some] <;> omega), by repeat (first | (with_reducible first | exact HB.out | apply below_alloc | apply pw_below_drewN | apply below_drew1) | exact HB.out)⟩
                                          · rw [if_neg c47] at H
                                            have c47b0 : (a0 == 67) = false := beq_eq_false_iff_ne.mpr c47
                                            have c47b1 : (a0 != 67) = true := bne_iff_ne.mpr c47
                                            have HC49 := Aside0.mk H
                                            clear H
                                            go_upto_if 125 with (fail)
                                            go_cut [125] (fun v125 wc => ∃ (kq : Nat) (x125_48 : Bool), v125 = .bool x125_48 ∧ Aside0 (tinderref01_Bin.j2 kq a0 t120 t121 x125_48 = some (r1, r2)) ∧ Aside0 (kq ≤ kj16) ∧ Aside0 (Below w.heap.size w wc))
                                            case first =>
                                              have H := HC49.out
                                              clear HC49
                                              by_cases c50 : a0 = 33
                                              · rw [if_pos c50] at H
                                                have c50b0 : (a0 == 33) = true := beq_iff_eq.mpr c50
                                                have c50b1 : (a0 != 33) = false := bne_eq_false_iff_eq.mpr c50
                                                clear c50
                                                (first | rw [c50b0] | (simp only [i64_w, i32_w]; rw [c50b0]) | skip)
                                                have H' := Aside0.mk H
                                                clear H
                                                go_wp2
                                                go_meet
                                                case rel => exact ⟨_, ((a0 == 33)), (by first | rfl | (simp; done) | (simp [*]; done) | (simp <;> omega) | (simp [*] <;> omega)), H', ⟨by have := HJ11.out; have := HJ16.out; first | omega | exact Nat.le_refl _⟩, ⟨by repeat (first | (with_reducible first | exact HB.out | apply below_alloc | apply pw_below_drewN | apply below_drew1) | exact HB.out)⟩⟩
                                              · rw [if_neg c50] at H
                                                have c50b0 : (a0 == 33) = false := beq_eq_false_iff_ne.mpr c50
                                                have c50b1 : (a0 != 33) = true := bne_iff_ne.mpr c50
                                                (first | rw [c50b0] | (simp only [i64_w, i32_w]; rw [c50b0]) | skip)
                                                have H' := Aside0.mk H
                                                clear H
                                                go_wp2
                                                go_meet
                                                case rel => exact ⟨_, ((a0 == 34)), (by first | rfl | (simp; done) | (simp [*]; done) | (simp <;> omega) | (simp [*] <;> omega)), H', ⟨by have := HJ11.out; have := HJ16.out; first | omega | exact Nat.le_refl _⟩, ⟨by repeat (first | (with_reducible first | exact HB.out | apply below_alloc | apply pw_below_drewN | apply below_drew1) | exact HB.out)⟩⟩
                                            case rest =>
                                              clear HC49
                                              try clear c1
                                              try clear c2
                                              try clear p2
                                              try clear c3
                                              try clear c4
                                              try clear c5
                                              try clear c6
                                              try clear c6b0
                                              try clear c6b1
                                              try clear p6
                                              try clear c8
                                              try clear c8b0
                                              try clear c8b1
                                              try clear c10
                                              try clear c10b0
                                              try clear c10b1
                                              try clear c11
                                              try clear c13
                                              try clear c13b0
                                              try clear c13b1
                                              try clear c14
                                              try clear c14b0
                                              try clear c14b1
                                              try clear c15
                                              try clear c18
                                              try clear c18b0
                                              try clear c18b1
                                              try clear c19
                                              try clear c19b0
                                              try clear c19b1
                                              try clear c20
                                              try clear c23
                                              try clear c23b0
                                              try clear c23b1
                                              try clear c24
                                              try clear c25
                                              try clear c26
                                              try clear c26b0
                                              try clear c26b1
                                              try clear c27
                                              try clear c29
                                              try clear c29b0
                                              try clear c29b1
                                              try clear c31
                                              try clear c31b0
                                              try clear c31b1
                                              try clear c33
                                              try clear c33b0
                                              try clear c33b1
                                              try clear c35
                                              try clear c35b0
                                              try clear c35b1
                                              try clear c37
                                              try clear c37b0
                                              try clear c37b1
                                              try clear c39
                                              try clear c39b0
                                              try clear c39b1
                                              try clear c41
                                              try clear c41b0
                                              try clear c41b1
                                              try clear c43
                                              try clear c43b0
                                              try clear c43b1
                                              try clear c45
                                              try clear c45b0
                                              try clear c45b1
                                              try clear c47
                                              try clear c47b0
                                              try clear c47b1
                                              try clear c50
                                              try clear c50b0
                                              try clear c50b1
                                              try clear p2
                                              try clear p6
                                              obtain ⟨kq, x125_48, rfl, HA, HJ48, HB⟩ := hcut
                                              cases kq with
                                              | zero => exact absurd HA.out (by simp [tinderref01_Bin.j2])
                                              | succ kj48 =>
                                                have H := HA.out
                                                clear HA
                                                simp only [tinderref01_Bin.j2] at H
                                                by_cases c51 : x125_48 = true
                                                · subst c51
                                                  have H1 : (if t121 = 0 then (some (0, 7)) else ((tinderref01_Floor.f t120 t121).bind fun bt139 => (if a0 = 33 then ((tinderref01_Cell.f bt139.1).bind fun t141 => (some (t141, 0))) else ((tinderref01_Cell.f bt139.2).bind fun t142 => (some (t142, 0)))))) = some (r1, r2) := by rw [if_pos rfl] at H; exact H
                                                  clear H
                                                  have H := H1
                                                  clear H1
                                                  by_cases c52 : t121 = 0
                                                  · rw [if_pos c52] at H
                                                    have c52b0 : (t121 == 0) = true := beq_iff_eq.mpr c52
                                                    have c52b1 : (t121 != 0) = false := bne_eq_false_iff_eq.mpr c52
                                                    clear c52
                                                    simp only [Option.some.injEq, Prod.mk.injEq] at H
                                                    obtain ⟨rfl, rfl⟩ := H
                                                    go_wp2
                                                    go_ret2
                                                    exact ⟨by first | rfl | (simp [errW_none, errW_some] <;> rfl) | (simp [*, errW_none, errW_some] <;> rfl) | (simp [errW_none, errW_some] <;> omega) | (simp [*, errW_none, errW_some] <;> omega), by repeat (first | (with_reducible first | exact HB.out | apply below_alloc | apply pw_below_drewN | apply below_drew1) | exact HB.out)⟩
                                                  · rw [if_neg c52] at H
                                                    have c52b0 : (t121 == 0) = false := beq_eq_false_iff_ne.mpr c52
                                                    have c52b1 : (t121 != 0) = true := bne_iff_ne.mpr c52
                                                    replace H := Option.bind_eq_some_iff.mp H
                                                    obtain ⟨⟨t139, t140⟩, A530, H⟩ := H
                                                    replace H : (if a0 = 33 then ((tinderref01_Cell.f t139).bind fun t141 => (some (t141, 0))) else ((tinderref01_Cell.f t140).bind fun t142 => (some (t142, 0)))) = some (r1, r2) := H
                                                    have A53 := Aside0.mk A530
                                                    clear A530
                                                    by_cases c54 : a0 = 33
                                                    · rw [if_pos c54] at H
                                                      have c54b0 : (a0 == 33) = true := beq_iff_eq.mpr c54
                                                      have c54b1 : (a0 != 33) = false := bne_eq_false_iff_eq.mpr c54
                                                      clear c54
                                                      replace H := Option.bind_eq_some_iff.mp H
                                                      obtain ⟨t141, A550, H⟩ := H
                                                      replace H : (some (t141, 0)) = some (r1, r2) := H
                                                      have A55 := Aside0.mk A550
                                                      clear A550
                                                      simp only [Option.some.injEq, Prod.mk.injEq] at H
                                                      obtain ⟨rfl, rfl⟩ := H
                                                      go_wp2_with (first | ((with_reducible refine gate_callee (f := 28) rfl ?_); refine goesL_ (some 133) rfl rfl Try.func28 (by kernel_rfl) rfl #[.int .i64 t120, .int .i64 t121] rfl (by (try simp only [List.map_toArray, List.map_cons, List.map_nil]); first | done | rfl | (simp only [List.length_drop, List.length_take]; rfl)) ?_; (with_reducible refine (tinderref01_Floor.calls t120 t121 t139 t140 _ A53.out).mono ?_); rintro e w' ⟨rfl, ⟨nd, rfl⟩⟩; refine ⟨_, rfl, ?_⟩) | ((with_reducible refine gate_callee (f := 24) rfl ?_); refine goesL_ (some 139) rfl rfl Try.func24 (by kernel_rfl) rfl #[.int .i64 t139] rfl (by (try simp only [List.map_toArray, List.map_cons, List.map_nil]); first | done | rfl | (simp only [List.length_drop, List.length_take]; rfl)) ?_; (with_reducible refine (tinderref01_Cell.calls t139 t141 _ A55.out).mono ?_); rintro e w' ⟨rfl, ⟨nd, rfl⟩⟩; refine ⟨_, rfl, ?_⟩))
                                                      go_ret2
                                                      exact ⟨by first | rfl | (simp [errW_none, errW_some] <;> rfl) | (simp [*, errW_none, errW_some] <;> rfl) | (simp [errW_none, errW_some] <;> omega) | (simp [*, errW_none, errW_some] <;> omega), by repeat (first | (with_reducible first | exact HB.out | apply below_alloc | apply pw_below_drewN | apply below_drew1) | exact HB.out)⟩
                                                    · rw [if_neg c54] at H
                                                      have c54b0 : (a0 == 33) = false := beq_eq_false_iff_ne.mpr c54
                                                      have c54b1 : (a0 != 33) = true := bne_iff_ne.mpr c54
                                                      replace H := Option.bind_eq_some_iff.mp H
                                                      obtain ⟨t142, A560, H⟩ := H
                                                      replace H : (some (t142, 0)) = some (r1, r2) := H
                                                      have A56 := Aside0.mk A560
                                                      clear A560
                                                      simp only [Option.some.injEq, Prod.mk.injEq] at H
                                                      obtain ⟨rfl, rfl⟩ := H
                                                      go_wp2_with (first | ((with_reducible refine gate_callee (f := 28) rfl ?_); refine goesL_ (some 133) rfl rfl Try.func28 (by kernel_rfl) rfl #[.int .i64 t120, .int .i64 t121] rfl (by (try simp only [List.map_toArray, List.map_cons, List.map_nil]); first | done | rfl | (simp only [List.length_drop, List.length_take]; rfl)) ?_; (with_reducible refine (tinderref01_Floor.calls t120 t121 t139 t140 _ A53.out).mono ?_); rintro e w' ⟨rfl, ⟨nd, rfl⟩⟩; refine ⟨_, rfl, ?_⟩) | ((with_reducible refine gate_callee (f := 24) rfl ?_); refine goesL_ (some 141) rfl rfl Try.func24 (by kernel_rfl) rfl #[.int .i64 t140] rfl (by (try simp only [List.map_toArray, List.map_cons, List.map_nil]); first | done | rfl | (simp only [List.length_drop, List.length_take]; rfl)) ?_; (with_reducible refine (tinderref01_Cell.calls t140 t142 _ A56.out).mono ?_); rintro e w' ⟨rfl, ⟨nd, rfl⟩⟩; refine ⟨_, rfl, ?_⟩))
                                                      go_ret2
                                                      exact ⟨by first | rfl | (simp [errW_none, errW_some] <;> rfl) | (simp [*, errW_none, errW_some] <;> rfl) | (simp [errW_none, errW_some] <;> omega) | (simp [*, errW_none, errW_some] <;> omega), by repeat (first | (with_reducible first | exact HB.out | apply below_alloc | apply pw_below_drewN | apply below_drew1) | exact HB.out)⟩
                                                · replace c51 := Bool.eq_false_iff.mpr c51
                                                  subst c51
                                                  have H1 : (some (0, 2)) = some (r1, r2) := by rw [if_neg (show ¬ (false = true) by decide)] at H; exact H
                                                  clear H
                                                  have H := H1
                                                  clear H1
                                                  simp only [Option.some.injEq, Prod.mk.injEq] at H
                                                  obtain ⟨rfl, rfl⟩ := H
                                                  go_wp2
                                                  go_ret2
                                                  exact ⟨by first | rfl | (simp [errW_none, errW_some] <;> rfl) | (simp [*, errW_none, errW_some] <;> rfl) | (simp [errW_none, errW_some] <;> omega) | (simp [*, errW_none, errW_some] <;> omega), by repeat (first | (with_reducible first | exact HB.out | apply below_alloc | apply pw_below_drewN | apply below_drew1) | exact HB.out)⟩

/-! ### tinderlaw01_CellBins: function 3 -/
def tinderlaw01_CellBins.f (k : Nat) (a0 : Int) (a1 : Int) (a2 : Int) : Option (Bool) := (tinderlaw01_alive.f k).bind fun t143 => (if t143 = true then ((cell_Bin.f k a0 a1 a2).bind fun bt144 => ((tinderref01_Bin.f k a0 a1 a2).bind fun bt146 => (if bt144.1 = bt146.1 then (some (bt144.2 == bt146.2)) else (some false)))) else (some false))
theorem tinderlaw01_CellBins.mono : ∀ a0 a1 a2 k, LeO (tinderlaw01_CellBins.f k a0 a1 a2) (tinderlaw01_CellBins.f (k + 1) a0 a1 a2) := by
  intro a0 a1 a2 k
  unfold tinderlaw01_CellBins.f
  repeat' first
      | (with_reducible exact cell_Bin.mono _ _ _ _)
      | (with_reducible exact tinderlaw01_alive.mono _)
      | (with_reducible exact tinderref01_Bin.mono _ _ _ _)
      | (with_reducible exact LeO.refl _)
      | (with_reducible exact LeO.none _)
      | (with_reducible refine LeO.ite ?_ ?_)
      | (with_reducible refine LeO.bind ?_ (fun _ => ?_))
      | exact cell_Bin.mono _ _ _ _
      | exact tinderlaw01_alive.mono _
      | exact tinderref01_Bin.mono _ _ _ _
      | exact LeO.none _
      | refine LeO.ite ?_ ?_
      | refine LeO.bind ?_ (fun _ => ?_)
set_option maxHeartbeats 8000000 in
set_option maxRecDepth 100000 in
theorem tinderlaw01_CellBins.calls (k : Nat) (a0 : Int) (a1 : Int) (a2 : Int) (r : Bool) (w : World) (h : tinderlaw01_CellBins.f k a0 a1 a2 = some r) :
    Calls Try.prog 3 #[.int .i64 a0, .int .u32 a1, .int .u32 a2] w fun e w' => e = .returned (.bool r) ∧ Below w.heap.size w w' := by
  have HB := Aside0.mk (Below.refl w.heap.size w)
  have H : ((tinderlaw01_alive.f k).bind fun t143 => (if t143 = true then ((cell_Bin.f k a0 a1 a2).bind fun bt144 => ((tinderref01_Bin.f k a0 a1 a2).bind fun bt146 => (if bt144.1 = bt146.1 then (some (bt144.2 == bt146.2)) else (some false)))) else (some false))) = some r := h
  clear h
  replace H := Option.bind_eq_some_iff.mp H
  obtain ⟨t143, A40, H⟩ := H
  replace H : (if t143 = true then ((cell_Bin.f k a0 a1 a2).bind fun bt144 => ((tinderref01_Bin.f k a0 a1 a2).bind fun bt146 => (if bt144.1 = bt146.1 then (some (bt144.2 == bt146.2)) else (some false)))) else (some false)) = some r := H
  have A4 := Aside0.mk A40
  clear A40
  by_cases c5 : t143 = true
  · subst c5
    have H1 : ((cell_Bin.f k a0 a1 a2).bind fun bt144 => ((tinderref01_Bin.f k a0 a1 a2).bind fun bt146 => (if bt144.1 = bt146.1 then (some (bt144.2 == bt146.2)) else (some false)))) = some r := by rw [if_pos rfl] at H; exact H
    clear H
    have H := H1
    clear H1
    replace H := Option.bind_eq_some_iff.mp H
    obtain ⟨⟨t144, t145⟩, A60, H⟩ := H
    replace H : ((tinderref01_Bin.f k a0 a1 a2).bind fun bt146 => (if t144 = bt146.1 then (some (t145 == bt146.2)) else (some false))) = some r := H
    have A6 := Aside0.mk A60
    clear A60
    replace H := Option.bind_eq_some_iff.mp H
    obtain ⟨⟨t146, t147⟩, A70, H⟩ := H
    replace H : (if t144 = t146 then (some (t145 == t147)) else (some false)) = some r := H
    have A7 := Aside0.mk A70
    clear A70
    by_cases c8 : t144 = t146
    · rw [if_pos c8] at H
      have c8b0 : (t144 == t146) = true := beq_iff_eq.mpr c8
      have c8b1 : (t144 != t146) = false := bne_eq_false_iff_eq.mpr c8
      clear c8
      obtain rfl := Option.some.inj H
      go_enter Try.func3, Try.ntmps3
      go_wp2_with (first | ((with_reducible refine gate_callee (f := 9) rfl ?_); refine goesL_ (some 11) rfl rfl Try.func9 (by kernel_rfl) rfl #[] rfl (by (try simp only [List.map_toArray, List.map_cons, List.map_nil]); first | done | rfl | (simp only [List.length_drop, List.length_take]; rfl)) ?_; (with_reducible refine (tinderlaw01_alive.calls k  true _ A4.out).mono ?_); rintro e w9 ⟨rfl, hb⟩; refine ⟨_, rfl, ?_⟩; have n0_ := Aside0.mk (below_step (by repeat (first | (with_reducible first | exact HB.out | apply below_alloc | apply pw_below_drewN | apply below_drew1) | exact HB.out)) hb); clear HB; have HB := n0_; clear n0_; (try clear hb); (try clear hb2); (try clear hk); (try clear hi)) | ((with_reducible refine gate_callee (f := 10) rfl ?_); refine goesL_ (some 17) rfl rfl Try.func10 (by kernel_rfl) rfl #[.int .i64 a0, .int .u32 a1, .int .u32 a2] rfl (by (try simp only [List.map_toArray, List.map_cons, List.map_nil]); first | done | rfl | (simp only [List.length_drop, List.length_take]; rfl)) ?_; (with_reducible refine (cell_Bin.calls k a0 a1 a2 t144 t145 _ A6.out).mono ?_); rintro e w10 ⟨rfl, hb⟩; refine ⟨_, rfl, ?_⟩; have n0_ := Aside0.mk (below_step (by repeat (first | (with_reducible first | exact HB.out | apply below_alloc | apply pw_below_drewN | apply below_drew1) | exact HB.out)) hb); clear HB; have HB := n0_; clear n0_; (try clear hb); (try clear hb2); (try clear hk); (try clear hi)) | ((with_reducible refine gate_callee (f := 11) rfl ?_); refine goesL_ (some 24) rfl rfl Try.func11 (by kernel_rfl) rfl #[.int .i64 a0, .int .u32 a1, .int .u32 a2] rfl (by (try simp only [List.map_toArray, List.map_cons, List.map_nil]); first | done | rfl | (simp only [List.length_drop, List.length_take]; rfl)) ?_; (with_reducible refine (tinderref01_Bin.calls k a0 a1 a2 t146 t147 _ A7.out).mono ?_); rintro e w11 ⟨rfl, hb⟩; refine ⟨_, rfl, ?_⟩; have n0_ := Aside0.mk (below_step (by repeat (first | (with_reducible first | exact HB.out | apply below_alloc | apply pw_below_drewN | apply below_drew1) | exact HB.out)) hb); clear HB; have HB := n0_; clear n0_; (try clear hb); (try clear hb2); (try clear hk); (try clear hi)))
      go_ret
      exact ⟨by first | rfl | (simp [errW_none, errW_some] <;> rfl) | (simp [*, errW_none, errW_some] <;> rfl) | (simp [errW_none, errW_some] <;> omega) | (simp [*, errW_none, errW_some] <;> omega), by repeat (first | (with_reducible first | exact HB.out | apply below_alloc | apply pw_below_drewN | apply below_drew1) | exact HB.out)⟩
    · rw [if_neg c8] at H
      have c8b0 : (t144 == t146) = false := beq_eq_false_iff_ne.mpr c8
      have c8b1 : (t144 != t146) = true := bne_iff_ne.mpr c8
      obtain rfl := Option.some.inj H
      go_enter Try.func3, Try.ntmps3
      go_wp2_with (first | ((with_reducible refine gate_callee (f := 9) rfl ?_); refine goesL_ (some 11) rfl rfl Try.func9 (by kernel_rfl) rfl #[] rfl (by (try simp only [List.map_toArray, List.map_cons, List.map_nil]); first | done | rfl | (simp only [List.length_drop, List.length_take]; rfl)) ?_; (with_reducible refine (tinderlaw01_alive.calls k  true _ A4.out).mono ?_); rintro e w12 ⟨rfl, hb⟩; refine ⟨_, rfl, ?_⟩; have n0_ := Aside0.mk (below_step (by repeat (first | (with_reducible first | exact HB.out | apply below_alloc | apply pw_below_drewN | apply below_drew1) | exact HB.out)) hb); clear HB; have HB := n0_; clear n0_; (try clear hb); (try clear hb2); (try clear hk); (try clear hi)) | ((with_reducible refine gate_callee (f := 10) rfl ?_); refine goesL_ (some 17) rfl rfl Try.func10 (by kernel_rfl) rfl #[.int .i64 a0, .int .u32 a1, .int .u32 a2] rfl (by (try simp only [List.map_toArray, List.map_cons, List.map_nil]); first | done | rfl | (simp only [List.length_drop, List.length_take]; rfl)) ?_; (with_reducible refine (cell_Bin.calls k a0 a1 a2 t144 t145 _ A6.out).mono ?_); rintro e w13 ⟨rfl, hb⟩; refine ⟨_, rfl, ?_⟩; have n0_ := Aside0.mk (below_step (by repeat (first | (with_reducible first | exact HB.out | apply below_alloc | apply pw_below_drewN | apply below_drew1) | exact HB.out)) hb); clear HB; have HB := n0_; clear n0_; (try clear hb); (try clear hb2); (try clear hk); (try clear hi)) | ((with_reducible refine gate_callee (f := 11) rfl ?_); refine goesL_ (some 24) rfl rfl Try.func11 (by kernel_rfl) rfl #[.int .i64 a0, .int .u32 a1, .int .u32 a2] rfl (by (try simp only [List.map_toArray, List.map_cons, List.map_nil]); first | done | rfl | (simp only [List.length_drop, List.length_take]; rfl)) ?_; (with_reducible refine (tinderref01_Bin.calls k a0 a1 a2 t146 t147 _ A7.out).mono ?_); rintro e w14 ⟨rfl, hb⟩; refine ⟨_, rfl, ?_⟩; have n0_ := Aside0.mk (below_step (by repeat (first | (with_reducible first | exact HB.out | apply below_alloc | apply pw_below_drewN | apply below_drew1) | exact HB.out)) hb); clear HB; have HB := n0_; clear n0_; (try clear hb); (try clear hb2); (try clear hk); (try clear hi)))
      go_ret
      exact ⟨by first | rfl | (simp [errW_none, errW_some] <;> rfl) | (simp [*, errW_none, errW_some] <;> rfl) | (simp [errW_none, errW_some] <;> omega) | (simp [*, errW_none, errW_some] <;> omega), by repeat (first | (with_reducible first | exact HB.out | apply below_alloc | apply pw_below_drewN | apply below_drew1) | exact HB.out)⟩
  · replace c5 := Bool.eq_false_iff.mpr c5
    subst c5
    have H1 : (some false) = some r := by rw [if_neg (show ¬ (false = true) by decide)] at H; exact H
    clear H
    have H := H1
    clear H1
    obtain rfl := Option.some.inj H
    go_enter Try.func3, Try.ntmps3
    go_wp2_with (first | ((with_reducible refine gate_callee (f := 9) rfl ?_); refine goesL_ (some 11) rfl rfl Try.func9 (by kernel_rfl) rfl #[] rfl (by (try simp only [List.map_toArray, List.map_cons, List.map_nil]); first | done | rfl | (simp only [List.length_drop, List.length_take]; rfl)) ?_; (with_reducible refine (tinderlaw01_alive.calls k  false _ A4.out).mono ?_); rintro e w15 ⟨rfl, hb⟩; refine ⟨_, rfl, ?_⟩; have n0_ := Aside0.mk (below_step (by repeat (first | (with_reducible first | exact HB.out | apply below_alloc | apply pw_below_drewN | apply below_drew1) | exact HB.out)) hb); clear HB; have HB := n0_; clear n0_; (try clear hb); (try clear hb2); (try clear hk); (try clear hi)))
    go_ret
    exact ⟨by first | rfl | (simp [errW_none, errW_some] <;> rfl) | (simp [*, errW_none, errW_some] <;> rfl) | (simp [errW_none, errW_some] <;> omega) | (simp [*, errW_none, errW_some] <;> omega), by repeat (first | (with_reducible first | exact HB.out | apply below_alloc | apply pw_below_drewN | apply below_drew1) | exact HB.out)⟩

/-- THE ONE PURE STATEMENT of tinderlaw01_CellBins: yours. -/
def tinderlaw01_CellBins.Pure : Prop := ∀ (a0 : Int) (a1 : Int) (a2 : Int), (Lit.int .i64 a0).wf = true → (Lit.int .u32 a1).wf = true → (Lit.int .u32 a2).wf = true → ∃ k, tinderlaw01_CellBins.f k a0 a1 a2 = some true
theorem tinderlaw01_CellBins.walk (P : tinderlaw01_CellBins.Pure) (a0 : Int) (a1 : Int) (a2 : Int) (w : World) (w0 : (Lit.int .i64 a0).wf = true) (w1 : (Lit.int .u32 a1).wf = true) (w2 : (Lit.int .u32 a2).wf = true) :
    Calls Try.prog 3 #[.int .i64 a0, .int .u32 a1, .int .u32 a2] w fun e w' => e = .returned (.bool true) ∧ Below w.heap.size w w' := by
  obtain ⟨k, h⟩ := P a0 a1 a2 w0 w1 w2
  refine (tinderlaw01_CellBins.calls k a0 a1 a2 true w h).mono ?_
  rintro e w' ⟨rfl, hd⟩
  exact ⟨rfl, hd⟩

end Go.Proofs.Ytdjpodpibkcnaaa.QCellBins
