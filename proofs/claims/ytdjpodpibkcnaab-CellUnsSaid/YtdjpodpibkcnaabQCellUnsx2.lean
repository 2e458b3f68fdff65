-- written by a program of this session (xprint.py) out of the translation
import Derived.Test.YtdjpodpibkcnaabQCellUnsx0
import Derived.Test.YtdjpodpibkcnaabQCellUnsx1
namespace Go.Proofs.Ytdjpodpibkcnaab.QCellUns
open Go.RowKit Go.Proofs.YtdjpodpibkcnaabW.PrintWords Go.Proofs.YtdjpodpibkcnaabW.PrintLast Go.Proofs.YtdjpodpibkcnaabW.PrintMore
attribute [local go_sem] max2_int min2_int max_two min_two max_three min_three max_four min_four   -- for this text's walks alone
set_option linter.unusedVariables false
set_option linter.unusedSimpArgs false

/-! ### cell_Un: function 14 -/
def cell_Un.f (a0 : Int) (a1 : Int) : Option (Int × Int) := if a0 = 38 then (some (Go.bits .xor .u32 4294967295 a1, 0)) else (if a0 = 44 then (some ((-a1) % 4294967296, 0)) else (if a0 = 45 then (if (wrap32 (a1)) < 0 then (some ((-a1) % 4294967296, 0)) else (some (a1, 0))) else (if a0 = 52 then ((cell_flag.f ((wrap32 (a1)) == 0)).bind fun t119 => (some (t119, 0))) else (if a0 = 53 then ((cell_flag.f ((wrap32 (a1)) != 0)).bind fun t120 => (some (t120, 0))) else (if a0 = 54 then ((cell_flag.f (decide ((wrap32 (a1)) < 0))).bind fun t121 => (some (t121, 0))) else (if a0 = 55 then ((cell_flag.f (decide ((wrap32 (a1)) ≤ 0))).bind fun t122 => (some (t122, 0))) else (if a0 = 56 then ((cell_flag.f (decide ((wrap32 (a1)) > 0))).bind fun t123 => (some (t123, 0))) else (if a0 = 57 then ((cell_flag.f (decide ((wrap32 (a1)) ≥ 0))).bind fun t124 => (some (t124, 0))) else (if a0 = 87 then (some (((wrap32 (a1)) / 2) % 4294967296, 0)) else (if a0 = 88 then (some (a1 / 2, 0)) else (if a0 = 89 then (some ((a1 * 2) % 4294967296, 0)) else (if a0 = 128 then ((bits_ReverseBytes16.f (IntKind.u16.wrap (a1))).bind fun t125 => (some ((t125) % 4294967296, 0))) else (if a0 = 129 then (if ((a1 - 97) % 4294967296) < 26 then (some ((a1 - 32) % 4294967296, 0)) else (some (a1, 0))) else (if a0 = 130 then (if ((a1 - 65) % 4294967296) < 26 then (some ((a1 + 32) % 4294967296, 0)) else (some (a1, 0))) else (some (0, 2))))))))))))))))
set_option maxHeartbeats 8000000 in
set_option maxRecDepth 100000 in
theorem cell_Un.calls (a0 : Int) (a1 : Int) (r1 : Int) (r2 : Int) (w : World) (h : cell_Un.f a0 a1 = some (r1, r2)) :
    Calls Try.prog 14 #[.int .i64 a0, .int .u32 a1] w fun e w' => e = .returned (.tuple #[.int .u32 r1, .int .i64 r2]) ∧ Drawn0 w w' := by
  have H : (if a0 = 38 then (some (Go.bits .xor .u32 4294967295 a1, 0)) else (if a0 = 44 then (some ((-a1) % 4294967296, 0)) else (if a0 = 45 then (if (wrap32 (a1)) < 0 then (some ((-a1) % 4294967296, 0)) else (some (a1, 0))) else (if a0 = 52 then ((cell_flag.f ((wrap32 (a1)) == 0)).bind fun t119 => (some (t119, 0))) else (if a0 = 53 then ((cell_flag.f ((wrap32 (a1)) != 0)).bind fun t120 => (some (t120, 0))) else (if a0 = 54 then ((cell_flag.f (decide ((wrap32 (a1)) < 0))).bind fun t121 => (some (t121, 0))) else (if a0 = 55 then ((cell_flag.f (decide ((wrap32 (a1)) ≤ 0))).bind fun t122 => (some (t122, 0))) else (if a0 = 56 then ((cell_flag.f (decide ((wrap32 (a1)) > 0))).bind fun t123 => (some (t123, 0))) else (if a0 = 57 then ((cell_flag.f (decide ((wrap32 (a1)) ≥ 0))).bind fun t124 => (some (t124, 0))) else (if a0 = 87 then (some (((wrap32 (a1)) / 2) % 4294967296, 0)) else (if a0 = 88 then (some (a1 / 2, 0)) else (if a0 = 89 then (some ((a1 * 2) % 4294967296, 0)) else (if a0 = 128 then ((bits_ReverseBytes16.f (IntKind.u16.wrap (a1))).bind fun t125 => (some ((t125) % 4294967296, 0))) else (if a0 = 129 then (if ((a1 - 97) % 4294967296) < 26 then (some ((a1 - 32) % 4294967296, 0)) else (some (a1, 0))) else (if a0 = 130 then (if ((a1 - 65) % 4294967296) < 26 then (some ((a1 + 32) % 4294967296, 0)) else (some (a1, 0))) else (some (0, 2))))))))))))))))) = some (r1, r2) := h
  clear h
  by_cases c3 : a0 = 38
  · rw [if_pos c3] at H
    have c3b0 : (a0 == 38) = true := beq_iff_eq.mpr c3
    have c3b1 : (a0 != 38) = false := bne_eq_false_iff_eq.mpr c3
    clear c3
    simp only [Option.some.injEq, Prod.mk.injEq] at H
    obtain ⟨rfl, rfl⟩ := H
    go_enter Try.func14, Try.ntmps14
    go_wp2
    go_ret2
    exact ⟨by first | rfl | (simp; done) | (simp [*]; done) | (simp <;> omega) | (simp [*] <;> omega), by repeat (first | exact Drawn0.refl _ | apply Drawn0.step)⟩
  · rw [if_neg c3] at H
    have c3b0 : (a0 == 38) = false := beq_eq_false_iff_ne.mpr c3
    have c3b1 : (a0 != 38) = true := bne_iff_ne.mpr c3
    by_cases c4 : a0 = 44
    · rw [if_pos c4] at H
      have c4b0 : (a0 == 44) = true := beq_iff_eq.mpr c4
      have c4b1 : (a0 != 44) = false := bne_eq_false_iff_eq.mpr c4
      clear c4
      simp only [Option.some.injEq, Prod.mk.injEq] at H
      obtain ⟨rfl, rfl⟩ := H
      go_enter Try.func14, Try.ntmps14
      go_wp2
      go_ret2
      exact ⟨by first | rfl | (simp; done) | (simp [*]; done) | (simp <;> omega) | (simp [*] <;> omega), by repeat (first | exact Drawn0.refl _ | apply Drawn0.step)⟩
    · rw [if_neg c4] at H
      have c4b0 : (a0 == 44) = false := beq_eq_false_iff_ne.mpr c4
      have c4b1 : (a0 != 44) = true := bne_iff_ne.mpr c4
      by_cases c5 : a0 = 45
      · rw [if_pos c5] at H
        have c5b0 : (a0 == 45) = true := beq_iff_eq.mpr c5
        have c5b1 : (a0 != 45) = false := bne_eq_false_iff_eq.mpr c5
        clear c5
        by_cases c6 : (wrap32 (a1)) < 0
        · rw [if_pos c6] at H
          have c6b0 : decide ((wrap32 (a1)) < 0) = true := decide_eq_true c6
          clear c6
          simp only [Option.some.injEq, Prod.mk.injEq] at H
          obtain ⟨rfl, rfl⟩ := H
          go_enter Try.func14, Try.ntmps14
          go_wp2
          go_ret2
          exact ⟨by first | rfl | (simp; done) | (simp [*]; done) | (simp <;> omega) | (simp [*] <;> omega), by repeat (first | exact Drawn0.refl _ | apply Drawn0.step)⟩
        · rw [if_neg c6] at H
          have c6b0 : decide ((wrap32 (a1)) < 0) = false := decide_eq_false c6
          clear c6
          simp only [Option.some.injEq, Prod.mk.injEq] at H
          obtain ⟨rfl, rfl⟩ := H
          go_enter Try.func14, Try.ntmps14
          go_wp2
          go_ret2
          exact ⟨by first | rfl | (simp; done) | (simp [*]; done) | (simp <;> omega) | (simp [*] <;> omega), by repeat (first | exact Drawn0.refl _ | apply Drawn0.step)⟩
      · rw [if_neg c5] at H
        have c5b0 : (a0 == 45) = false := beq_eq_false_iff_ne.mpr c5
        have c5b1 : (a0 != 45) = true := bne_iff_ne.mpr c5
        by_cases c7 : a0 = 52
        · rw [if_pos c7] at H
          have c7b0 : (a0 == 52) = true := beq_iff_eq.mpr c7
          have c7b1 : (a0 != 52) = false := bne_eq_false_iff_eq.mpr c7
          clear c7
          replace H := Option.bind_eq_some_iff.mp H
          obtain ⟨t119, A80, H⟩ := H
          replace H : (some (t119, 0)) = some (r1, r2) := H
          have A8 := Aside0.mk A80
          clear A80
          simp only [Option.some.injEq, Prod.mk.injEq] at H
          obtain ⟨rfl, rfl⟩ := H
          go_enter Try.func14, Try.ntmps14
          go_wp2_with (first | ((with_reducible refine gate_callee (f := 35) rfl ?_); refine goesL_ (some 29) rfl rfl Try.func35 (by kernel_rfl) rfl #[.bool ((wrap32 (a1)) == 0)] rfl (by (try simp only [List.map_toArray, List.map_cons, List.map_nil]); first | done | rfl | (simp only [List.length_drop, List.length_take]; rfl)) ?_; (with_reducible refine (cell_flag.calls ((wrap32 (a1)) == 0) t119 _ A8.out).mono ?_); rintro e w' ⟨rfl, ⟨nd, rfl⟩⟩; refine ⟨_, rfl, ?_⟩))
          go_ret2
          exact ⟨by first | rfl | (simp; done) | (simp [*]; done) | (simp <;> omega) | (simp [*] <;> omega), by repeat (first | exact Drawn0.refl _ | apply Drawn0.step)⟩
        · rw [if_neg c7] at H
          have c7b0 : (a0 == 52) = false := beq_eq_false_iff_ne.mpr c7
          have c7b1 : (a0 != 52) = true := bne_iff_ne.mpr c7
          by_cases c9 : a0 = 53
          · rw [if_pos c9] at H
            have c9b0 : (a0 == 53) = true := beq_iff_eq.mpr c9
            have c9b1 : (a0 != 53) = false := bne_eq_false_iff_eq.mpr c9
            clear c9
            replace H := Option.bind_eq_some_iff.mp H
            obtain ⟨t120, A100, H⟩ := H
            replace H : (some (t120, 0)) = some (r1, r2) := H
            have A10 := Aside0.mk A100
            clear A100
            simp only [Option.some.injEq, Prod.mk.injEq] at H
            obtain ⟨rfl, rfl⟩ := H
            go_enter Try.func14, Try.ntmps14
            go_wp2_with (first | ((with_reducible refine gate_callee (f := 35) rfl ?_); refine goesL_ (some 34) rfl rfl Try.func35 (by kernel_rfl) rfl #[.bool ((wrap32 (a1)) != 0)] rfl (by (try simp only [List.map_toArray, List.map_cons, List.map_nil]); first | done | rfl | (simp only [List.length_drop, List.length_take]; rfl)) ?_; (with_reducible refine (cell_flag.calls ((wrap32 (a1)) != 0) t120 _ A10.out).mono ?_); rintro e w' ⟨rfl, ⟨nd, rfl⟩⟩; refine ⟨_, rfl, ?_⟩))
            go_ret2
            exact ⟨by first | rfl | (simp; done) | (simp [*]; done) | (simp <;> omega) | (simp [*] <;> omega), by repeat (first | exact Drawn0.refl _ | apply Drawn0.step)⟩
          · rw [if_neg c9] at H
            have c9b0 : (a0 == 53) = false := beq_eq_false_iff_ne.mpr c9
            have c9b1 : (a0 != 53) = true := bne_iff_ne.mpr c9
            by_cases c11 : a0 = 54
            · rw [if_pos c11] at H
              have c11b0 : (a0 == 54) = true := beq_iff_eq.mpr c11
              have c11b1 : (a0 != 54) = false := bne_eq_false_iff_eq.mpr c11
              clear c11
              replace H := Option.bind_eq_some_iff.mp H
              obtain ⟨t121, A120, H⟩ := H
              replace H : (some (t121, 0)) = some (r1, r2) := H
              have A12 := Aside0.mk A120
              clear A120
              simp only [Option.some.injEq, Prod.mk.injEq] at H
              obtain ⟨rfl, rfl⟩ := H
              go_enter Try.func14, Try.ntmps14
              go_wp2_with (first | ((with_reducible refine gate_callee (f := 35) rfl ?_); refine goesL_ (some 39) rfl rfl Try.func35 (by kernel_rfl) rfl #[.bool (decide ((wrap32 (a1)) < 0))] rfl (by (try simp only [List.map_toArray, List.map_cons, List.map_nil]); first | done | rfl | (simp only [List.length_drop, List.length_take]; rfl)) ?_; (with_reducible refine (cell_flag.calls (decide ((wrap32 (a1)) < 0)) t121 _ A12.out).mono ?_); rintro e w' ⟨rfl, ⟨nd, rfl⟩⟩; refine ⟨_, rfl, ?_⟩))
              go_ret2
              exact ⟨by first | rfl | (simp; done) | (simp [*]; done) | (simp <;> omega) | (simp [*] <;> omega), by repeat (first | exact Drawn0.refl _ | apply Drawn0.step)⟩
            · rw [if_neg c11] at H
              have c11b0 : (a0 == 54) = false := beq_eq_false_iff_ne.mpr c11
              have c11b1 : (a0 != 54) = true := bne_iff_ne.mpr c11
              by_cases c13 : a0 = 55
              · rw [if_pos c13] at H
                have c13b0 : (a0 == 55) = true := beq_iff_eq.mpr c13
                have c13b1 : (a0 != 55) = false := bne_eq_false_iff_eq.mpr c13
                clear c13
                replace H := Option.bind_eq_some_iff.mp H
                obtain ⟨t122, A140, H⟩ := H
                replace H : (some (t122, 0)) = some (r1, r2) := H
                have A14 := Aside0.mk A140
                clear A140
                simp only [Option.some.injEq, Prod.mk.injEq] at H
                obtain ⟨rfl, rfl⟩ := H
                go_enter Try.func14, Try.ntmps14
                go_wp2_with (first | ((with_reducible refine gate_callee (f := 35) rfl ?_); refine goesL_ (some 44) rfl rfl Try.func35 (by kernel_rfl) rfl #[.bool (decide ((wrap32 (a1)) ≤ 0))] rfl (by (try simp only [List.map_toArray, List.map_cons, List.map_nil]); first | done | rfl | (simp only [List.length_drop, List.length_take]; rfl)) ?_; (with_reducible refine (cell_flag.calls (decide ((wrap32 (a1)) ≤ 0)) t122 _ A14.out).mono ?_); rintro e w' ⟨rfl, ⟨nd, rfl⟩⟩; refine ⟨_, rfl, ?_⟩))
                go_ret2
                exact ⟨by first | rfl | (simp; done) | (simp [*]; done) | (simp <;> omega) | (simp [*] <;> omega), by repeat (first | exact Drawn0.refl _ | apply Drawn0.step)⟩
              · rw [if_neg c13] at H
                have c13b0 : (a0 == 55) = false := beq_eq_false_iff_ne.mpr c13
                have c13b1 : (a0 != 55) = true := bne_iff_ne.mpr c13
                by_cases c15 : a0 = 56
                · rw [if_pos c15] at H
                  have c15b0 : (a0 == 56) = true := beq_iff_eq.mpr c15
                  have c15b1 : (a0 != 56) = false := bne_eq_false_iff_eq.mpr c15
                  clear c15
                  replace H := Option.bind_eq_some_iff.mp H
                  obtain ⟨t123, A160, H⟩ := H
                  replace H : (some (t123, 0)) = some (r1, r2) := H
                  have A16 := Aside0.mk A160
                  clear A160
                  simp only [Option.some.injEq, Prod.mk.injEq] at H
                  obtain ⟨rfl, rfl⟩ := H
                  go_enter Try.func14, Try.ntmps14
                  go_wp2_with (first | ((with_reducible refine gate_callee (f := 35) rfl ?_); refine goesL_ (some 49) rfl rfl Try.func35 (by kernel_rfl) rfl #[.bool (decide ((wrap32 (a1)) > 0))] rfl (by (try simp only [List.map_toArray, List.map_cons, List.map_nil]); first | done | rfl | (simp only [List.length_drop, List.length_take]; rfl)) ?_; (with_reducible refine (cell_flag.calls (decide ((wrap32 (a1)) > 0)) t123 _ A16.out).mono ?_); rintro e w' ⟨rfl, ⟨nd, rfl⟩⟩; refine ⟨_, rfl, ?_⟩))
                  go_ret2
                  exact ⟨by first | rfl | (simp; done) | (simp [*]; done) | (simp <;> omega) | (simp [*] <;> omega), by repeat (first | exact Drawn0.refl _ | apply Drawn0.step)⟩
                · rw [if_neg c15] at H
                  have c15b0 : (a0 == 56) = false := beq_eq_false_iff_ne.mpr c15
                  have c15b1 : (a0 != 56) = true := bne_iff_ne.mpr c15
                  by_cases c17 : a0 = 57
                  · rw [if_pos c17] at H
                    have c17b0 : (a0 == 57) = true := beq_iff_eq.mpr c17
                    have c17b1 : (a0 != 57) = false := bne_eq_false_iff_eq.mpr c17
                    clear c17
                    replace H := Option.bind_eq_some_iff.mp H
                    obtain ⟨t124, A180, H⟩ := H
                    replace H : (some (t124, 0)) = some (r1, r2) := H
                    have A18 := Aside0.mk A180
                    clear A180
                    simp only [Option.some.injEq, Prod.mk.injEq] at H
                    obtain ⟨rfl, rfl⟩ := H
                    go_enter Try.func14, Try.ntmps14
                    go_wp2_with (first | ((with_reducible refine gate_callee (f := 35) rfl ?_); refine goesL_ (some 54) rfl rfl Try.func35 (by kernel_rfl) rfl #[.bool (decide ((wrap32 (a1)) ≥ 0))] rfl (by (try simp only [List.map_toArray, List.map_cons, List.map_nil]); first | done | rfl | (simp only [List.length_drop, List.length_take]; rfl)) ?_; (with_reducible refine (cell_flag.calls (decide ((wrap32 (a1)) ≥ 0)) t124 _ A18.out).mono ?_); rintro e w' ⟨rfl, ⟨nd, rfl⟩⟩; refine ⟨_, rfl, ?_⟩))
                    go_ret2
                    exact ⟨by first | rfl | (simp; done) | (simp [*]; done) | (simp <;> omega) | (simp [*] <;> omega), by repeat (first | exact Drawn0.refl _ | apply Drawn0.step)⟩
                  · rw [if_neg c17] at H
                    have c17b0 : (a0 == 57) = false := beq_eq_false_iff_ne.mpr c17
                    have c17b1 : (a0 != 57) = true := bne_iff_ne.mpr c17
                    by_cases c19 : a0 = 87
                    · rw [if_pos c19] at H
                      have c19b0 : (a0 == 87) = true := beq_iff_eq.mpr c19
                      have c19b1 : (a0 != 87) = false := bne_eq_false_iff_eq.mpr c19
                      clear c19
                      simp only [Option.some.injEq, Prod.mk.injEq] at H
                      obtain ⟨rfl, rfl⟩ := H
                      go_enter Try.func14, Try.ntmps14
                      go_wp2
                      go_ret2
                      exact ⟨by first | rfl | (simp; done) | (simp [*]; done) | (simp <;> omega) | (simp [*] <;> omega), by repeat (first | exact Drawn0.refl _ | apply Drawn0.step)⟩
                    · rw [if_neg c19] at H
                      have c19b0 : (a0 == 87) = false := beq_eq_false_iff_ne.mpr c19
                      have c19b1 : (a0 != 87) = true := bne_iff_ne.mpr c19
                      by_cases c20 : a0 = 88
                      · rw [if_pos c20] at H
                        have c20b0 : (a0 == 88) = true := beq_iff_eq.mpr c20
                        have c20b1 : (a0 != 88) = false := bne_eq_false_iff_eq.mpr c20
                        clear c20
                        simp only [Option.some.injEq, Prod.mk.injEq] at H
                        obtain ⟨rfl, rfl⟩ := H
                        go_enter Try.func14, Try.ntmps14
                        go_wp2
                        go_ret2
                        exact ⟨by first | rfl | (simp; done) | (simp [*]; done) | (simp <;> omega) | (simp [*] <;> omega), by repeat (first | exact Drawn0.refl _ | apply Drawn0.step)⟩
                      · rw [if_neg c20] at H
                        have c20b0 : (a0 == 88) = false := beq_eq_false_iff_ne.mpr c20
                        have c20b1 : (a0 != 88) = true := bne_iff_ne.mpr c20
                        by_cases c21 : a0 = 89
                        · rw [if_pos c21] at H
                          have c21b0 : (a0 == 89) = true := beq_iff_eq.mpr c21
                          have c21b1 : (a0 != 89) = false := bne_eq_false_iff_eq.mpr c21
                          clear c21
                          simp only [Option.some.injEq, Prod.mk.injEq] at H
                          obtain ⟨rfl, rfl⟩ := H
                          go_enter Try.func14, Try.ntmps14
                          go_wp2
                          go_ret2
                          exact ⟨by first | rfl | (simp; done) | (simp [*]; done) | (simp <;> omega) | (simp [*] <;> omega), by repeat (first | exact Drawn0.refl _ | apply Drawn0.step)⟩
                        · rw [if_neg c21] at H
                          have c21b0 : (a0 == 89) = false := beq_eq_false_iff_ne.mpr c21
                          have c21b1 : (a0 != 89) = true := bne_iff_ne.mpr c21
                          by_cases c22 : a0 = 128
                          · rw [if_pos c22] at H
                            have c22b0 : (a0 == 128) = true := beq_iff_eq.mpr c22
                            have c22b1 : (a0 != 128) = false := bne_eq_false_iff_eq.mpr c22
                            clear c22
                            replace H := Option.bind_eq_some_iff.mp H
                            obtain ⟨t125, A230, H⟩ := H
                            replace H : (some ((t125) % 4294967296, 0)) = some (r1, r2) := H
                            have A23 := Aside0.mk A230
                            clear A230
                            simp only [Option.some.injEq, Prod.mk.injEq] at H
                            obtain ⟨rfl, rfl⟩ := H
                            go_enter Try.func14, Try.ntmps14
                            go_wp2_with (first | ((with_reducible refine gate_callee (f := 36) rfl ?_); refine goesL_ (some 72) rfl rfl Try.func36 (by kernel_rfl) rfl #[.int .u16 (IntKind.u16.wrap (a1))] rfl (by (try simp only [List.map_toArray, List.map_cons, List.map_nil]); first | done | rfl | (simp only [List.length_drop, List.length_take]; rfl)) ?_; (with_reducible refine (bits_ReverseBytes16.calls (IntKind.u16.wrap (a1)) t125 _ A23.out).mono ?_); rintro e w' ⟨rfl, ⟨nd, rfl⟩⟩; refine ⟨_, rfl, ?_⟩))
                            go_ret2
                            exact ⟨by first | rfl | (simp; done) | (simp [*]; done) | (simp <;> omega) | (simp [*] <;> omega), by repeat (first | exact Drawn0.refl _ | apply Drawn0.step)⟩
                          · rw [if_neg c22] at H
                            have c22b0 : (a0 == 128) = false := beq_eq_false_iff_ne.mpr c22
                            have c22b1 : (a0 != 128) = true := bne_iff_ne.mpr c22
                            by_cases c24 : a0 = 129
                            · rw [if_pos c24] at H
                              have c24b0 : (a0 == 129) = true := beq_iff_eq.mpr c24
                              have c24b1 : (a0 != 129) = false := bne_eq_false_iff_eq.mpr c24
                              clear c24
                              by_cases c25 : ((a1 - 97) % 4294967296) < 26
                              · rw [if_pos c25] at H
                                have c25b0 : decide (((a1 - 97) % 4294967296) < 26) = true := decide_eq_true c25
                                clear c25
                                simp only [Option.some.injEq, Prod.mk.injEq] at H
                                obtain ⟨rfl, rfl⟩ := H
                                go_enter Try.func14, Try.ntmps14
                                go_wp2
                                go_ret2
                                exact ⟨by first | rfl | (simp; done) | (simp [*]; done) | (simp <;> omega) | (simp [*] <;> omega), by repeat (first | exact Drawn0.refl _ | apply Drawn0.step)⟩
                              · rw [if_neg c25] at H
                                have c25b0 : decide (((a1 - 97) % 4294967296) < 26) = false := decide_eq_false c25
                                clear c25
                                simp only [Option.some.injEq, Prod.mk.injEq] at H
                                obtain ⟨rfl, rfl⟩ := H
                                go_enter Try.func14, Try.ntmps14
                                go_wp2
                                go_ret2
                                exact ⟨by first | rfl | (simp; done) | (simp [*]; done) | (simp <;> omega) | (simp [*] <;> omega), by repeat (first | exact Drawn0.refl _ | apply Drawn0.step)⟩
                            · rw [if_neg c24] at H
                              have c24b0 : (a0 == 129) = false := beq_eq_false_iff_ne.mpr c24
                              have c24b1 : (a0 != 129) = true := bne_iff_ne.mpr c24
                              by_cases c26 : a0 = 130
                              · rw [if_pos c26] at H
                                have c26b0 : (a0 == 130) = true := beq_iff_eq.mpr c26
                                have c26b1 : (a0 != 130) = false := bne_eq_false_iff_eq.mpr c26
                                clear c26
                                by_cases c27 : ((a1 - 65) % 4294967296) < 26
                                · rw [if_pos c27] at H
                                  have c27b0 : decide (((a1 - 65) % 4294967296) < 26) = true := decide_eq_true c27
                                  clear c27
                                  simp only [Option.some.injEq, Prod.mk.injEq] at H
                                  obtain ⟨rfl, rfl⟩ := H
                                  go_enter Try.func14, Try.ntmps14
                                  go_wp2
                                  go_ret2
                                  exact ⟨by first | rfl | (simp; done) | (simp [*]; done) | (simp <;> omega) | (simp [*] <;> omega), by repeat (first | exact Drawn0.refl _ | apply Drawn0.step)⟩
                                · rw [if_neg c27] at H
                                  have c27b0 : decide (((a1 - 65) % 4294967296) < 26) = false := decide_eq_false c27
                                  clear c27
                                  simp only [Option.some.injEq, Prod.mk.injEq] at H
                                  obtain ⟨rfl, rfl⟩ := H
                                  go_enter Try.func14, Try.ntmps14
                                  go_wp2
                                  go_ret2
                                  exact ⟨by first | rfl | (simp; done) | (simp [*]; done) | (simp <;> omega) | (simp [*] <;> omega), by repeat (first | exact Drawn0.refl _ | apply Drawn0.step)⟩
                              · rw [if_neg c26] at H
                                have c26b0 : (a0 == 130) = false := beq_eq_false_iff_ne.mpr c26
                                have c26b1 : (a0 != 130) = true := bne_iff_ne.mpr c26
                                simp only [Option.some.injEq, Prod.mk.injEq] at H
                                obtain ⟨rfl, rfl⟩ := H
                                go_enter Try.func14, Try.ntmps14
                                go_wp2
                                go_ret2
                                exact ⟨by first | rfl | (simp; done) | (simp [*]; done) | (simp <;> omega) | (simp [*] <;> omega), by repeat (first | exact Drawn0.refl _ | apply Drawn0.step)⟩

/-! ### tinderref01_Signed: function 17 -/
def tinderref01_Signed.f (a0 : Int) : Option (Int) := if a0 ≥ 2147483648 then (some (wrap64 ((wrap64 (a0)) - 4294967296))) else (some (wrap64 (a0)))
set_option maxHeartbeats 8000000 in
set_option maxRecDepth 100000 in
theorem tinderref01_Signed.calls (a0 : Int) (r : Int) (w : World) (h : tinderref01_Signed.f a0 = some r) :
    Calls Try.prog 17 #[.int .u32 a0] w fun e w' => e = .returned (.int .i64 r) ∧ Drawn0 w w' := by
  have H : (if a0 ≥ 2147483648 then (some (wrap64 ((wrap64 (a0)) - 4294967296))) else (some (wrap64 (a0)))) = some r := h
  clear h
  by_cases c2 : a0 ≥ 2147483648
  · rw [if_pos c2] at H
    have c2b0 : decide (2147483648 ≤ a0) = true := decide_eq_true c2
    clear c2
    obtain rfl := Option.some.inj H
    go_enter Try.func17, Try.ntmps17
    go_wp2
    go_ret
    exact ⟨by first | rfl | (simp; done) | (simp [*]; done) | (simp <;> omega) | (simp [*] <;> omega), by repeat (first | exact Drawn0.refl _ | apply Drawn0.step)⟩
  · rw [if_neg c2] at H
    have c2b0 : decide (2147483648 ≤ a0) = false := decide_eq_false c2
    clear c2
    obtain rfl := Option.some.inj H
    go_enter Try.func17, Try.ntmps17
    go_wp2
    go_ret
    exact ⟨by first | rfl | (simp; done) | (simp [*]; done) | (simp <;> omega) | (simp [*] <;> omega), by repeat (first | exact Drawn0.refl _ | apply Drawn0.step)⟩

/-! ### tinderref01_Cell: function 33 -/
def tinderref01_Cell.f (a0 : Int) : Option (Int) := some ((Int.tmod (IntKind.u64.wrap (a0)) 4294967296) % 4294967296)
set_option maxHeartbeats 8000000 in
set_option maxRecDepth 100000 in
theorem tinderref01_Cell.calls (a0 : Int) (r : Int) (w : World) (h : tinderref01_Cell.f a0 = some r) :
    Calls Try.prog 33 #[.int .i64 a0] w fun e w' => e = .returned (.int .u32 r) ∧ Drawn0 w w' := by
  have H : (some ((Int.tmod (IntKind.u64.wrap (a0)) 4294967296) % 4294967296)) = some r := h
  clear h
  obtain rfl := Option.some.inj H
  go_enter Try.func33, Try.ntmps33
  go_wp2
  go_ret
  exact ⟨by first | rfl | (simp; done) | (simp [*]; done) | (simp <;> omega) | (simp [*] <;> omega), by repeat (first | exact Drawn0.refl _ | apply Drawn0.step)⟩

/-! ### tinderref01_Flag: function 37 -/
def tinderref01_Flag.f (a0 : Bool) : Option (Int) := if a0 = true then (some 4294967295) else (some 0)
set_option maxHeartbeats 8000000 in
set_option maxRecDepth 100000 in
theorem tinderref01_Flag.calls (a0 : Bool) (r : Int) (w : World) (h : tinderref01_Flag.f a0 = some r) :
    Calls Try.prog 37 #[.bool a0] w fun e w' => e = .returned (.int .u32 r) ∧ Drawn0 w w' := by
  have H : (if a0 = true then (some 4294967295) else (some 0)) = some r := h
  clear h
  by_cases c2 : a0 = true
  · subst c2
    have H1 : (some 4294967295) = some r := by rw [if_pos rfl] at H; exact H
    clear H
    have H := H1
    clear H1
    obtain rfl := Option.some.inj H
    go_enter Try.func37, Try.ntmps37
    go_wp2
    go_ret
    exact ⟨by first | rfl | (simp; done) | (simp [*]; done) | (simp <;> omega) | (simp [*] <;> omega), by repeat (first | exact Drawn0.refl _ | apply Drawn0.step)⟩
  · replace c2 := Bool.eq_false_iff.mpr c2
    subst c2
    have H1 : (some 0) = some r := by rw [if_neg (show ¬ (false = true) by decide)] at H; exact H
    clear H
    have H := H1
    clear H1
    obtain rfl := Option.some.inj H
    go_enter Try.func37, Try.ntmps37
    go_wp2
    go_ret
    exact ⟨by first | rfl | (simp; done) | (simp [*]; done) | (simp <;> omega) | (simp [*] <;> omega), by repeat (first | exact Drawn0.refl _ | apply Drawn0.step)⟩

/-! ### tinderref01_shift: function 38 -/
def tinderref01_shift.l0 : Nat → Int → Int → Int → Int → Option (Int)
  | 0, _, _, _, _ => none
  | k + 1, x0, x1, x7, x8 => if x8 < x7 then (if x0 = 39 then ((tinderref01_Cell.f (wrap64 ((wrap64 (x1)) * 2))).bind fun t126 => (tinderref01_shift.l0 k x0 t126 x7 (wrap64 (x8 + 1)))) else (if x0 = 41 then (tinderref01_shift.l0 k x0 ((((Int.tdiv x1 2) % 4294967296) + ((((Int.tdiv x1 2147483648) % 4294967296) * 2147483648) % 4294967296)) % 4294967296) x7 (wrap64 (x8 + 1))) else (tinderref01_shift.l0 k x0 ((Int.tdiv x1 2) % 4294967296) x7 (wrap64 (x8 + 1))))) else (some x1)
def tinderref01_shift.f (k : Nat) (a0 : Int) (a1 : Int) (a2 : Int) : Option (Int) := tinderref01_shift.l0 k a0 a1 (mn (wrap64 (a2)) 32) 0
theorem tinderref01_shift.mono_l : ∀ k, (∀ y0 y1 y2 y3, LeO (tinderref01_shift.l0 k y0 y1 y2 y3) (tinderref01_shift.l0 (k + 1) y0 y1 y2 y3))
  | 0 => fun _ _ _ _ r h => by simp [tinderref01_shift.l0] at h
  | k + 1 => by
    have ih0 := tinderref01_shift.mono_l k
    · intro y0 y1 y2 y3
      unfold tinderref01_shift.l0
      repeat' first
      | (with_reducible exact ih0 _ _ _ _)
      | (with_reducible exact LeO.refl _)
      | (with_reducible exact LeO.none _)
      | (with_reducible refine LeO.ite ?_ ?_)
      | (with_reducible refine LeO.bind ?_ (fun _ => ?_))
      | exact ih0 _ _ _ _
      | exact LeO.none _
      | refine LeO.ite ?_ ?_
      | refine LeO.bind ?_ (fun _ => ?_)
theorem tinderref01_shift.mono : ∀ a0 a1 a2 k, LeO (tinderref01_shift.f k a0 a1 a2) (tinderref01_shift.f (k + 1) a0 a1 a2) := by
  intro a0 a1 a2 k
  have ih0 := tinderref01_shift.mono_l k
  unfold tinderref01_shift.f
  repeat' first
      | (with_reducible exact ih0 _ _ _ _)
      | (with_reducible exact LeO.refl _)
      | (with_reducible exact LeO.none _)
      | (with_reducible refine LeO.ite ?_ ?_)
      | (with_reducible refine LeO.bind ?_ (fun _ => ?_))
      | exact ih0 _ _ _ _
      | exact LeO.none _
      | refine LeO.ite ?_ ?_
      | refine LeO.bind ?_ (fun _ => ?_)
set_option maxHeartbeats 8000000 in
set_option maxRecDepth 100000 in
theorem tinderref01_shift.calls (k : Nat) (a0 : Int) (a1 : Int) (a2 : Int) (r : Int) (w : World) (h : tinderref01_shift.f k a0 a1 a2 = some r) :
    Calls Try.prog 38 #[.int .i64 a0, .int .u32 a1, .int .u32 a2] w fun e w' => e = .returned (.int .u32 r) ∧ Below w.heap.size w w' := by
  have HB := Aside0.mk (Below.refl w.heap.size w)
  have H : (tinderref01_shift.l0 k a0 a1 (mn (wrap64 (a2)) 32) 0) = some r := h
  clear h
  obtain ⟨ji4, hji4⟩ : ∃ j_ : Int, (mn (wrap64 (a2)) 32) = j_ := ⟨_, rfl⟩
  replace H : (tinderref01_shift.l0 k a0 a1 ji4 0) = some r := by first | (rw [hji4] at H; exact H) | (simp only [hji4] at H ⊢; exact H)
  (try (have hji4h : ji4 ≤ 32 := by (rw [← hji4]; unfold mn; (repeat' split) <;> omega)))
  (try (have hji4g : ji4 ≤ 64 := by omega))
  have hji4_ : (if 32 < (wrap64 (a2)) then 32 else (wrap64 (a2))) = ji4 := hji4
  have H' := Aside0.mk H
  clear H
  go_enter Try.func38, Try.ntmps38
  go_wp2
  go_loopg [1, 8] k (fun kq v1 v8 w' => ∃ (x1_1 : Int) (x8_1 : Int), v1 = .int .u32 x1_1 ∧ v8 = .int .i64 x8_1 ∧ Aside0 (tinderref01_shift.l0 kq a0 x1_1 ji4 x8_1 = some r) ∧ Aside0 (kq ≤ k) ∧ Aside0 (Below w.heap.size w w'))
  case atStart => exact ⟨(a1), (0), (by first | rfl | (simp; done) | (simp [*]; done) | (simp <;> omega) | (simp [*] <;> omega)), (by first | rfl | (simp; done) | (simp [*]; done) | (simp <;> omega) | (simp [*] <;> omega)), H', ⟨Nat.le_refl _⟩, ⟨by repeat (first | (with_reducible first | exact HB.out | apply below_alloc | apply pw_below_drewN | apply below_drew1) | exact HB.out)⟩⟩
  case round =>
    clear H'
    try clear p2
    try clear c3
    obtain ⟨x1_1, x8_1, rfl, rfl, HA, HK1, HB⟩ := hrel
    cases gk with
    | zero => exact absurd HA.out (by simp [tinderref01_shift.l0])
    | succ k1 =>
      have H := HA.out
      clear HA
      simp only [tinderref01_shift.l0] at H
      by_cases c5 : x8_1 < ji4
      · rw [if_pos c5] at H
        have c5b0 : decide (x8_1 < ji4) = true := decide_eq_true c5
        clear c5
        by_cases c6 : a0 = 39
        · rw [if_pos c6] at H
          have c6b0 : (a0 == 39) = true := beq_iff_eq.mpr c6
          have c6b1 : (a0 != 39) = false := bne_eq_false_iff_eq.mpr c6
          clear c6
          replace H := Option.bind_eq_some_iff.mp H
          obtain ⟨t126, A70, H⟩ := H
          replace H : (tinderref01_shift.l0 k1 a0 t126 ji4 (wrap64 (x8_1 + 1))) = some r := H
          have A7 := Aside0.mk A70
          clear A70
          have H' := Aside0.mk H
          clear H
          go_wp2_with (first | ((with_reducible refine gate_callee (f := 33) rfl ?_); refine goesL_ (some 25) rfl rfl Try.func33 (by kernel_rfl) rfl #[.int .i64 (wrap64 ((wrap64 (x1_1)) * 2))] rfl (by (try simp only [List.map_toArray, List.map_cons, List.map_nil]); first | done | rfl | (simp only [List.length_drop, List.length_take]; rfl)) ?_; (with_reducible refine (tinderref01_Cell.calls (wrap64 ((wrap64 (x1_1)) * 2)) t126 _ A7.out).mono ?_); rintro e w' ⟨rfl, ⟨nd, rfl⟩⟩; refine ⟨_, rfl, ?_⟩))
          go_roundg k1
          case measure => have := HK1.out; omega
          case rel => exact ⟨(t126), (wrap64 (x8_1 + 1)), (by first | rfl | (simp; done) | (simp [*]; done) | (simp <;> omega) | (simp [*] <;> omega)), (by first | rfl | (simp; done) | (simp [*]; done) | (simp <;> omega) | (simp [*] <;> omega)), H', ⟨by have := HK1.out; omega⟩, ⟨by repeat (first | (with_reducible first | exact HB.out | apply below_alloc | apply pw_below_drewN | apply below_drew1) | exact HB.out)⟩⟩
        · rw [if_neg c6] at H
          have c6b0 : (a0 == 39) = false := beq_eq_false_iff_ne.mpr c6
          have c6b1 : (a0 != 39) = true := bne_iff_ne.mpr c6
          by_cases c8 : a0 = 41
          · rw [if_pos c8] at H
            have c8b0 : (a0 == 41) = true := beq_iff_eq.mpr c8
            have c8b1 : (a0 != 41) = false := bne_eq_false_iff_eq.mpr c8
            clear c8
            have H' := Aside0.mk H
            clear H
            go_wp2
            go_roundg k1
            case measure => have := HK1.out; omega
            case rel => exact ⟨((((Int.tdiv x1_1 2) % 4294967296) + ((((Int.tdiv x1_1 2147483648) % 4294967296) * 2147483648) % 4294967296)) % 4294967296), (wrap64 (x8_1 + 1)), (by first | rfl | (simp; done) | (simp [*]; done) | (simp <;> omega) | (simp [*] <;> omega)), (by first | rfl | (simp; done) | (simp [*]; done) | (simp <;> omega) | (simp [*] <;> omega)), H', ⟨by have := HK1.out; omega⟩, ⟨by repeat (first | (with_reducible first | exact HB.out | apply below_alloc | apply pw_below_drewN | apply below_drew1) | exact HB.out)⟩⟩
          · rw [if_neg c8] at H
            have c8b0 : (a0 == 41) = false := beq_eq_false_iff_ne.mpr c8
            have c8b1 : (a0 != 41) = true := bne_iff_ne.mpr c8
            have H' := Aside0.mk H
            clear H
            go_wp2
            go_roundg k1
            case measure => have := HK1.out; omega
            case rel => exact ⟨((Int.tdiv x1_1 2) % 4294967296), (wrap64 (x8_1 + 1)), (by first | rfl | (simp; done) | (simp [*]; done) | (simp <;> omega) | (simp [*] <;> omega)), (by first | rfl | (simp; done) | (simp [*]; done) | (simp <;> omega) | (simp [*] <;> omega)), H', ⟨by have := HK1.out; omega⟩, ⟨by repeat (first | (with_reducible first | exact HB.out | apply below_alloc | apply pw_below_drewN | apply below_drew1) | exact HB.out)⟩⟩
      · rw [if_neg c5] at H
        have c5b0 : decide (x8_1 < ji4) = false := decide_eq_false c5
        clear c5
        obtain rfl := Option.some.inj H
        go_wp2
        go_ret
        exact ⟨by first | rfl | (simp [errW_none, errW_some] <;> rfl) | (simp only [← hji4]; first | rfl | (simp [errW_none, errW_some] <;> rfl)) | (simp [*, errW_none, errW_some] <;> rfl) | (simp [errW_none, errW_some] <;> omega) | (simp [*, errW_none, errW_some] <;> omega), by repeat (first | (with_reducible first | exact HB.out | apply below_alloc | apply pw_below_drewN | apply below_drew1) | exact HB.out)⟩

/-! ### tinderref01_Un: function 15 -/
def tinderref01_Un.f (k : Nat) (a0 : Int) (a1 : Int) : Option (Int × Int) := (tinderref01_Signed.f a1).bind fun t127 => (if a0 = 38 then (some ((4294967295 - a1) % 4294967296, 0)) else (if a0 = 44 then ((tinderref01_Cell.f (wrap64 (-t127))).bind fun t128 => (some (t128, 0))) else (if a0 = 45 then ((tinderref01_Cell.f (mx t127 (wrap64 (-t127)))).bind fun t129 => (some (t129, 0))) else (if a0 = 52 then ((tinderref01_Flag.f (t127 == 0)).bind fun t130 => (some (t130, 0))) else (if a0 = 53 then ((tinderref01_Flag.f (t127 != 0)).bind fun t131 => (some (t131, 0))) else (if a0 = 54 then ((tinderref01_Flag.f (decide (t127 < 0))).bind fun t132 => (some (t132, 0))) else (if a0 = 55 then ((tinderref01_Flag.f (decide (t127 ≤ 0))).bind fun t133 => (some (t133, 0))) else (if a0 = 56 then ((tinderref01_Flag.f (decide (t127 > 0))).bind fun t134 => (some (t134, 0))) else (if a0 = 57 then ((tinderref01_Flag.f (decide (t127 ≥ 0))).bind fun t135 => (some (t135, 0))) else (if a0 = 87 then ((tinderref01_shift.f k 41 a1 1).bind fun t136 => (some (t136, 0))) else (if a0 = 88 then (some ((Int.tdiv a1 2) % 4294967296, 0)) else (if a0 = 89 then ((tinderref01_Cell.f (wrap64 (2 * t127))).bind fun t137 => (some (t137, 0))) else (if a0 = 128 then (some (((((Int.tmod a1 256) * 256) % 4294967296) + (((Int.tdiv a1 256) % 4294967296) % 256)) % 4294967296, 0)) else (if a0 = 129 then (if a1 ≥ 97 then (if a1 ≤ 122 then (some ((a1 - 32) % 4294967296, 0)) else (some (a1, 0))) else (some (a1, 0))) else (if a0 = 130 then (if a1 ≥ 65 then (if a1 ≤ 90 then (some ((a1 + 32) % 4294967296, 0)) else (some (a1, 0))) else (some (a1, 0))) else (some (0, 2)))))))))))))))))
theorem tinderref01_Un.mono : ∀ a0 a1 k, LeO (tinderref01_Un.f k a0 a1) (tinderref01_Un.f (k + 1) a0 a1) := by
  intro a0 a1 k
  unfold tinderref01_Un.f
  repeat' first
      | (with_reducible exact tinderref01_shift.mono _ _ _ _)
      | (with_reducible exact LeO.refl _)
      | (with_reducible exact LeO.none _)
      | (with_reducible refine LeO.ite ?_ ?_)
      | (with_reducible refine LeO.bind ?_ (fun _ => ?_))
      | exact tinderref01_shift.mono _ _ _ _
      | exact LeO.none _
      | refine LeO.ite ?_ ?_
      | refine LeO.bind ?_ (fun _ => ?_)
set_option maxHeartbeats 8000000 in
set_option maxRecDepth 100000 in
theorem tinderref01_Un.calls (k : Nat) (a0 : Int) (a1 : Int) (r1 : Int) (r2 : Int) (w : World) (h : tinderref01_Un.f k a0 a1 = some (r1, r2)) :
    Calls Try.prog 15 #[.int .i64 a0, .int .u32 a1] w fun e w' => e = .returned (.tuple #[.int .u32 r1, .int .i64 r2]) ∧ Below w.heap.size w w' := by
  have HB := Aside0.mk (Below.refl w.heap.size w)
  have H : ((tinderref01_Signed.f a1).bind fun t127 => (if a0 = 38 then (some ((4294967295 - a1) % 4294967296, 0)) else (if a0 = 44 then ((tinderref01_Cell.f (wrap64 (-t127))).bind fun t128 => (some (t128, 0))) else (if a0 = 45 then ((tinderref01_Cell.f (mx t127 (wrap64 (-t127)))).bind fun t129 => (some (t129, 0))) else (if a0 = 52 then ((tinderref01_Flag.f (t127 == 0)).bind fun t130 => (some (t130, 0))) else (if a0 = 53 then ((tinderref01_Flag.f (t127 != 0)).bind fun t131 => (some (t131, 0))) else (if a0 = 54 then ((tinderref01_Flag.f (decide (t127 < 0))).bind fun t132 => (some (t132, 0))) else (if a0 = 55 then ((tinderref01_Flag.f (decide (t127 ≤ 0))).bind fun t133 => (some (t133, 0))) else (if a0 = 56 then ((tinderref01_Flag.f (decide (t127 > 0))).bind fun t134 => (some (t134, 0))) else (if a0 = 57 then ((tinderref01_Flag.f (decide (t127 ≥ 0))).bind fun t135 => (some (t135, 0))) else (if a0 = 87 then ((tinderref01_shift.f k 41 a1 1).bind fun t136 => (some (t136, 0))) else (if a0 = 88 then (some ((Int.tdiv a1 2) % 4294967296, 0)) else (if a0 = 89 then ((tinderref01_Cell.f (wrap64 (2 * t127))).bind fun t137 => (some (t137, 0))) else (if a0 = 128 then (some (((((Int.tmod a1 256) * 256) % 4294967296) + (((Int.tdiv a1 256) % 4294967296) % 256)) % 4294967296, 0)) else (if a0 = 129 then (if a1 ≥ 97 then (if a1 ≤ 122 then (some ((a1 - 32) % 4294967296, 0)) else (some (a1, 0))) else (some (a1, 0))) else (if a0 = 130 then (if a1 ≥ 65 then (if a1 ≤ 90 then (some ((a1 + 32) % 4294967296, 0)) else (some (a1, 0))) else (some (a1, 0))) else (some (0, 2)))))))))))))))))) = some (r1, r2) := h
  clear h
  replace H := Option.bind_eq_some_iff.mp H
  obtain ⟨t127, A30, H⟩ := H
  replace H : (if a0 = 38 then (some ((4294967295 - a1) % 4294967296, 0)) else (if a0 = 44 then ((tinderref01_Cell.f (wrap64 (-t127))).bind fun t128 => (some (t128, 0))) else (if a0 = 45 then ((tinderref01_Cell.f (mx t127 (wrap64 (-t127)))).bind fun t129 => (some (t129, 0))) else (if a0 = 52 then ((tinderref01_Flag.f (t127 == 0)).bind fun t130 => (some (t130, 0))) else (if a0 = 53 then ((tinderref01_Flag.f (t127 != 0)).bind fun t131 => (some (t131, 0))) else (if a0 = 54 then ((tinderref01_Flag.f (decide (t127 < 0))).bind fun t132 => (some (t132, 0))) else (if a0 = 55 then ((tinderref01_Flag.f (decide (t127 ≤ 0))).bind fun t133 => (some (t133, 0))) else (if a0 = 56 then ((tinderref01_Flag.f (decide (t127 > 0))).bind fun t134 => (some (t134, 0))) else (if a0 = 57 then ((tinderref01_Flag.f (decide (t127 ≥ 0))).bind fun t135 => (some (t135, 0))) else (if a0 = 87 then ((tinderref01_shift.f k 41 a1 1).bind fun t136 => (some (t136, 0))) else (if a0 = 88 then (some ((Int.tdiv a1 2) % 4294967296, 0)) else (if a0 = 89 then ((tinderref01_Cell.f (wrap64 (2 * t127))).bind fun t137 => (some (t137, 0))) else (if a0 = 128 then (some (((((Int.tmod a1 256) * 256) % 4294967296) + (((Int.tdiv a1 256) % 4294967296) % 256)) % 4294967296, 0)) else (if a0 = 129 then (if a1 ≥ 97 then (if a1 ≤ 122 then (some ((a1 - 32) % 4294967296, 0)) else (some (a1, 0))) else (some (a1, 0))) else (if a0 = 130 then (if a1 ≥ 65 then (if a1 ≤ 90 then (some ((a1 + 32) % 4294967296, 0)) else (some (a1, 0))) else (some (a1, 0))) else (some (0, 2))))))))))))))))) = some (r1, r2) := H
  have A3 := Aside0.mk A30
  clear A30
  by_cases c4 : a0 = 38
  · rw [if_pos c4] at H
    have c4b0 : (a0 == 38) = true := beq_iff_eq.mpr c4
    have c4b1 : (a0 != 38) = false := bne_eq_false_iff_eq.mpr c4
    clear c4
    simp only [Option.some.injEq, Prod.mk.injEq] at H
    obtain ⟨rfl, rfl⟩ := H
    go_enter Try.func15, Try.ntmps15
    go_wp2_with (first | ((with_reducible refine gate_callee (f := 17) rfl ?_); refine goesL_ (some 8) rfl rfl Try.func17 (by kernel_rfl) rfl #[.int .u32 a1] rfl (by (try simp only [List.map_toArray, List.map_cons, List.map_nil]); first | done | rfl | (simp only [List.length_drop, List.length_take]; rfl)) ?_; (with_reducible refine (tinderref01_Signed.calls a1 t127 _ A3.out).mono ?_); rintro e w' ⟨rfl, ⟨nd, rfl⟩⟩; refine ⟨_, rfl, ?_⟩))
    go_ret2
    exact ⟨by first | rfl | (simp [errW_none, errW_some] <;> rfl) | (simp [*, errW_none, errW_some] <;> rfl) | (simp [errW_none, errW_some] <;> omega) | (simp [*, errW_none, errW_some] <;> omega), by repeat (first | (with_reducible first | exact HB.out | apply below_alloc | apply pw_below_drewN | apply below_drew1) | exact HB.out)⟩
  · rw [if_neg c4] at H
    have c4b0 : (a0 == 38) = false := beq_eq_false_iff_ne.mpr c4
    have c4b1 : (a0 != 38) = true := bne_iff_ne.mpr c4
    by_cases c5 : a0 = 44
    · rw [if_pos c5] at H
      have c5b0 : (a0 == 44) = true := beq_iff_eq.mpr c5
      have c5b1 : (a0 != 44) = false := bne_eq_false_iff_eq.mpr c5
      clear c5
      replace H := Option.bind_eq_some_iff.mp H
      obtain ⟨t128, A60, H⟩ := H
      replace H : (some (t128, 0)) = some (r1, r2) := H
      have A6 := Aside0.mk A60
      clear A60
      simp only [Option.some.injEq, Prod.mk.injEq] at H
      obtain ⟨rfl, rfl⟩ := H
      go_enter Try.func15, Try.ntmps15
      go_wp2_with (first | ((with_reducible refine gate_callee (f := 17) rfl ?_); refine goesL_ (some 8) rfl rfl Try.func17 (by kernel_rfl) rfl #[.int .u32 a1] rfl (by (try simp only [List.map_toArray, List.map_cons, List.map_nil]); first | done | rfl | (simp only [List.length_drop, List.length_take]; rfl)) ?_; (with_reducible refine (tinderref01_Signed.calls a1 t127 _ A3.out).mono ?_); rintro e w' ⟨rfl, ⟨nd, rfl⟩⟩; refine ⟨_, rfl, ?_⟩) | ((with_reducible refine gate_callee (f := 33) rfl ?_); refine goesL_ (some 18) rfl rfl Try.func33 (by kernel_rfl) rfl #[.int .i64 (wrap64 (-t127))] rfl (by (try simp only [List.map_toArray, List.map_cons, List.map_nil]); first | done | rfl | (simp only [List.length_drop, List.length_take]; rfl)) ?_; (with_reducible refine (tinderref01_Cell.calls (wrap64 (-t127)) t128 _ A6.out).mono ?_); rintro e w' ⟨rfl, ⟨nd, rfl⟩⟩; refine ⟨_, rfl, ?_⟩))
      go_ret2
      exact ⟨by first | rfl | (simp [errW_none, errW_some] <;> rfl) | (simp [*, errW_none, errW_some] <;> rfl) | (simp [errW_none, errW_some] <;> omega) | (simp [*, errW_none, errW_some] <;> omega), by repeat (first | (with_reducible first | exact HB.out | apply below_alloc | apply pw_below_drewN | apply below_drew1) | exact HB.out)⟩
    · rw [if_neg c5] at H
      have c5b0 : (a0 == 44) = false := beq_eq_false_iff_ne.mpr c5
      have c5b1 : (a0 != 44) = true := bne_iff_ne.mpr c5
      by_cases c7 : a0 = 45
      · rw [if_pos c7] at H
        have c7b0 : (a0 == 45) = true := beq_iff_eq.mpr c7
        have c7b1 : (a0 != 45) = false := bne_eq_false_iff_eq.mpr c7
        clear c7
        obtain ⟨ji8, hji8⟩ : ∃ j_ : Int, (mx t127 (wrap64 (-t127))) = j_ := ⟨_, rfl⟩
        replace H : ((tinderref01_Cell.f (ji8)).bind fun t129 => (some (t129, 0))) = some (r1, r2) := by first | (rw [hji8] at H; exact H) | (simp only [hji8] at H ⊢; exact H)
        (try rw [hji8] at A3)
        have hji8_ : (if t127 < (wrap64 (-t127)) then (wrap64 (-t127)) else t127) = ji8 := hji8
        replace H := Option.bind_eq_some_iff.mp H
        obtain ⟨t129, A90, H⟩ := H
        replace H : (some (t129, 0)) = some (r1, r2) := H
        have A9 := Aside0.mk A90
        clear A90
        simp only [Option.some.injEq, Prod.mk.injEq] at H
        obtain ⟨rfl, rfl⟩ := H
        go_enter Try.func15, Try.ntmps15
        go_wp2_with (first | ((with_reducible refine gate_callee (f := 17) rfl ?_); refine goesL_ (some 8) rfl rfl Try.func17 (by kernel_rfl) rfl #[.int .u32 a1] rfl (by (try simp only [List.map_toArray, List.map_cons, List.map_nil]); first | done | rfl | (simp only [List.length_drop, List.length_take]; rfl)) ?_; (with_reducible refine (tinderref01_Signed.calls a1 t127 _ A3.out).mono ?_); rintro e w' ⟨rfl, ⟨nd, rfl⟩⟩; refine ⟨_, rfl, ?_⟩) | ((with_reducible refine gate_callee (f := 33) rfl ?_); refine goesL_ (some 25) rfl rfl Try.func33 (by kernel_rfl) rfl #[.int .i64 ji8] rfl (by (try simp only [List.map_toArray, List.map_cons, List.map_nil]); first | done | (simp only [hji8]; rfl) | rfl | (simp only [List.length_drop, List.length_take]; rfl)) ?_; (with_reducible refine (tinderref01_Cell.calls ji8 t129 _ A9.out).mono ?_); rintro e w' ⟨rfl, ⟨nd, rfl⟩⟩; refine ⟨_, rfl, ?_⟩))
        go_ret2
        exact ⟨by first | rfl | (simp [errW_none, errW_some] <;> rfl) | (simp only [← hji8]; first | rfl | (simp [errW_none, errW_some] <;> rfl)) | (simp [*, errW_none, errW_some] <;> rfl) | (simp [errW_none, errW_some] <;> omega) | (simp [*, errW_none, errW_some] <;> omega), by repeat (first | (with_reducible first | exact HB.out | apply below_alloc | apply pw_below_drewN | apply below_drew1) | exact HB.out)⟩
      · rw [if_neg c7] at H
        have c7b0 : (a0 == 45) = false := beq_eq_false_iff_ne.mpr c7
        have c7b1 : (a0 != 45) = true := bne_iff_ne.mpr c7
        by_cases c10 : a0 = 52
        · rw [if_pos c10] at H
          have c10b0 : (a0 == 52) = true := beq_iff_eq.mpr c10
          have c10b1 : (a0 != 52) = false := bne_eq_false_iff_eq.mpr c10
          clear c10
          replace H := Option.bind_eq_some_iff.mp H
          obtain ⟨t130, A110, H⟩ := H
          replace H : (some (t130, 0)) = some (r1, r2) := H
          have A11 := Aside0.mk A110
          clear A110
          simp only [Option.some.injEq, Prod.mk.injEq] at H
          obtain ⟨rfl, rfl⟩ := H
          go_enter Try.func15, Try.ntmps15
          go_wp2_with (first | ((with_reducible refine gate_callee (f := 17) rfl ?_); refine goesL_ (some 8) rfl rfl Try.func17 (by kernel_rfl) rfl #[.int .u32 a1] rfl (by (try simp only [List.map_toArray, List.map_cons, List.map_nil]); first | done | rfl | (simp only [List.length_drop, List.length_take]; rfl)) ?_; (with_reducible refine (tinderref01_Signed.calls a1 t127 _ A3.out).mono ?_); rintro e w' ⟨rfl, ⟨nd, rfl⟩⟩; refine ⟨_, rfl, ?_⟩) | ((with_reducible refine gate_callee (f := 37) rfl ?_); refine goesL_ (some 30) rfl rfl Try.func37 (by kernel_rfl) rfl #[.bool (t127 == 0)] rfl (by (try simp only [List.map_toArray, List.map_cons, List.map_nil]); first | done | rfl | (simp only [List.length_drop, List.length_take]; rfl)) ?_; (with_reducible refine (tinderref01_Flag.calls (t127 == 0) t130 _ A11.out).mono ?_); rintro e w' ⟨rfl, ⟨nd, rfl⟩⟩; refine ⟨_, rfl, ?_⟩))
          go_ret2
          exact ⟨by first | rfl | (simp [errW_none, errW_some] <;> rfl) | (simp [*, errW_none, errW_some] <;> rfl) | (simp [errW_none, errW_some] <;> omega) | (simp [*, errW_none, errW_some] <;> omega), by repeat (first | (with_reducible first | exact HB.out | apply below_alloc | apply pw_below_drewN | apply below_drew1) | exact HB.out)⟩
        · rw [if_neg c10] at H
          have c10b0 : (a0 == 52) = false := beq_eq_false_iff_ne.mpr c10
          have c10b1 : (a0 != 52) = true := bne_iff_ne.mpr c10
          by_cases c12 : a0 = 53
          · rw [if_pos c12] at H
            have c12b0 : (a0 == 53) = true := beq_iff_eq.mpr c12
            have c12b1 : (a0 != 53) = false := bne_eq_false_iff_eq.mpr c12
            clear c12
            replace H := Option.bind_eq_some_iff.mp H
            obtain ⟨t131, A130, H⟩ := H
            replace H : (some (t131, 0)) = some (r1, r2) := H
            have A13 := Aside0.mk A130
            clear A130
            simp only [Option.some.injEq, Prod.mk.injEq] at H
            obtain ⟨rfl, rfl⟩ := H
            go_enter Try.func15, Try.ntmps15
            go_wp2_with (first | ((with_reducible refine gate_callee (f := 17) rfl ?_); refine goesL_ (some 8) rfl rfl Try.func17 (by kernel_rfl) rfl #[.int .u32 a1] rfl (by (try simp only [List.map_toArray, List.map_cons, List.map_nil]); first | done | rfl | (simp only [List.length_drop, List.length_take]; rfl)) ?_; (with_reducible refine (tinderref01_Signed.calls a1 t127 _ A3.out).mono ?_); rintro e w' ⟨rfl, ⟨nd, rfl⟩⟩; refine ⟨_, rfl, ?_⟩) | ((with_reducible refine gate_callee (f := 37) rfl ?_); refine goesL_ (some 35) rfl rfl Try.func37 (by kernel_rfl) rfl #[.bool (t127 != 0)] rfl (by (try simp only [List.map_toArray, List.map_cons, List.map_nil]); first | done | rfl | (simp only [List.length_drop, List.length_take]; rfl)) ?_; (with_reducible refine (tinderref01_Flag.calls (t127 != 0) t131 _ A13.out).mono ?_); rintro e w' ⟨rfl, ⟨nd, rfl⟩⟩; refine ⟨_, rfl, ?_⟩))
            go_ret2
            exact ⟨by first | rfl | (simp [errW_none, errW_some] <;> rfl) | (simp [*, errW_none, errW_some] <;> rfl) | (simp [errW_none, errW_some] <;> omega) | (simp [*, errW_none, errW_some] <;> omega), by repeat (first | (with_reducible first | exact HB.out | apply below_alloc | apply pw_below_drewN | apply below_drew1) | exact HB.out)⟩
          · rw [if_neg c12] at H
            have c12b0 : (a0 == 53) = false := beq_eq_false_iff_ne.mpr c12
            have c12b1 : (a0 != 53) = true := bne_iff_ne.mpr c12
            by_cases c14 : a0 = 54
            · rw [if_pos c14] at H
              have c14b0 : (a0 == 54) = true := beq_iff_eq.mpr c14
              have c14b1 : (a0 != 54) = false := bne_eq_false_iff_eq.mpr c14
              clear c14
              replace H := Option.bind_eq_some_iff.mp H
              obtain ⟨t132, A150, H⟩ := H
              replace H : (some (t132, 0)) = some (r1, r2) := H
              have A15 := Aside0.mk A150
              clear A150
              simp only [Option.some.injEq, Prod.mk.injEq] at H
              obtain ⟨rfl, rfl⟩ := H
              go_enter Try.func15, Try.ntmps15
              go_wp2_with (first | ((with_reducible refine gate_callee (f := 17) rfl ?_); refine goesL_ (some 8) rfl rfl Try.func17 (by kernel_rfl) rfl #[.int .u32 a1] rfl (by (try simp only [List.map_toArray, List.map_cons, List.map_nil]); first | done | rfl | (simp only [List.length_drop, List.length_take]; rfl)) ?_; (with_reducible refine (tinderref01_Signed.calls a1 t127 _ A3.out).mono ?_); rintro e w' ⟨rfl, ⟨nd, rfl⟩⟩; refine ⟨_, rfl, ?_⟩) | ((with_reducible refine gate_callee (f := 37) rfl ?_); refine goesL_ (some 40) rfl rfl Try.func37 (by kernel_rfl) rfl #[.bool (decide (t127 < 0))] rfl (by (try simp only [List.map_toArray, List.map_cons, List.map_nil]); first | done | rfl | (simp only [List.length_drop, List.length_take]; rfl)) ?_; (with_reducible refine (tinderref01_Flag.calls (decide (t127 < 0)) t132 _ A15.out).mono ?_); rintro e w' ⟨rfl, ⟨nd, rfl⟩⟩; refine ⟨_, rfl, ?_⟩))
              go_ret2
              exact ⟨by first | rfl | (simp [errW_none, errW_some] <;> rfl) | (simp [*, errW_none, errW_some] <;> rfl) | (simp [errW_none, errW_some] <;> omega) | (simp [*, errW_none, errW_some] <;> omega), by repeat (first | (with_reducible first | exact HB.out | apply below_alloc | apply pw_below_drewN | apply below_drew1) | exact HB.out)⟩
            · rw [if_neg c14] at H
              have c14b0 : (a0 == 54) = false := beq_eq_false_iff_ne.mpr c14
              have c14b1 : (a0 != 54) = true := bne_iff_ne.mpr c14
              by_cases c16 : a0 = 55
              · rw [if_pos c16] at H
                have c16b0 : (a0 == 55) = true := beq_iff_eq.mpr c16
                have c16b1 : (a0 != 55) = false := bne_eq_false_iff_eq.mpr c16
                clear c16
                replace H := Option.bind_eq_some_iff.mp H
                obtain ⟨t133, A170, H⟩ := H
                replace H : (some (t133, 0)) = some (r1, r2) := H
                have A17 := Aside0.mk A170
                clear A170
                simp only [Option.some.injEq, Prod.mk.injEq] at H
                obtain ⟨rfl, rfl⟩ := H
                go_enter Try.func15, Try.ntmps15
                go_wp2_with (first | ((with_reducible refine gate_callee (f := 17) rfl ?_); refine goesL_ (some 8) rfl rfl Try.func17 (by kernel_rfl) rfl #[.int .u32 a1] rfl (by (try simp only [List.map_toArray, List.map_cons, List.map_nil]); first | done | rfl | (simp only [List.length_drop, List.length_take]; rfl)) ?_; (with_reducible refine (tinderref01_Signed.calls a1 t127 _ A3.out).mono ?_); rintro e w' ⟨rfl, ⟨nd, rfl⟩⟩; refine ⟨_, rfl, ?_⟩) | ((with_reducible refine gate_callee (f := 37) rfl ?_); refine goesL_ (some 45) rfl rfl Try.func37 (by kernel_rfl) rfl #[.bool (decide (t127 ≤ 0))] rfl (by (try simp only [List.map_toArray, List.map_cons, List.map_nil]); first | done | rfl | (simp only [List.length_drop, List.length_take]; rfl)) ?_; (with_reducible refine (tinderref01_Flag.calls (decide (t127 ≤ 0)) t133 _ A17.out).mono ?_); rintro e w' ⟨rfl, ⟨nd, rfl⟩⟩; refine ⟨_, rfl, ?_⟩))
                go_ret2
                exact ⟨by first | rfl | (simp [errW_none, errW_some] <;> rfl) | (simp [*, errW_none, errW_some] <;> rfl) | (simp [errW_none, errW_some] <;> omega) | (simp [*, errW_none, errW_some] <;> omega), by repeat (first | (with_reducible first | exact HB.out | apply below_alloc | apply pw_below_drewN | apply below_drew1) | exact HB.out)⟩
              · rw [if_neg c16] at H
                have c16b0 : (a0 == 55) = false := beq_eq_false_iff_ne.mpr c16
                have c16b1 : (a0 != 55) = true := bne_iff_ne.mpr c16
                by_cases c18 : a0 = 56
                · rw [if_pos c18] at H
                  have c18b0 : (a0 == 56) = true := beq_iff_eq.mpr c18
                  have c18b1 : (a0 != 56) = false := bne_eq_false_iff_eq.mpr c18
                  clear c18
                  replace H := Option.bind_eq_some_iff.mp H
                  obtain ⟨t134, A190, H⟩ := H
                  replace H : (some (t134, 0)) = some (r1, r2) := H
                  have A19 := Aside0.mk A190
                  clear A190
                  simp only [Option.some.injEq, Prod.mk.injEq] at H
                  obtain ⟨rfl, rfl⟩ := H
                  go_enter Try.func15, Try.ntmps15
                  go_wp2_with (first | ((with_reducible refine gate_callee (f := 17) rfl ?_); refine goesL_ (some 8) rfl rfl Try.func17 (by kernel_rfl) rfl #[.int .u32 a1] rfl (by (try simp only [List.map_toArray, List.map_cons, List.map_nil]); first | done | rfl | (simp only [List.length_drop, List.length_take]; rfl)) ?_; (with_reducible refine (tinderref01_Signed.calls a1 t127 _ A3.out).mono ?_); rintro e w' ⟨rfl, ⟨nd, rfl⟩⟩; refine ⟨_, rfl, ?_⟩) | ((with_reducible refine gate_callee (f := 37) rfl ?_); refine goesL_ (some 50) rfl rfl Try.func37 (by kernel_rfl) rfl #[.bool (decide (t127 > 0))] rfl (by (try simp only [List.map_toArray, List.map_cons, List.map_nil]); first | done | rfl | (simp only [List.length_drop, List.length_take]; rfl)) ?_; (with_reducible refine (tinderref01_Flag.calls (decide (t127 > 0)) t134 _ A19.out).mono ?_); rintro e w' ⟨rfl, ⟨nd, rfl⟩⟩; refine ⟨_, rfl, ?_⟩))
                  go_ret2
                  exact ⟨by first | rfl | (simp [errW_none, errW_some] <;> rfl) | (simp [*, errW_none, errW_some] <;> rfl) | (simp [errW_none, errW_some] <;> omega) | (simp [*, errW_none, errW_some] <;> omega), by repeat (first | (with_reducible first | exact HB.out | apply below_alloc | apply pw_below_drewN | apply below_drew1) | exact HB.out)⟩
                · rw [if_neg c18] at H
                  have c18b0 : (a0 == 56) = false := beq_eq_false_iff_ne.mpr c18
                  have c18b1 : (a0 != 56) = true := bne_iff_ne.mpr c18
                  by_cases c20 : a0 = 57
                  · rw [if_pos c20] at H
                    have c20b0 : (a0 == 57) = true := beq_iff_eq.mpr c20
                    have c20b1 : (a0 != 57) = false := bne_eq_false_iff_eq.mpr c20
                    clear c20
                    replace H := Option.bind_eq_some_iff.mp H
                    obtain ⟨t135, A210, H⟩ := H
                    replace H : (some (t135, 0)) = some (r1, r2) := H
                    have A21 := Aside0.mk A210
                    clear A210
                    simp only [Option.some.injEq, Prod.mk.injEq] at H
                    obtain ⟨rfl, rfl⟩ := H
                    go_enter Try.func15, Try.ntmps15
                    go_wp2_with (first | ((with_reducible refine gate_callee (f := 17) rfl ?_); refine goesL_ (some 8) rfl rfl Try.func17 (by kernel_rfl) rfl #[.int .u32 a1] rfl (by (try simp only [List.map_toArray, List.map_cons, List.map_nil]); first | done | rfl | (simp only [List.length_drop, List.length_take]; rfl)) ?_; (with_reducible refine (tinderref01_Signed.calls a1 t127 _ A3.out).mono ?_); rintro e w' ⟨rfl, ⟨nd, rfl⟩⟩; refine ⟨_, rfl, ?_⟩) | ((with_reducible refine gate_callee (f := 37) rfl ?_); refine goesL_ (some 55) rfl rfl Try.func37 (by kernel_rfl) rfl #[.bool (decide (t127 ≥ 0))] rfl (by (try simp only [List.map_toArray, List.map_cons, List.map_nil]); first | done | rfl | (simp only [List.length_drop, List.length_take]; rfl)) ?_; (with_reducible refine (tinderref01_Flag.calls (decide (t127 ≥ 0)) t135 _ A21.out).mono ?_); rintro e w' ⟨rfl, ⟨nd, rfl⟩⟩; refine ⟨_, rfl, ?_⟩))
                    go_ret2
                    exact ⟨by first | rfl | (simp [errW_none, errW_some] <;> rfl) | (simp [*, errW_none, errW_some] <;> rfl) | (simp [errW_none, errW_some] <;> omega) | (simp [*, errW_none, errW_some] <;> omega), by repeat (first | (with_reducible first | exact HB.out | apply below_alloc | apply pw_below_drewN | apply below_drew1) | exact HB.out)⟩
                  · rw [if_neg c20] at H
                    have c20b0 : (a0 == 57) = false := beq_eq_false_iff_ne.mpr c20
                    have c20b1 : (a0 != 57) = true := bne_iff_ne.mpr c20
                    by_cases c22 : a0 = 87
                    · rw [if_pos c22] at H
                      have c22b0 : (a0 == 87) = true := beq_iff_eq.mpr c22
                      have c22b1 : (a0 != 87) = false := bne_eq_false_iff_eq.mpr c22
                      clear c22
                      replace H := Option.bind_eq_some_iff.mp H
                      obtain ⟨t136, A230, H⟩ := H
                      replace H : (some (t136, 0)) = some (r1, r2) := H
                      have A23 := Aside0.mk A230
                      clear A230
                      simp only [Option.some.injEq, Prod.mk.injEq] at H
                      obtain ⟨rfl, rfl⟩ := H
                      go_enter Try.func15, Try.ntmps15
                      go_wp2_with (first | ((with_reducible refine gate_callee (f := 17) rfl ?_); refine goesL_ (some 8) rfl rfl Try.func17 (by kernel_rfl) rfl #[.int .u32 a1] rfl (by (try simp only [List.map_toArray, List.map_cons, List.map_nil]); first | done | rfl | (simp only [List.length_drop, List.length_take]; rfl)) ?_; (with_reducible refine (tinderref01_Signed.calls a1 t127 _ A3.out).mono ?_); rintro e w' ⟨rfl, ⟨nd, rfl⟩⟩; refine ⟨_, rfl, ?_⟩) | ((with_reducible refine gate_callee (f := 38) rfl ?_); refine goesL_ (some 59) rfl rfl Try.func38 (by kernel_rfl) rfl #[.int .i64 41, .int .u32 a1, .int .u32 1] rfl (by (try simp only [List.map_toArray, List.map_cons, List.map_nil]); first | done | rfl | (simp only [List.length_drop, List.length_take]; rfl)) ?_; (with_reducible refine (tinderref01_shift.calls k 41 a1 1 t136 _ A23.out).mono ?_); rintro e w24 ⟨rfl, hb⟩; refine ⟨_, rfl, ?_⟩; have n0_ := Aside0.mk (below_step (by repeat (first | (with_reducible first | exact HB.out | apply below_alloc | apply pw_below_drewN | apply below_drew1) | exact HB.out)) hb); clear HB; have HB := n0_; clear n0_; (try clear hb); (try clear hb2); (try clear hk); (try clear hi)))
                      go_ret2
                      exact ⟨by first | rfl | (simp [errW_none, errW_some] <;> rfl) | (simp [*, errW_none, errW_some] <;> rfl) | (simp [errW_none, errW_some] <;> omega) | (simp [*, errW_none, errW_some] <;> omega), by repeat (first | (with_reducible first | exact HB.out | apply below_alloc | apply pw_below_drewN | apply below_drew1) | exact HB.out)⟩
                    · rw [if_neg c22] at H
                      have c22b0 : (a0 == 87) = false := beq_eq_false_iff_ne.mpr c22
                      have c22b1 : (a0 != 87) = true := bne_iff_ne.mpr c22
                      by_cases c25 : a0 = 88
                      · rw [if_pos c25] at H
                        have c25b0 : (a0 == 88) = true := beq_iff_eq.mpr c25
                        have c25b1 : (a0 != 88) = false := bne_eq_false_iff_eq.mpr c25
                        clear c25
                        simp only [Option.some.injEq, Prod.mk.injEq] at H
                        obtain ⟨rfl, rfl⟩ := H
                        go_enter Try.func15, Try.ntmps15
                        go_wp2_with (first | ((with_reducible refine gate_callee (f := 17) rfl ?_); refine goesL_ (some 8) rfl rfl Try.func17 (by kernel_rfl) rfl #[.int .u32 a1] rfl (by (try simp only [List.map_toArray, List.map_cons, List.map_nil]); first | done | rfl | (simp only [List.length_drop, List.length_take]; rfl)) ?_; (with_reducible refine (tinderref01_Signed.calls a1 t127 _ A3.out).mono ?_); rintro e w' ⟨rfl, ⟨nd, rfl⟩⟩; refine ⟨_, rfl, ?_⟩))
                        go_ret2
                        exact ⟨by first | rfl | (simp [errW_none, errW_some] <;> rfl) | (simp [*, errW_none, errW_some] <;> rfl) | (simp [errW_none, errW_some] <;> omega) | (simp [*, errW_none, errW_some] <;> omega), by repeat (first | (with_reducible first | exact HB.out | apply below_alloc | apply pw_below_drewN | apply below_drew1) | exact HB.out)⟩
                      · rw [if_neg c25] at H
                        have c25b0 : (a0 == 88) = false := beq_eq_false_iff_ne.mpr c25
                        have c25b1 : (a0 != 88) = true := bne_iff_ne.mpr c25
                        by_cases c26 : a0 = 89
                        · rw [if_pos c26] at H
                          have c26b0 : (a0 == 89) = true := beq_iff_eq.mpr c26
                          have c26b1 : (a0 != 89) = false := bne_eq_false_iff_eq.mpr c26
                          clear c26
                          replace H := Option.bind_eq_some_iff.mp H
                          obtain ⟨t137, A270, H⟩ := H
                          replace H : (some (t137, 0)) = some (r1, r2) := H
                          have A27 := Aside0.mk A270
                          clear A270
                          simp only [Option.some.injEq, Prod.mk.injEq] at H
                          obtain ⟨rfl, rfl⟩ := H
                          go_enter Try.func15, Try.ntmps15
                          go_wp2_with (first | ((with_reducible refine gate_callee (f := 17) rfl ?_); refine goesL_ (some 8) rfl rfl Try.func17 (by kernel_rfl) rfl #[.int .u32 a1] rfl (by (try simp only [List.map_toArray, List.map_cons, List.map_nil]); first | done | rfl | (simp only [List.length_drop, List.length_take]; rfl)) ?_; (with_reducible refine (tinderref01_Signed.calls a1 t127 _ A3.out).mono ?_); rintro e w' ⟨rfl, ⟨nd, rfl⟩⟩; refine ⟨_, rfl, ?_⟩) | ((with_reducible refine gate_callee (f := 33) rfl ?_); refine goesL_ (some 68) rfl rfl Try.func33 (by kernel_rfl) rfl #[.int .i64 (wrap64 (2 * t127))] rfl (by (try simp only [List.map_toArray, List.map_cons, List.map_nil]); first | done | rfl | (simp only [List.length_drop, List.length_take]; rfl)) ?_; (with_reducible refine (tinderref01_Cell.calls (wrap64 (2 * t127)) t137 _ A27.out).mono ?_); rintro e w' ⟨rfl, ⟨nd, rfl⟩⟩; refine ⟨_, rfl, ?_⟩))
                          go_ret2
                          exact ⟨by first | rfl | (simp [errW_none, errW_some] <;> rfl) | (simp [*, errW_none, errW_some] <;> rfl) | (simp [errW_none, errW_some] <;> omega) | (simp [*, errW_none, errW_some] <;> omega), by repeat (first | (with_reducible first | exact HB.out | apply below_alloc | apply pw_below_drewN | apply below_drew1) | exact HB.out)⟩
                        · rw [if_neg c26] at H
                          have c26b0 : (a0 == 89) = false := beq_eq_false_iff_ne.mpr c26
                          have c26b1 : (a0 != 89) = true := bne_iff_ne.mpr c26
                          by_cases c28 : a0 = 128
                          · rw [if_pos c28] at H
                            have c28b0 : (a0 == 128) = true := beq_iff_eq.mpr c28
                            have c28b1 : (a0 != 128) = false := bne_eq_false_iff_eq.mpr c28
                            clear c28
                            simp only [Option.some.injEq, Prod.mk.injEq] at H
                            obtain ⟨rfl, rfl⟩ := H
                            go_enter Try.func15, Try.ntmps15
                            go_wp2_with (first | ((with_reducible refine gate_callee (f := 17) rfl ?_); refine goesL_ (some 8) rfl rfl Try.func17 (by kernel_rfl) rfl #[.int .u32 a1] rfl (by (try simp only [List.map_toArray, List.map_cons, List.map_nil]); first | done | rfl | (simp only [List.length_drop, List.length_take]; rfl)) ?_; (with_reducible refine (tinderref01_Signed.calls a1 t127 _ A3.out).mono ?_); rintro e w' ⟨rfl, ⟨nd, rfl⟩⟩; refine ⟨_, rfl, ?_⟩))
                            go_ret2
                            exact ⟨by first | rfl | (simp [errW_none, errW_some] <;> rfl) | (simp [*, errW_none, errW_some] <;> rfl) | (simp [errW_none, errW_some] <;> omega) | (simp [*, errW_none, errW_some] <;> omega), by repeat (first | (with_reducible first | exact HB.out | apply below_alloc | apply pw_below_drewN | apply below_drew1) | exact HB.out)⟩
                          · rw [if_neg c28] at H
                            have c28b0 : (a0 == 128) = false := beq_eq_false_iff_ne.mpr c28
                            have c28b1 : (a0 != 128) = true := bne_iff_ne.mpr c28
                            by_cases c29 : a0 = 129
                            · rw [if_pos c29] at H
                              have c29b0 : (a0 == 129) = true := beq_iff_eq.mpr c29
                              have c29b1 : (a0 != 129) = false := bne_eq_false_iff_eq.mpr c29
                              clear c29
                              by_cases c30 : a1 ≥ 97
                              · rw [if_pos c30] at H
                                have c30b0 : decide (97 ≤ a1) = true := decide_eq_true c30
                                clear c30
                                by_cases c31 : a1 ≤ 122
                                · rw [if_pos c31] at H
                                  have c31b0 : decide (a1 ≤ 122) = true := decide_eq_true c31
                                  clear c31
                                  simp only [Option.some.injEq, Prod.mk.injEq] at H
                                  obtain ⟨rfl, rfl⟩ := H
                                  go_enter Try.func15, Try.ntmps15
                                  go_wp2_with (first | ((with_reducible refine gate_callee (f := 17) rfl ?_); refine goesL_ (some 8) rfl rfl Try.func17 (by kernel_rfl) rfl #[.int .u32 a1] rfl (by (try simp only [List.map_toArray, List.map_cons, List.map_nil]); first | done | rfl | (simp only [List.length_drop, List.length_take]; rfl)) ?_; (with_reducible refine (tinderref01_Signed.calls a1 t127 _ A3.out).mono ?_); rintro e w' ⟨rfl, ⟨nd, rfl⟩⟩; refine ⟨_, rfl, ?_⟩))
                                  go_ret2
                                  exact ⟨by first | rfl | (simp [errW_none, errW_some] <;> rfl) | (simp [*, errW_none, errW_some] <;> rfl) | (simp [errW_none, errW_some] <;> omega) | (simp [*, errW_none, errW_some] <;> omega), by repeat (first | (with_reducible first | exact HB.out | apply below_alloc | apply pw_below_drewN | apply below_drew1) | exact HB.out)⟩
                                · rw [if_neg c31] at H
                                  have c31b0 : decide (a1 ≤ 122) = false := decide_eq_false c31
                                  clear c31
                                  simp only [Option.some.injEq, Prod.mk.injEq] at H
                                  obtain ⟨rfl, rfl⟩ := H
                                  go_enter Try.func15, Try.ntmps15
                                  go_wp2_with (first | ((with_reducible refine gate_callee (f := 17) rfl ?_); refine goesL_ (some 8) rfl rfl Try.func17 (by kernel_rfl) rfl #[.int .u32 a1] rfl (by (try simp only [List.map_toArray, List.map_cons, List.map_nil]); first | done | rfl | (simp only [List.length_drop, List.length_take]; rfl)) ?_; (with_reducible refine (tinderref01_Signed.calls a1 t127 _ A3.out).mono ?_); rintro e w' ⟨rfl, ⟨nd, rfl⟩⟩; refine ⟨_, rfl, ?_⟩))
                                  go_ret2
                                  exact ⟨by first | rfl | (simp [errW_none, errW_some] <;> rfl) | (simp [*, errW_none, errW_some] <;> rfl) | (simp [errW_none, errW_some] <;> omega) | (simp [*, errW_none, errW_some] <;> omega), by repeat (first | (with_reducible first | exact HB.out | apply below_alloc | apply pw_below_drewN | apply below_drew1) | exact HB.out)⟩
                              · rw [if_neg c30] at H
                                have c30b0 : decide (97 ≤ a1) = false := decide_eq_false c30
                                clear c30
                                simp only [Option.some.injEq, Prod.mk.injEq] at H
                                obtain ⟨rfl, rfl⟩ := H
                                go_enter Try.func15, Try.ntmps15
                                go_wp2_with (first | ((with_reducible refine gate_callee (f := 17) rfl ?_); refine goesL_ (some 8) rfl rfl Try.func17 (by kernel_rfl) rfl #[.int .u32 a1] rfl (by (try simp only [List.map_toArray, List.map_cons, List.map_nil]); first | done | rfl | (simp only [List.length_drop, List.length_take]; rfl)) ?_; (with_reducible refine (tinderref01_Signed.calls a1 t127 _ A3.out).mono ?_); rintro e w' ⟨rfl, ⟨nd, rfl⟩⟩; refine ⟨_, rfl, ?_⟩))
                                go_ret2
                                exact ⟨by first | rfl | (simp [errW_none, errW_some] <;> rfl) | (simp [*, errW_none, errW_some] <;> rfl) | (simp [errW_none, errW_some] <;> omega) | (simp [*, errW_none, errW_some] <;> omega), by repeat (first | (with_reducible first | exact HB.out | apply below_alloc | apply pw_below_drewN | apply below_drew1) | exact HB.out)⟩
                            · rw [if_neg c29] at H
                              have c29b0 : (a0 == 129) = false := beq_eq_false_iff_ne.mpr c29
                              have c29b1 : (a0 != 129) = true := bne_iff_ne.mpr c29
                              by_cases c32 : a0 = 130
                              · rw [if_pos c32] at H
                                have c32b0 : (a0 == 130) = true := beq_iff_eq.mpr c32
                                have c32b1 : (a0 != 130) = false := bne_eq_false_iff_eq.mpr c32
                                clear c32
                                by_cases c33 : a1 ≥ 65
                                · rw [if_pos c33] at H
                                  have c33b0 : decide (65 ≤ a1) = true := decide_eq_true c33
                                  clear c33
                                  by_cases c34 : a1 ≤ 90
                                  · rw [if_pos c34] at H
                                    have c34b0 : decide (a1 ≤ 90) = true := decide_eq_true c34
                                    clear c34
                                    simp only [Option.some.injEq, Prod.mk.injEq] at H
                                    obtain ⟨rfl, rfl⟩ := H
                                    go_enter Try.func15, Try.ntmps15
                                    go_wp2_with (first | ((with_reducible refine gate_callee (f := 17) rfl ?_); refine goesL_ (some 8) rfl rfl Try.func17 (by kernel_rfl) rfl #[.int .u32 a1] rfl (by (try simp only [List.map_toArray, List.map_cons, List.map_nil]); first | done | rfl | (simp only [List.length_drop, List.length_take]; rfl)) ?_; (with_reducible refine (tinderref01_Signed.calls a1 t127 _ A3.out).mono ?_); rintro e w' ⟨rfl, ⟨nd, rfl⟩⟩; refine ⟨_, rfl, ?_⟩))
                                    go_ret2
                                    exact ⟨by first | rfl | (simp [errW_none, errW_some] <;> rfl) | (simp [*, errW_none, errW_some] <;> rfl) | (simp [errW_none, errW_some] <;> omega) | (simp [*, errW_none, errW_some] <;> omega), by repeat (first | (with_reducible first | exact HB.out | apply below_alloc | apply pw_below_drewN | apply below_drew1) | exact HB.out)⟩
                                  · rw [if_neg c34] at H
                                    have c34b0 : decide (a1 ≤ 90) = false := decide_eq_false c34
                                    clear c34
                                    simp only [Option.some.injEq, Prod.mk.injEq] at H
                                    obtain ⟨rfl, rfl⟩ := H
                                    go_enter Try.func15, Try.ntmps15
                                    go_wp2_with (first | ((with_reducible refine gate_callee (f := 17) rfl ?_); refine goesL_ (some 8) rfl rfl Try.func17 (by kernel_rfl) rfl #[.int .u32 a1] rfl (by (try simp only [List.map_toArray, List.map_cons, List.map_nil]); first | done | rfl | (simp only [List.length_drop, List.length_take]; rfl)) ?_; (with_reducible refine (tinderref01_Signed.calls a1 t127 _ A3.out).mono ?_); rintro e w' ⟨rfl, ⟨nd, rfl⟩⟩; refine ⟨_, rfl, ?_⟩))
                                    go_ret2
                                    exact ⟨by first | rfl | (simp [errW_none, errW_some] <;> rfl) | (simp [*, errW_none, errW_some] <;> rfl) | (simp [errW_none, errW_some] <;> omega) | (simp [*, errW_none, errW_some] <;> omega), by repeat (first | (with_reducible first | exact HB.out | apply below_alloc | apply pw_below_drewN | apply below_drew1) | exact HB.out)⟩
                                · rw [if_neg c33] at H
                                  have c33b0 : decide (65 ≤ a1) = false := decide_eq_false c33
                                  clear c33
                                  simp only [Option.some.injEq, Prod.mk.injEq] at H
                                  obtain ⟨rfl, rfl⟩ := H
                                  go_enter Try.func15, Try.ntmps15
                                  go_wp2_with (first | ((with_reducible refine gate_callee (f := 17) rfl ?_); refine goesL_ (some 8) rfl rfl Try.func17 (by kernel_rfl) rfl #[.int .u32 a1] rfl (by (try simp only [List.map_toArray, List.map_cons, List.map_nil]); first | done | rfl | (simp only [List.length_drop, List.length_take]; rfl)) ?_; (with_reducible refine (tinderref01_Signed.calls a1 t127 _ A3.out).mono ?_); rintro e w' ⟨rfl, ⟨nd, rfl⟩⟩; refine ⟨_, rfl, ?_⟩))
                                  go_ret2
                                  exact ⟨by first | rfl | (simp [errW_none, errW_some] <;> rfl) | (simp [*, errW_none, errW_some] <;> rfl) | (simp [errW_none, errW_some] <;> omega) | (simp [*, errW_none, errW_some] <;> omega), by repeat (first | (with_reducible first | exact HB.out | apply below_alloc | apply pw_below_drewN | apply below_drew1) | exact HB.out)⟩
                              · rw [if_neg c32] at H
                                have c32b0 : (a0 == 130) = false := beq_eq_false_iff_ne.mpr c32
                                have c32b1 : (a0 != 130) = true := bne_iff_ne.mpr c32
                                simp only [Option.some.injEq, Prod.mk.injEq] at H
                                obtain ⟨rfl, rfl⟩ := H
                                go_enter Try.func15, Try.ntmps15
                                go_wp2_with (first | ((with_reducible refine gate_callee (f := 17) rfl ?_); refine goesL_ (some 8) rfl rfl Try.func17 (by kernel_rfl) rfl #[.int .u32 a1] rfl (by (try simp only [List.map_toArray, List.map_cons, List.map_nil]); first | done | rfl | (simp only [List.length_drop, List.length_take]; rfl)) ?_; (with_reducible refine (tinderref01_Signed.calls a1 t127 _ A3.out).mono ?_); rintro e w' ⟨rfl, ⟨nd, rfl⟩⟩; refine ⟨_, rfl, ?_⟩))
                                go_ret2
                                exact ⟨by first | rfl | (simp [errW_none, errW_some] <;> rfl) | (simp [*, errW_none, errW_some] <;> rfl) | (simp [errW_none, errW_some] <;> omega) | (simp [*, errW_none, errW_some] <;> omega), by repeat (first | (with_reducible first | exact HB.out | apply below_alloc | apply pw_below_drewN | apply below_drew1) | exact HB.out)⟩

end Go.Proofs.Ytdjpodpibkcnaab.QCellUns
