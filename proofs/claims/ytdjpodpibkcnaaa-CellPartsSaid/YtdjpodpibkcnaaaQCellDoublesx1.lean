-- written by a program of this session (xprint.py) out of the translation
import Derived.Test.YtdjpodpibkcnaaaQCellDoublesx0
namespace Go.Proofs.Ytdjpodpibkcnaaa.QCellDoubles
open Go.RowKit Go.Proofs.YtdjpodpibkcnaaaW.PrintWords Go.Proofs.YtdjpodpibkcnaaaW.PrintLast Go.Proofs.YtdjpodpibkcnaaaW.PrintMore
attribute [local go_sem] max2_int min2_int max_two min_two max_three min_three max_four min_four   -- for this text's walks alone
set_option linter.unusedVariables false
set_option linter.unusedSimpArgs false

/-! ### cell_Divide: function 12 -/
def cell_Divide.j0 : Nat → Int → Int → Int → Bool → Option (Int × Int × Int)
  | 0, _, _, _, _ => none
  | k + 1, x0, x1, x2, x13 => if x13 = true then (some (0, 0, 2)) else (if x2 = 0 then (some (0, 0, 7)) else (if x0 = 43 then (some ((Int.tdiv x1 x2) % 4294967296, Int.tmod x1 x2, 0)) else (if (wrap64 (wrap32 (x2))) = 0 then (none) else (if (Int.tmod (wrap64 (wrap32 (x1))) (wrap64 (wrap32 (x2)))) = 0 then (some ((wrap64 (Int.tdiv (wrap64 (wrap32 (x1))) (wrap64 (wrap32 (x2))))) % 4294967296, (Int.tmod (wrap64 (wrap32 (x1))) (wrap64 (wrap32 (x2)))) % 4294967296, 0)) else (if (Go.bits .xor .i64 (Int.tmod (wrap64 (wrap32 (x1))) (wrap64 (wrap32 (x2)))) (wrap64 (wrap32 (x2)))) < 0 then (some ((wrap64 ((wrap64 (Int.tdiv (wrap64 (wrap32 (x1))) (wrap64 (wrap32 (x2))))) - 1)) % 4294967296, (wrap64 ((Int.tmod (wrap64 (wrap32 (x1))) (wrap64 (wrap32 (x2)))) + (wrap64 (wrap32 (x2))))) % 4294967296, 0)) else (some ((wrap64 (Int.tdiv (wrap64 (wrap32 (x1))) (wrap64 (wrap32 (x2))))) % 4294967296, (Int.tmod (wrap64 (wrap32 (x1))) (wrap64 (wrap32 (x2)))) % 4294967296, 0)))))))
def cell_Divide.f (k : Nat) (a0 : Int) (a1 : Int) (a2 : Int) : Option (Int × Int × Int) := if a0 = 42 then (cell_Divide.j0 k a0 a1 a2 false) else (cell_Divide.j0 k a0 a1 a2 (a0 != 43))
theorem cell_Divide.mono_l : ∀ k, (∀ y0 y1 y2 y3, LeO (cell_Divide.j0 k y0 y1 y2 y3) (cell_Divide.j0 (k + 1) y0 y1 y2 y3))
  | 0 => fun _ _ _ _ r h => by simp [cell_Divide.j0] at h
  | k + 1 => by
    have ih0 := cell_Divide.mono_l k
    · intro y0 y1 y2 y3
      unfold cell_Divide.j0
      repeat' first
      | (with_reducible exact ih0 _ _ _ _)
      | (with_reducible exact LeO.refl _)
      | (with_reducible exact LeO.none _)
      | (with_reducible refine LeO.ite ?_ ?_)
      | (with_reducible refine LeO.bind ?_ (fun _ => ?_))
      | exact ih0 _ _ _ _
      | exact LeO.none _
      | refine LeO.ite ?_ ?_
      | refine LeO.bind ?_ (fun _ => ?_)
theorem cell_Divide.mono : ∀ a0 a1 a2 k, LeO (cell_Divide.f k a0 a1 a2) (cell_Divide.f (k + 1) a0 a1 a2) := by
  intro a0 a1 a2 k
  have ih0 := cell_Divide.mono_l k
  unfold cell_Divide.f
  repeat' first
      | (with_reducible exact ih0 _ _ _ _)
      | (with_reducible exact LeO.refl _)
      | (with_reducible exact LeO.none _)
      | (with_reducible refine LeO.ite ?_ ?_)
      | (with_reducible refine LeO.bind ?_ (fun _ => ?_))
      | exact ih0 _ _ _ _
      | exact LeO.none _
      | refine LeO.ite ?_ ?_
      | refine LeO.bind ?_ (fun _ => ?_)
set_option maxHeartbeats 8000000 in
set_option maxRecDepth 100000 in
theorem cell_Divide.calls (k : Nat) (a0 : Int) (a1 : Int) (a2 : Int) (r1 : Int) (r2 : Int) (r3 : Int) (w : World) (h : cell_Divide.f k a0 a1 a2 = some (r1, r2, r3)) :
    Calls Try.prog 12 #[.int .i64 a0, .int .u32 a1, .int .u32 a2] w fun e w' => e = .returned (.tuple #[.int .u32 r1, .int .u32 r2, .int .i64 r3]) ∧ Drawn0 w w' := by
  have H : (if a0 = 42 then (cell_Divide.j0 k a0 a1 a2 false) else (cell_Divide.j0 k a0 a1 a2 (a0 != 43))) = some (r1, r2, r3) := h
  clear h
  have HC4 := Aside0.mk H
  clear H
  go_enter Try.func12, Try.ntmps12
  go_upto_region 1 with (fail)
  repeat (go_quiet (fail); go_upto_region 1 with (fail))
  go_cut [13] (fun v13 wc => ∃ (kq : Nat) (x13_3 : Bool), v13 = .bool x13_3 ∧ Aside0 (cell_Divide.j0 kq a0 a1 a2 x13_3 = some (r1, r2, r3)) ∧ Aside0 (kq ≤ k) ∧ Drawn0 w wc)
  case first =>
    have H := HC4.out
    clear HC4
    by_cases c5 : a0 = 42
    · rw [if_pos c5] at H
      have c5b0 : (a0 == 42) = true := beq_iff_eq.mpr c5
      have c5b1 : (a0 != 42) = false := bne_eq_false_iff_eq.mpr c5
      clear c5
      (first | rw [c5b0] | (simp only [i64_w, i32_w]; rw [c5b0]) | skip)
      have H' := Aside0.mk H
      clear H
      go_wp2
      repeat (go_quiet (fail); try go_wp2)
      go_meet
      case rel => exact ⟨_, (false), (by first | rfl | (simp; done) | (simp [*]; done) | (simp <;> omega) | (simp [*] <;> omega)), H', ⟨by first | omega | exact Nat.le_refl _⟩, by repeat (first | exact Drawn0.refl _ | apply Drawn0.step)⟩
    · rw [if_neg c5] at H
      have c5b0 : (a0 == 42) = false := beq_eq_false_iff_ne.mpr c5
      have c5b1 : (a0 != 42) = true := bne_iff_ne.mpr c5
      (first | rw [c5b0] | (simp only [i64_w, i32_w]; rw [c5b0]) | skip)
      have H' := Aside0.mk H
      clear H
      go_wp2
      repeat (go_quiet (fail); try go_wp2)
      go_meet
      case rel => exact ⟨_, ((a0 != 43)), (by first | rfl | (simp; done) | (simp [*]; done) | (simp <;> omega) | (simp [*] <;> omega)), H', ⟨by first | omega | exact Nat.le_refl _⟩, by repeat (first | exact Drawn0.refl _ | apply Drawn0.step)⟩
  case rest =>
    clear HC4
    try clear c1
    try clear p2
    try clear c5
    try clear c5b0
    try clear c5b1
    obtain ⟨kq, x13_3, rfl, HA, HJ3, ⟨mc3, rfl⟩⟩ := hcut
    cases kq with
    | zero => exact absurd HA.out (by simp [cell_Divide.j0])
    | succ kj3 =>
      have H := HA.out
      clear HA
      simp only [cell_Divide.j0] at H
      by_cases c6 : x13_3 = true
      · subst c6
        have H1 : (some (0, 0, 2)) = some (r1, r2, r3) := by rw [if_pos rfl] at H; exact H
        clear H
        have H := H1
        clear H1
        simp only [Option.some.injEq, Prod.mk.injEq] at H
        obtain ⟨rfl, rfl, rfl⟩ := H
        go_wp2
        repeat (go_quiet (fail); try go_wp2)
        go_ret3
        exact ⟨by first | rfl | (simp; done) | (simp [*]; done) | (simp <;> omega) | (simp [*] <;> omega), by repeat (first | exact Drawn0.refl _ | apply Drawn0.step)⟩
      · replace c6 := Bool.eq_false_iff.mpr c6
        subst c6
        have H1 : (if a2 = 0 then (some (0, 0, 7)) else (if a0 = 43 then (some ((Int.tdiv a1 a2) % 4294967296, Int.tmod a1 a2, 0)) else (if (wrap64 (wrap32 (a2))) = 0 then (none) else (if (Int.tmod (wrap64 (wrap32 (a1))) (wrap64 (wrap32 (a2)))) = 0 then (some ((wrap64 (Int.tdiv (wrap64 (wrap32 (a1))) (wrap64 (wrap32 (a2))))) % 4294967296, (Int.tmod (wrap64 (wrap32 (a1))) (wrap64 (wrap32 (a2)))) % 4294967296, 0)) else (if (Go.bits .xor .i64 (Int.tmod (wrap64 (wrap32 (a1))) (wrap64 (wrap32 (a2)))) (wrap64 (wrap32 (a2)))) < 0 then (some ((wrap64 ((wrap64 (Int.tdiv (wrap64 (wrap32 (a1))) (wrap64 (wrap32 (a2))))) - 1)) % 4294967296, (wrap64 ((Int.tmod (wrap64 (wrap32 (a1))) (wrap64 (wrap32 (a2)))) + (wrap64 (wrap32 (a2))))) % 4294967296, 0)) else (some ((wrap64 (Int.tdiv (wrap64 (wrap32 (a1))) (wrap64 (wrap32 (a2))))) % 4294967296, (Int.tmod (wrap64 (wrap32 (a1))) (wrap64 (wrap32 (a2)))) % 4294967296, 0))))))) = some (r1, r2, r3) := by rw [if_neg (show ¬ (false = true) by decide)] at H; exact H
        clear H
        have H := H1
        clear H1
        by_cases c7 : a2 = 0
        · rw [if_pos c7] at H
          have c7b0 : (a2 == 0) = true := beq_iff_eq.mpr c7
          have c7b1 : (a2 != 0) = false := bne_eq_false_iff_eq.mpr c7
          clear c7
          simp only [Option.some.injEq, Prod.mk.injEq] at H
          obtain ⟨rfl, rfl, rfl⟩ := H
          go_wp2
          repeat (go_quiet (fail); try go_wp2)
          go_ret3
          exact ⟨by first | rfl | (simp; done) | (simp [*]; done) | (simp <;> omega) | (simp [*] <;> omega), by repeat (first | exact Drawn0.refl _ | apply Drawn0.step)⟩
        · rw [if_neg c7] at H
          have c7b0 : (a2 == 0) = false := beq_eq_false_iff_ne.mpr c7
          have c7b1 : (a2 != 0) = true := bne_iff_ne.mpr c7
          by_cases c8 : a0 = 43
          · rw [if_pos c8] at H
            have c8b0 : (a0 == 43) = true := beq_iff_eq.mpr c8
            have c8b1 : (a0 != 43) = false := bne_eq_false_iff_eq.mpr c8
            clear c8
            simp only [Option.some.injEq, Prod.mk.injEq] at H
            obtain ⟨rfl, rfl, rfl⟩ := H
            go_wp2
            repeat (go_quiet (fail); try go_wp2)
            go_ret3
            exact ⟨by first | rfl | (simp; done) | (simp [*]; done) | (simp <;> omega) | (simp [*] <;> omega), by repeat (first | exact Drawn0.refl _ | apply Drawn0.step)⟩
          · rw [if_neg c8] at H
            have c8b0 : (a0 == 43) = false := beq_eq_false_iff_ne.mpr c8
            have c8b1 : (a0 != 43) = true := bne_iff_ne.mpr c8
            by_cases c9 : (wrap64 (wrap32 (a2))) = 0
            · rw [if_pos c9] at H
              exact absurd H (by simp)
            · rw [if_neg c9] at H
              have c9b0 : ((wrap64 (wrap32 (a2))) == 0) = false := beq_eq_false_iff_ne.mpr c9
              have c9b1 : ((wrap64 (wrap32 (a2))) != 0) = true := bne_iff_ne.mpr c9
              by_cases c10 : (Int.tmod (wrap64 (wrap32 (a1))) (wrap64 (wrap32 (a2)))) = 0
              · rw [if_pos c10] at H
                have c10b0 : ((Int.tmod (wrap64 (wrap32 (a1))) (wrap64 (wrap32 (a2)))) == 0) = true := beq_iff_eq.mpr c10
                have c10b1 : ((Int.tmod (wrap64 (wrap32 (a1))) (wrap64 (wrap32 (a2)))) != 0) = false := bne_eq_false_iff_eq.mpr c10
                clear c10
                simp only [Option.some.injEq, Prod.mk.injEq] at H
                obtain ⟨rfl, rfl, rfl⟩ := H
                go_wp2
                repeat (go_quiet (fail); try go_wp2)
                go_ret3
                exact ⟨by first | rfl | (simp; done) | (simp [*]; done) | (simp <;> omega) | (simp [*] <;> omega), by repeat (first | exact Drawn0.refl _ | apply Drawn0.step)⟩
              · rw [if_neg c10] at H
                have c10b0 : ((Int.tmod (wrap64 (wrap32 (a1))) (wrap64 (wrap32 (a2)))) == 0) = false := beq_eq_false_iff_ne.mpr c10
                have c10b1 : ((Int.tmod (wrap64 (wrap32 (a1))) (wrap64 (wrap32 (a2)))) != 0) = true := bne_iff_ne.mpr c10
                by_cases c11 : (Go.bits .xor .i64 (Int.tmod (wrap64 (wrap32 (a1))) (wrap64 (wrap32 (a2)))) (wrap64 (wrap32 (a2)))) < 0
                · rw [if_pos c11] at H
                  have c11b0 : decide ((Go.bits .xor .i64 (Int.tmod (wrap64 (wrap32 (a1))) (wrap64 (wrap32 (a2)))) (wrap64 (wrap32 (a2)))) < 0) = true := decide_eq_true c11
                  clear c11
                  simp only [Option.some.injEq, Prod.mk.injEq] at H
                  obtain ⟨rfl, rfl, rfl⟩ := H
                  go_wp2
                  repeat (go_quiet (fail); try go_wp2)
                  go_ret3
                  exact ⟨by first | rfl | (simp; done) | (simp [*]; done) | (simp <;> omega) | (simp [*] <;> omega), by repeat (first | exact Drawn0.refl _ | apply Drawn0.step)⟩
                · rw [if_neg c11] at H
                  have c11b0 : decide ((Go.bits .xor .i64 (Int.tmod (wrap64 (wrap32 (a1))) (wrap64 (wrap32 (a2)))) (wrap64 (wrap32 (a2)))) < 0) = false := decide_eq_false c11
                  clear c11
                  simp only [Option.some.injEq, Prod.mk.injEq] at H
                  obtain ⟨rfl, rfl, rfl⟩ := H
                  go_wp2
                  repeat (go_quiet (fail); try go_wp2)
                  go_ret3
                  exact ⟨by first | rfl | (simp; done) | (simp [*]; done) | (simp <;> omega) | (simp [*] <;> omega), by repeat (first | exact Drawn0.refl _ | apply Drawn0.step)⟩

/-! ### cell_flag: function 32 -/
def cell_flag.f (a0 : Bool) : Option (Int) := if a0 = true then (some 4294967295) else (some 0)
set_option maxHeartbeats 8000000 in
set_option maxRecDepth 100000 in
theorem cell_flag.calls (a0 : Bool) (r : Int) (w : World) (h : cell_flag.f a0 = some r) :
    Calls Try.prog 32 #[.bool a0] w fun e w' => e = .returned (.int .u32 r) ∧ Drawn0 w w' := by
  have H : (if a0 = true then (some 4294967295) else (some 0)) = some r := h
  clear h
  by_cases c2 : a0 = true
  · subst c2
    have H1 : (some 4294967295) = some r := by rw [if_pos rfl] at H; exact H
    clear H
    have H := H1
    clear H1
    obtain rfl := Option.some.inj H
    go_enter Try.func32, Try.ntmps32
    go_wp2
    go_ret
    exact ⟨by first | rfl | (simp; done) | (simp [*]; done) | (simp <;> omega) | (simp [*] <;> omega), by repeat (first | exact Drawn0.refl _ | apply Drawn0.step)⟩
  · replace c2 := Bool.eq_false_iff.mpr c2
    subst c2
    have H1 : (some 0) = some r := by rw [if_neg (show ¬ (false = true) by decide)] at H; exact H
    clear H
    have H := H1
    clear H1
    obtain rfl := Option.some.inj H
    go_enter Try.func32, Try.ntmps32
    go_wp2
    go_ret
    exact ⟨by first | rfl | (simp; done) | (simp [*]; done) | (simp <;> omega) | (simp [*] <;> omega), by repeat (first | exact Drawn0.refl _ | apply Drawn0.step)⟩

/-! ### cell_compare: function 22 -/
def cell_compare.f (a0 : Int) (a1 : Int) (a2 : Int) : Option (Int × Bool) := if a0 = 58 then ((cell_flag.f (decide ((wrap32 (a1)) < (wrap32 (a2))))).bind fun t101 => (some (t101, true))) else (if a0 = 59 then ((cell_flag.f (decide ((wrap32 (a1)) > (wrap32 (a2))))).bind fun t102 => (some (t102, true))) else (if a0 = 60 then ((cell_flag.f (a1 == a2)).bind fun t103 => (some (t103, true))) else (if a0 = 61 then ((cell_flag.f (a1 != a2)).bind fun t104 => (some (t104, true))) else (if a0 = 62 then ((cell_flag.f (decide (a1 > a2))).bind fun t105 => (some (t105, true))) else (if a0 = 63 then ((cell_flag.f (decide (a1 ≤ a2))).bind fun t106 => (some (t106, true))) else (if a0 = 64 then ((cell_flag.f (decide (a1 < a2))).bind fun t107 => (some (t107, true))) else (if a0 = 65 then ((cell_flag.f (decide (a1 ≥ a2))).bind fun t108 => (some (t108, true))) else (if a0 = 66 then ((cell_flag.f (decide ((wrap32 (a1)) ≥ (wrap32 (a2))))).bind fun t109 => (some (t109, true))) else (if a0 = 67 then ((cell_flag.f (decide ((wrap32 (a1)) ≤ (wrap32 (a2))))).bind fun t110 => (some (t110, true))) else (some (0, false)))))))))))
set_option maxHeartbeats 8000000 in
set_option maxRecDepth 100000 in
theorem cell_compare.calls (a0 : Int) (a1 : Int) (a2 : Int) (r1 : Int) (r2 : Bool) (w : World) (h : cell_compare.f a0 a1 a2 = some (r1, r2)) :
    Calls Try.prog 22 #[.int .i64 a0, .int .u32 a1, .int .u32 a2] w fun e w' => e = .returned (.tuple #[.int .u32 r1, .bool r2]) ∧ Drawn0 w w' := by
  have H : (if a0 = 58 then ((cell_flag.f (decide ((wrap32 (a1)) < (wrap32 (a2))))).bind fun t101 => (some (t101, true))) else (if a0 = 59 then ((cell_flag.f (decide ((wrap32 (a1)) > (wrap32 (a2))))).bind fun t102 => (some (t102, true))) else (if a0 = 60 then ((cell_flag.f (a1 == a2)).bind fun t103 => (some (t103, true))) else (if a0 = 61 then ((cell_flag.f (a1 != a2)).bind fun t104 => (some (t104, true))) else (if a0 = 62 then ((cell_flag.f (decide (a1 > a2))).bind fun t105 => (some (t105, true))) else (if a0 = 63 then ((cell_flag.f (decide (a1 ≤ a2))).bind fun t106 => (some (t106, true))) else (if a0 = 64 then ((cell_flag.f (decide (a1 < a2))).bind fun t107 => (some (t107, true))) else (if a0 = 65 then ((cell_flag.f (decide (a1 ≥ a2))).bind fun t108 => (some (t108, true))) else (if a0 = 66 then ((cell_flag.f (decide ((wrap32 (a1)) ≥ (wrap32 (a2))))).bind fun t109 => (some (t109, true))) else (if a0 = 67 then ((cell_flag.f (decide ((wrap32 (a1)) ≤ (wrap32 (a2))))).bind fun t110 => (some (t110, true))) else (some (0, false)))))))))))) = some (r1, r2) := h
  clear h
  by_cases c4 : a0 = 58
  · rw [if_pos c4] at H
    have c4b0 : (a0 == 58) = true := beq_iff_eq.mpr c4
    have c4b1 : (a0 != 58) = false := bne_eq_false_iff_eq.mpr c4
    clear c4
    replace H := Option.bind_eq_some_iff.mp H
    obtain ⟨t101, A50, H⟩ := H
    replace H : (some (t101, true)) = some (r1, r2) := H
    have A5 := Aside0.mk A50
    clear A50
    simp only [Option.some.injEq, Prod.mk.injEq] at H
    obtain ⟨rfl, rfl⟩ := H
    go_enter Try.func22, Try.ntmps22
    go_wp2_with (first | ((with_reducible refine gate_callee (f := 32) rfl ?_); refine goesL_ (some 20) rfl rfl Try.func32 (by kernel_rfl) rfl #[.bool (decide ((wrap32 (a1)) < (wrap32 (a2))))] rfl (by (try simp only [List.map_toArray, List.map_cons, List.map_nil]); first | done | rfl | (simp only [List.length_drop, List.length_take]; rfl)) ?_; (with_reducible refine (cell_flag.calls (decide ((wrap32 (a1)) < (wrap32 (a2)))) t101 _ A5.out).mono ?_); rintro e w' ⟨rfl, ⟨nd, rfl⟩⟩; refine ⟨_, rfl, ?_⟩))
    go_ret2
    exact ⟨by first | rfl | (simp; done) | (simp [*]; done) | (simp <;> omega) | (simp [*] <;> omega), by repeat (first | exact Drawn0.refl _ | apply Drawn0.step)⟩
  · rw [if_neg c4] at H
    have c4b0 : (a0 == 58) = false := beq_eq_false_iff_ne.mpr c4
    have c4b1 : (a0 != 58) = true := bne_iff_ne.mpr c4
    by_cases c6 : a0 = 59
    · rw [if_pos c6] at H
      have c6b0 : (a0 == 59) = true := beq_iff_eq.mpr c6
      have c6b1 : (a0 != 59) = false := bne_eq_false_iff_eq.mpr c6
      clear c6
      replace H := Option.bind_eq_some_iff.mp H
      obtain ⟨t102, A70, H⟩ := H
      replace H : (some (t102, true)) = some (r1, r2) := H
      have A7 := Aside0.mk A70
      clear A70
      simp only [Option.some.injEq, Prod.mk.injEq] at H
      obtain ⟨rfl, rfl⟩ := H
      go_enter Try.func22, Try.ntmps22
      go_wp2_with (first | ((with_reducible refine gate_callee (f := 32) rfl ?_); refine goesL_ (some 26) rfl rfl Try.func32 (by kernel_rfl) rfl #[.bool (decide ((wrap32 (a1)) > (wrap32 (a2))))] rfl (by (try simp only [List.map_toArray, List.map_cons, List.map_nil]); first | done | rfl | (simp only [List.length_drop, List.length_take]; rfl)) ?_; (with_reducible refine (cell_flag.calls (decide ((wrap32 (a1)) > (wrap32 (a2)))) t102 _ A7.out).mono ?_); rintro e w' ⟨rfl, ⟨nd, rfl⟩⟩; refine ⟨_, rfl, ?_⟩))
      go_ret2
      exact ⟨by first | rfl | (simp; done) | (simp [*]; done) | (simp <;> omega) | (simp [*] <;> omega), by repeat (first | exact Drawn0.refl _ | apply Drawn0.step)⟩
    · rw [if_neg c6] at H
      have c6b0 : (a0 == 59) = false := beq_eq_false_iff_ne.mpr c6
      have c6b1 : (a0 != 59) = true := bne_iff_ne.mpr c6
      by_cases c8 : a0 = 60
      · rw [if_pos c8] at H
        have c8b0 : (a0 == 60) = true := beq_iff_eq.mpr c8
        have c8b1 : (a0 != 60) = false := bne_eq_false_iff_eq.mpr c8
        clear c8
        replace H := Option.bind_eq_some_iff.mp H
        obtain ⟨t103, A90, H⟩ := H
        replace H : (some (t103, true)) = some (r1, r2) := H
        have A9 := Aside0.mk A90
        clear A90
        simp only [Option.some.injEq, Prod.mk.injEq] at H
        obtain ⟨rfl, rfl⟩ := H
        go_enter Try.func22, Try.ntmps22
        go_wp2_with (first | ((with_reducible refine gate_callee (f := 32) rfl ?_); refine goesL_ (some 32) rfl rfl Try.func32 (by kernel_rfl) rfl #[.bool (a1 == a2)] rfl (by (try simp only [List.map_toArray, List.map_cons, List.map_nil]); first | done | rfl | (simp only [List.length_drop, List.length_take]; rfl)) ?_; (with_reducible refine (cell_flag.calls (a1 == a2) t103 _ A9.out).mono ?_); rintro e w' ⟨rfl, ⟨nd, rfl⟩⟩; refine ⟨_, rfl, ?_⟩))
        go_ret2
        exact ⟨by first | rfl | (simp; done) | (simp [*]; done) | (simp <;> omega) | (simp [*] <;> omega), by repeat (first | exact Drawn0.refl _ | apply Drawn0.step)⟩
      · rw [if_neg c8] at H
        have c8b0 : (a0 == 60) = false := beq_eq_false_iff_ne.mpr c8
        have c8b1 : (a0 != 60) = true := bne_iff_ne.mpr c8
        by_cases c10 : a0 = 61
        · rw [if_pos c10] at H
          have c10b0 : (a0 == 61) = true := beq_iff_eq.mpr c10
          have c10b1 : (a0 != 61) = false := bne_eq_false_iff_eq.mpr c10
          clear c10
          replace H := Option.bind_eq_some_iff.mp H
          obtain ⟨t104, A110, H⟩ := H
          replace H : (some (t104, true)) = some (r1, r2) := H
          have A11 := Aside0.mk A110
          clear A110
          simp only [Option.some.injEq, Prod.mk.injEq] at H
          obtain ⟨rfl, rfl⟩ := H
          go_enter Try.func22, Try.ntmps22
          go_wp2_with (first | ((with_reducible refine gate_callee (f := 32) rfl ?_); refine goesL_ (some 38) rfl rfl Try.func32 (by kernel_rfl) rfl #[.bool (a1 != a2)] rfl (by (try simp only [List.map_toArray, List.map_cons, List.map_nil]); first | done | rfl | (simp only [List.length_drop, List.length_take]; rfl)) ?_; (with_reducible refine (cell_flag.calls (a1 != a2) t104 _ A11.out).mono ?_); rintro e w' ⟨rfl, ⟨nd, rfl⟩⟩; refine ⟨_, rfl, ?_⟩))
          go_ret2
          exact ⟨by first | rfl | (simp; done) | (simp [*]; done) | (simp <;> omega) | (simp [*] <;> omega), by repeat (first | exact Drawn0.refl _ | apply Drawn0.step)⟩
        · rw [if_neg c10] at H
          have c10b0 : (a0 == 61) = false := beq_eq_false_iff_ne.mpr c10
          have c10b1 : (a0 != 61) = true := bne_iff_ne.mpr c10
          by_cases c12 : a0 = 62
          · rw [if_pos c12] at H
            have c12b0 : (a0 == 62) = true := beq_iff_eq.mpr c12
            have c12b1 : (a0 != 62) = false := bne_eq_false_iff_eq.mpr c12
            clear c12
            replace H := Option.bind_eq_some_iff.mp H
            obtain ⟨t105, A130, H⟩ := H
            replace H : (some (t105, true)) = some (r1, r2) := H
            have A13 := Aside0.mk A130
            clear A130
            simp only [Option.some.injEq, Prod.mk.injEq] at H
            obtain ⟨rfl, rfl⟩ := H
            go_enter Try.func22, Try.ntmps22
            go_wp2_with (first | ((with_reducible refine gate_callee (f := 32) rfl ?_); refine goesL_ (some 44) rfl rfl Try.func32 (by kernel_rfl) rfl #[.bool (decide (a1 > a2))] rfl (by (try simp only [List.map_toArray, List.map_cons, List.map_nil]); first | done | rfl | (simp only [List.length_drop, List.length_take]; rfl)) ?_; (with_reducible refine (cell_flag.calls (decide (a1 > a2)) t105 _ A13.out).mono ?_); rintro e w' ⟨rfl, ⟨nd, rfl⟩⟩; refine ⟨_, rfl, ?_⟩))
            go_ret2
            exact ⟨by first | rfl | (simp; done) | (simp [*]; done) | (simp <;> omega) | (simp [*] <;> omega), by repeat (first | exact Drawn0.refl _ | apply Drawn0.step)⟩
          · rw [if_neg c12] at H
            have c12b0 : (a0 == 62) = false := beq_eq_false_iff_ne.mpr c12
            have c12b1 : (a0 != 62) = true := bne_iff_ne.mpr c12
            by_cases c14 : a0 = 63
            · rw [if_pos c14] at H
              have c14b0 : (a0 == 63) = true := beq_iff_eq.mpr c14
              have c14b1 : (a0 != 63) = false := bne_eq_false_iff_eq.mpr c14
              clear c14
              replace H := Option.bind_eq_some_iff.mp H
              obtain ⟨t106, A150, H⟩ := H
              replace H : (some (t106, true)) = some (r1, r2) := H
              have A15 := Aside0.mk A150
              clear A150
              simp only [Option.some.injEq, Prod.mk.injEq] at H
              obtain ⟨rfl, rfl⟩ := H
              go_enter Try.func22, Try.ntmps22
              go_wp2_with (first | ((with_reducible refine gate_callee (f := 32) rfl ?_); refine goesL_ (some 50) rfl rfl Try.func32 (by kernel_rfl) rfl #[.bool (decide (a1 ≤ a2))] rfl (by (try simp only [List.map_toArray, List.map_cons, List.map_nil]); first | done | rfl | (simp only [List.length_drop, List.length_take]; rfl)) ?_; (with_reducible refine (cell_flag.calls (decide (a1 ≤ a2)) t106 _ A15.out).mono ?_); rintro e w' ⟨rfl, ⟨nd, rfl⟩⟩; refine ⟨_, rfl, ?_⟩))
              go_ret2
              exact ⟨by first | rfl | (simp; done) | (simp [*]; done) | (simp <;> omega) | (simp [*] <;> omega), by repeat (first | exact Drawn0.refl _ | apply Drawn0.step)⟩
            · rw [if_neg c14] at H
              have c14b0 : (a0 == 63) = false := beq_eq_false_iff_ne.mpr c14
              have c14b1 : (a0 != 63) = true := bne_iff_ne.mpr c14
              by_cases c16 : a0 = 64
              · rw [if_pos c16] at H
                have c16b0 : (a0 == 64) = true := beq_iff_eq.mpr c16
                have c16b1 : (a0 != 64) = false := bne_eq_false_iff_eq.mpr c16
                clear c16
                replace H := Option.bind_eq_some_iff.mp H
                obtain ⟨t107, A170, H⟩ := H
                replace H : (some (t107, true)) = some (r1, r2) := H
                have A17 := Aside0.mk A170
                clear A170
                simp only [Option.some.injEq, Prod.mk.injEq] at H
                obtain ⟨rfl, rfl⟩ := H
                go_enter Try.func22, Try.ntmps22
                go_wp2_with (first | ((with_reducible refine gate_callee (f := 32) rfl ?_); refine goesL_ (some 56) rfl rfl Try.func32 (by kernel_rfl) rfl #[.bool (decide (a1 < a2))] rfl (by (try simp only [List.map_toArray, List.map_cons, List.map_nil]); first | done | rfl | (simp only [List.length_drop, List.length_take]; rfl)) ?_; (with_reducible refine (cell_flag.calls (decide (a1 < a2)) t107 _ A17.out).mono ?_); rintro e w' ⟨rfl, ⟨nd, rfl⟩⟩; refine ⟨_, rfl, ?_⟩))
                go_ret2
                exact ⟨by first | rfl | (simp; done) | (simp [*]; done) | (simp <;> omega) | (simp [*] <;> omega), by repeat (first | exact Drawn0.refl _ | apply Drawn0.step)⟩
              · rw [if_neg c16] at H
                have c16b0 : (a0 == 64) = false := beq_eq_false_iff_ne.mpr c16
                have c16b1 : (a0 != 64) = true := bne_iff_ne.mpr c16
                by_cases c18 : a0 = 65
                · rw [if_pos c18] at H
                  have c18b0 : (a0 == 65) = true := beq_iff_eq.mpr c18
                  have c18b1 : (a0 != 65) = false := bne_eq_false_iff_eq.mpr c18
                  clear c18
                  replace H := Option.bind_eq_some_iff.mp H
                  obtain ⟨t108, A190, H⟩ := H
                  replace H : (some (t108, true)) = some (r1, r2) := H
                  have A19 := Aside0.mk A190
                  clear A190
                  simp only [Option.some.injEq, Prod.mk.injEq] at H
                  obtain ⟨rfl, rfl⟩ := H
                  go_enter Try.func22, Try.ntmps22
                  go_wp2_with (first | ((with_reducible refine gate_callee (f := 32) rfl ?_); refine goesL_ (some 62) rfl rfl Try.func32 (by kernel_rfl) rfl #[.bool (decide (a1 ≥ a2))] rfl (by (try simp only [List.map_toArray, List.map_cons, List.map_nil]); first | done | rfl | (simp only [List.length_drop, List.length_take]; rfl)) ?_; (with_reducible refine (cell_flag.calls (decide (a1 ≥ a2)) t108 _ A19.out).mono ?_); rintro e w' ⟨rfl, ⟨nd, rfl⟩⟩; refine ⟨_, rfl, ?_⟩))
                  go_ret2
                  exact ⟨by first | rfl | (simp; done) | (simp [*]; done) | (simp <;> omega) | (simp [*] <;> omega), by repeat (first | exact Drawn0.refl _ | apply Drawn0.step)⟩
                · rw [if_neg c18] at H
                  have c18b0 : (a0 == 65) = false := beq_eq_false_iff_ne.mpr c18
                  have c18b1 : (a0 != 65) = true := bne_iff_ne.mpr c18
                  by_cases c20 : a0 = 66
                  · rw [if_pos c20] at H
                    have c20b0 : (a0 == 66) = true := beq_iff_eq.mpr c20
                    have c20b1 : (a0 != 66) = false := bne_eq_false_iff_eq.mpr c20
                    clear c20
                    replace H := Option.bind_eq_some_iff.mp H
                    obtain ⟨t109, A210, H⟩ := H
                    replace H : (some (t109, true)) = some (r1, r2) := H
                    have A21 := Aside0.mk A210
                    clear A210
                    simp only [Option.some.injEq, Prod.mk.injEq] at H
                    obtain ⟨rfl, rfl⟩ := H
                    go_enter Try.func22, Try.ntmps22
                    go_wp2_with (first | ((with_reducible refine gate_callee (f := 32) rfl ?_); refine goesL_ (some 68) rfl rfl Try.func32 (by kernel_rfl) rfl #[.bool (decide ((wrap32 (a1)) ≥ (wrap32 (a2))))] rfl (by (try simp only [List.map_toArray, List.map_cons, List.map_nil]); first | done | rfl | (simp only [List.length_drop, List.length_take]; rfl)) ?_; (with_reducible refine (cell_flag.calls (decide ((wrap32 (a1)) ≥ (wrap32 (a2)))) t109 _ A21.out).mono ?_); rintro e w' ⟨rfl, ⟨nd, rfl⟩⟩; refine ⟨_, rfl, ?_⟩))
                    go_ret2
                    exact ⟨by first | rfl | (simp; done) | (simp [*]; done) | (simp <;> omega) | (simp [*] <;> omega), by repeat (first | exact Drawn0.refl _ | apply Drawn0.step)⟩
                  · rw [if_neg c20] at H
                    have c20b0 : (a0 == 66) = false := beq_eq_false_iff_ne.mpr c20
                    have c20b1 : (a0 != 66) = true := bne_iff_ne.mpr c20
                    by_cases c22 : a0 = 67
                    · rw [if_pos c22] at H
                      have c22b0 : (a0 == 67) = true := beq_iff_eq.mpr c22
                      have c22b1 : (a0 != 67) = false := bne_eq_false_iff_eq.mpr c22
                      clear c22
                      replace H := Option.bind_eq_some_iff.mp H
                      obtain ⟨t110, A230, H⟩ := H
                      replace H : (some (t110, true)) = some (r1, r2) := H
                      have A23 := Aside0.mk A230
                      clear A230
                      simp only [Option.some.injEq, Prod.mk.injEq] at H
                      obtain ⟨rfl, rfl⟩ := H
                      go_enter Try.func22, Try.ntmps22
                      go_wp2_with (first | ((with_reducible refine gate_callee (f := 32) rfl ?_); refine goesL_ (some 74) rfl rfl Try.func32 (by kernel_rfl) rfl #[.bool (decide ((wrap32 (a1)) ≤ (wrap32 (a2))))] rfl (by (try simp only [List.map_toArray, List.map_cons, List.map_nil]); first | done | rfl | (simp only [List.length_drop, List.length_take]; rfl)) ?_; (with_reducible refine (cell_flag.calls (decide ((wrap32 (a1)) ≤ (wrap32 (a2)))) t110 _ A23.out).mono ?_); rintro e w' ⟨rfl, ⟨nd, rfl⟩⟩; refine ⟨_, rfl, ?_⟩))
                      go_ret2
                      exact ⟨by first | rfl | (simp; done) | (simp [*]; done) | (simp <;> omega) | (simp [*] <;> omega), by repeat (first | exact Drawn0.refl _ | apply Drawn0.step)⟩
                    · rw [if_neg c22] at H
                      have c22b0 : (a0 == 67) = false := beq_eq_false_iff_ne.mpr c22
                      have c22b1 : (a0 != 67) = true := bne_iff_ne.mpr c22
                      simp only [Option.some.injEq, Prod.mk.injEq] at H
                      obtain ⟨rfl, rfl⟩ := H
                      go_enter Try.func22, Try.ntmps22
                      go_wp2
                      go_ret2
                      exact ⟨by first | rfl | (simp; done) | (simp [*]; done) | (simp <;> omega) | (simp [*] <;> omega), by repeat (first | exact Drawn0.refl _ | apply Drawn0.step)⟩

/-! ### cell_Bin: function 10 -/
def cell_Bin.j0 : Nat → Int → Int → Int → Int → Bool → Option (Int × Int)
  | 0, _, _, _, _, _ => none
  | k + 1, x0, x1, x2, x13, x29 => if x29 = true then ((cell_Divide.f k 42 x1 x2).bind fun bt111 => (if x0 = 34 then (some (bt111.2.1, bt111.2.2)) else (some (bt111.1, bt111.2.2)))) else (if x13 = 35 then (some (Go.bits .and .u32 x1 x2, 0)) else (if x13 = 36 then (some (Go.bits .or .u32 x1 x2, 0)) else (if x13 = 37 then (some (Go.bits .xor .u32 x1 x2, 0)) else (if x13 = 39 then (if 0 ≤ x2 then (some (shl .u32 x1 x2, 0)) else (none)) else (if x13 = 40 then (if 0 ≤ x2 then (some (shr .u32 x1 x2, 0)) else (none)) else (if x13 = 41 then (if 0 ≤ x2 then (some ((shr .i32 (wrap32 (x1)) x2) % 4294967296, 0)) else (none)) else (if x13 = 46 then (some ((mn (wrap32 (x1)) (wrap32 (x2))) % 4294967296, 0)) else (if x13 = 47 then (some ((mx (wrap32 (x1)) (wrap32 (x2))) % 4294967296, 0)) else ((cell_compare.f x0 x1 x2).bind fun bt114 => (if bt114.2 = true then (some (bt114.1, 0)) else (some (0, 2))))))))))))
def cell_Bin.f (k : Nat) (a0 : Int) (a1 : Int) (a2 : Int) : Option (Int × Int) := if a0 = 30 then (some ((a1 + a2) % 4294967296, 0)) else (if a0 = 31 then (some ((a1 - a2) % 4294967296, 0)) else (if a0 = 32 then (some ((a1 * a2) % 4294967296, 0)) else (if a0 = 33 then (cell_Bin.j0 k a0 a1 a2 a0 (a0 == 33)) else (cell_Bin.j0 k a0 a1 a2 a0 (a0 == 34)))))
theorem cell_Bin.mono_l : ∀ k, (∀ y0 y1 y2 y3 y4, LeO (cell_Bin.j0 k y0 y1 y2 y3 y4) (cell_Bin.j0 (k + 1) y0 y1 y2 y3 y4))
  | 0 => fun _ _ _ _ _ r h => by simp [cell_Bin.j0] at h
  | k + 1 => by
    have ih0 := cell_Bin.mono_l k
    · intro y0 y1 y2 y3 y4
      unfold cell_Bin.j0
      repeat' first
      | (with_reducible exact ih0 _ _ _ _ _)
      | (with_reducible exact cell_Divide.mono _ _ _ _)
      | (with_reducible exact LeO.refl _)
      | (with_reducible exact LeO.none _)
      | (with_reducible refine LeO.ite ?_ ?_)
      | (with_reducible refine LeO.bind ?_ (fun _ => ?_))
      | exact ih0 _ _ _ _ _
      | exact cell_Divide.mono _ _ _ _
      | exact LeO.none _
      | refine LeO.ite ?_ ?_
      | refine LeO.bind ?_ (fun _ => ?_)
theorem cell_Bin.mono : ∀ a0 a1 a2 k, LeO (cell_Bin.f k a0 a1 a2) (cell_Bin.f (k + 1) a0 a1 a2) := by
  intro a0 a1 a2 k
  have ih0 := cell_Bin.mono_l k
  unfold cell_Bin.f
  repeat' first
      | (with_reducible exact ih0 _ _ _ _ _)
      | (with_reducible exact cell_Divide.mono _ _ _ _)
      | (with_reducible exact LeO.refl _)
      | (with_reducible exact LeO.none _)
      | (with_reducible refine LeO.ite ?_ ?_)
      | (with_reducible refine LeO.bind ?_ (fun _ => ?_))
      | exact ih0 _ _ _ _ _
      | exact cell_Divide.mono _ _ _ _
      | exact LeO.none _
      | refine LeO.ite ?_ ?_
      | refine LeO.bind ?_ (fun _ => ?_)
set_option maxHeartbeats 8000000 in
set_option maxRecDepth 100000 in
theorem cell_Bin.calls (k : Nat) (a0 : Int) (a1 : Int) (a2 : Int) (r1 : Int) (r2 : Int) (w : World) (h : cell_Bin.f k a0 a1 a2 = some (r1, r2)) :
    Calls Try.prog 10 #[.int .i64 a0, .int .u32 a1, .int .u32 a2] w fun e w' => e = .returned (.tuple #[.int .u32 r1, .int .i64 r2]) ∧ Below w.heap.size w w' := by
  have HB := Aside0.mk (Below.refl w.heap.size w)
  have H : (if a0 = 30 then (some ((a1 + a2) % 4294967296, 0)) else (if a0 = 31 then (some ((a1 - a2) % 4294967296, 0)) else (if a0 = 32 then (some ((a1 * a2) % 4294967296, 0)) else (if a0 = 33 then (cell_Bin.j0 k a0 a1 a2 a0 (a0 == 33)) else (cell_Bin.j0 k a0 a1 a2 a0 (a0 == 34)))))) = some (r1, r2) := h
  clear h
  by_cases c4 : a0 = 30
  · rw [if_pos c4] at H
    have c4b0 : (a0 == 30) = true := beq_iff_eq.mpr c4
    have c4b1 : (a0 != 30) = false := bne_eq_false_iff_eq.mpr c4
    clear c4
    simp only [Option.some.injEq, Prod.mk.injEq] at H
    obtain ⟨rfl, rfl⟩ := H
    go_enter Try.func10, Try.ntmps10
    go_wp2
    go_ret2
    exact ⟨by first | rfl | (simp [errW_none, errW_some] <;> rfl) | (simp [*, errW_none, errW_some] <;> rfl) | (simp [errW_none, errW_some] <;> omega) | (simp [*, errW_none, errW_some] <;> omega), by repeat (first | (with_reducible first | exact HB.out | apply below_alloc | apply pw_below_drewN | apply below_drew1) | exact HB.out)⟩
  · rw [if_neg c4] at H
    have c4b0 : (a0 == 30) = false := beq_eq_false_iff_ne.mpr c4
    have c4b1 : (a0 != 30) = true := bne_iff_ne.mpr c4
    by_cases c5 : a0 = 31
    · rw [if_pos c5] at H
      have c5b0 : (a0 == 31) = true := beq_iff_eq.mpr c5
      have c5b1 : (a0 != 31) = false := bne_eq_false_iff_eq.mpr c5
      clear c5
      simp only [Option.some.injEq, Prod.mk.injEq] at H
      obtain ⟨rfl, rfl⟩ := H
      go_enter Try.func10, Try.ntmps10
      go_wp2
      go_ret2
      exact ⟨by first | rfl | (simp [errW_none, errW_some] <;> rfl) | (simp [*, errW_none, errW_some] <;> rfl) | (simp [errW_none, errW_some] <;> omega) | (simp [*, errW_none, errW_some] <;> omega), by repeat (first | (with_reducible first | exact HB.out | apply below_alloc | apply pw_below_drewN | apply below_drew1) | exact HB.out)⟩
    · rw [if_neg c5] at H
      have c5b0 : (a0 == 31) = false := beq_eq_false_iff_ne.mpr c5
      have c5b1 : (a0 != 31) = true := bne_iff_ne.mpr c5
      by_cases c6 : a0 = 32
      · rw [if_pos c6] at H
        have c6b0 : (a0 == 32) = true := beq_iff_eq.mpr c6
        have c6b1 : (a0 != 32) = false := bne_eq_false_iff_eq.mpr c6
        clear c6
        simp only [Option.some.injEq, Prod.mk.injEq] at H
        obtain ⟨rfl, rfl⟩ := H
        go_enter Try.func10, Try.ntmps10
        go_wp2
        go_ret2
        exact ⟨by first | rfl | (simp [errW_none, errW_some] <;> rfl) | (simp [*, errW_none, errW_some] <;> rfl) | (simp [errW_none, errW_some] <;> omega) | (simp [*, errW_none, errW_some] <;> omega), by repeat (first | (with_reducible first | exact HB.out | apply below_alloc | apply pw_below_drewN | apply below_drew1) | exact HB.out)⟩
      · rw [if_neg c6] at H
        have c6b0 : (a0 == 32) = false := beq_eq_false_iff_ne.mpr c6
        have c6b1 : (a0 != 32) = true := bne_iff_ne.mpr c6
        have HC7 := Aside0.mk H
        clear H
        go_enter Try.func10, Try.ntmps10
        go_upto_if 29 with (fail)
        go_cut [29] (fun v29 wc => ∃ (kq : Nat) (x29_6 : Bool), v29 = .bool x29_6 ∧ Aside0 (cell_Bin.j0 kq a0 a1 a2 a0 x29_6 = some (r1, r2)) ∧ Aside0 (kq ≤ k) ∧ Aside0 (Below w.heap.size w wc))
        case first =>
          have H := HC7.out
          clear HC7
          by_cases c8 : a0 = 33
          · rw [if_pos c8] at H
            have c8b0 : (a0 == 33) = true := beq_iff_eq.mpr c8
            have c8b1 : (a0 != 33) = false := bne_eq_false_iff_eq.mpr c8
            clear c8
            (first | rw [c8b0] | (simp only [i64_w, i32_w]; rw [c8b0]) | skip)
            have H' := Aside0.mk H
            clear H
            go_wp2
            go_meet
            case rel => exact ⟨_, ((a0 == 33)), (by first | rfl | (simp; done) | (simp [*]; done) | (simp <;> omega) | (simp [*] <;> omega)), H', ⟨by first | omega | exact Nat.le_refl _⟩, ⟨by repeat (first | (with_reducible first | exact HB.out | apply below_alloc | apply pw_below_drewN | apply below_drew1) | exact HB.out)⟩⟩
          · rw [if_neg c8] at H
            have c8b0 : (a0 == 33) = false := beq_eq_false_iff_ne.mpr c8
            have c8b1 : (a0 != 33) = true := bne_iff_ne.mpr c8
            (first | rw [c8b0] | (simp only [i64_w, i32_w]; rw [c8b0]) | skip)
            have H' := Aside0.mk H
            clear H
            go_wp2
            go_meet
            case rel => exact ⟨_, ((a0 == 34)), (by first | rfl | (simp; done) | (simp [*]; done) | (simp <;> omega) | (simp [*] <;> omega)), H', ⟨by first | omega | exact Nat.le_refl _⟩, ⟨by repeat (first | (with_reducible first | exact HB.out | apply below_alloc | apply pw_below_drewN | apply below_drew1) | exact HB.out)⟩⟩
        case rest =>
          clear HC7
          try clear c1
          try clear p2
          try clear c4
          try clear c4b0
          try clear c4b1
          try clear c5
          try clear c5b0
          try clear c5b1
          try clear c6
          try clear c6b0
          try clear c6b1
          try clear c8
          try clear c8b0
          try clear c8b1
          obtain ⟨kq, x29_6, rfl, HA, HJ6, HB⟩ := hcut
          cases kq with
          | zero => exact absurd HA.out (by simp [cell_Bin.j0])
          | succ kj6 =>
            have H := HA.out
            clear HA
            simp only [cell_Bin.j0] at H
            by_cases c9 : x29_6 = true
            · subst c9
              have H1 : ((cell_Divide.f kj6 42 a1 a2).bind fun bt111 => (if a0 = 34 then (some (bt111.2.1, bt111.2.2)) else (some (bt111.1, bt111.2.2)))) = some (r1, r2) := by rw [if_pos rfl] at H; exact H
              clear H
              have H := H1
              clear H1
              replace H := Option.bind_eq_some_iff.mp H
              obtain ⟨⟨t111, t112, t113⟩, A100, H⟩ := H
              replace H : (if a0 = 34 then (some (t112, t113)) else (some (t111, t113))) = some (r1, r2) := H
              have A10 := Aside0.mk A100
              clear A100
              by_cases c11 : a0 = 34
              · rw [if_pos c11] at H
                have c11b0 : (a0 == 34) = true := beq_iff_eq.mpr c11
                have c11b1 : (a0 != 34) = false := bne_eq_false_iff_eq.mpr c11
                clear c11
                simp only [Option.some.injEq, Prod.mk.injEq] at H
                obtain ⟨rfl, rfl⟩ := H
                go_wp2_with (first | ((with_reducible refine gate_callee (f := 12) rfl ?_); refine goesL_ (some 35) rfl rfl Try.func12 (by kernel_rfl) rfl #[.int .i64 42, .int .u32 a1, .int .u32 a2] rfl (by (try simp only [List.map_toArray, List.map_cons, List.map_nil]); first | done | rfl | (simp only [List.length_drop, List.length_take]; rfl)) ?_; (with_reducible refine (cell_Divide.calls kj6 42 a1 a2 t111 t112 t113 _ A10.out).mono ?_); rintro e w' ⟨rfl, ⟨nd, rfl⟩⟩; refine ⟨_, rfl, ?_⟩))
                go_ret2
                exact ⟨by first | rfl | (simp [errW_none, errW_some] <;> rfl) | (simp [*, errW_none, errW_some] <;> rfl) | (simp [errW_none, errW_some] <;> omega) | (simp [*, errW_none, errW_some] <;> omega), by repeat (first | (with_reducible first | exact HB.out | apply below_alloc | apply pw_below_drewN | apply below_drew1) | exact HB.out)⟩
              · rw [if_neg c11] at H
                have c11b0 : (a0 == 34) = false := beq_eq_false_iff_ne.mpr c11
                have c11b1 : (a0 != 34) = true := bne_iff_ne.mpr c11
                simp only [Option.some.injEq, Prod.mk.injEq] at H
                obtain ⟨rfl, rfl⟩ := H
                go_wp2_with (first | ((with_reducible refine gate_callee (f := 12) rfl ?_); refine goesL_ (some 35) rfl rfl Try.func12 (by kernel_rfl) rfl #[.int .i64 42, .int .u32 a1, .int .u32 a2] rfl (by (try simp only [List.map_toArray, List.map_cons, List.map_nil]); first | done | rfl | (simp only [List.length_drop, List.length_take]; rfl)) ?_; (with_reducible refine (cell_Divide.calls kj6 42 a1 a2 t111 t112 t113 _ A10.out).mono ?_); rintro e w' ⟨rfl, ⟨nd, rfl⟩⟩; refine ⟨_, rfl, ?_⟩))
                go_ret2
                exact ⟨by first | rfl | (simp [errW_none, errW_some] <;> rfl) | (simp [*, errW_none, errW_some] <;> rfl) | (simp [errW_none, errW_some] <;> omega) | (simp [*, errW_none, errW_some] <;> omega), by repeat (first | (with_reducible first | exact HB.out | apply below_alloc | apply pw_below_drewN | apply below_drew1) | exact HB.out)⟩
            · replace c9 := Bool.eq_false_iff.mpr c9
              subst c9
              have H1 : (if a0 = 35 then (some (Go.bits .and .u32 a1 a2, 0)) else (if a0 = 36 then (some (Go.bits .or .u32 a1 a2, 0)) else (if a0 = 37 then (some (Go.bits .xor .u32 a1 a2, 0)) else (if a0 = 39 then (if 0 ≤ a2 then (some (shl .u32 a1 a2, 0)) else (none)) else (if a0 = 40 then (if 0 ≤ a2 then (some (shr .u32 a1 a2, 0)) else (none)) else (if a0 = 41 then (if 0 ≤ a2 then (some ((shr .i32 (wrap32 (a1)) a2) % 4294967296, 0)) else (none)) else (if a0 = 46 then (some ((mn (wrap32 (a1)) (wrap32 (a2))) % 4294967296, 0)) else (if a0 = 47 then (some ((mx (wrap32 (a1)) (wrap32 (a2))) % 4294967296, 0)) else ((cell_compare.f a0 a1 a2).bind fun bt114 => (if bt114.2 = true then (some (bt114.1, 0)) else (some (0, 2)))))))))))) = some (r1, r2) := by rw [if_neg (show ¬ (false = true) by decide)] at H; exact H
              clear H
              have H := H1
              clear H1
              by_cases c12 : a0 = 35
              · rw [if_pos c12] at H
                have c12b0 : (a0 == 35) = true := beq_iff_eq.mpr c12
                have c12b1 : (a0 != 35) = false := bne_eq_false_iff_eq.mpr c12
                clear c12
                simp only [Option.some.injEq, Prod.mk.injEq] at H
                obtain ⟨rfl, rfl⟩ := H
                go_wp2
                go_ret2
                exact ⟨by first | rfl | (simp [errW_none, errW_some] <;> rfl) | (simp [*, errW_none, errW_some] <;> rfl) | (simp [errW_none, errW_some] <;> omega) | (simp [*, errW_none, errW_some] <;> omega), by repeat (first | (with_reducible first | exact HB.out | apply below_alloc | apply pw_below_drewN | apply below_drew1) | exact HB.out)⟩
              · rw [if_neg c12] at H
                have c12b0 : (a0 == 35) = false := beq_eq_false_iff_ne.mpr c12
                have c12b1 : (a0 != 35) = true := bne_iff_ne.mpr c12
                by_cases c13 : a0 = 36
                · rw [if_pos c13] at H
                  have c13b0 : (a0 == 36) = true := beq_iff_eq.mpr c13
                  have c13b1 : (a0 != 36) = false := bne_eq_false_iff_eq.mpr c13
                  clear c13
                  simp only [Option.some.injEq, Prod.mk.injEq] at H
                  obtain ⟨rfl, rfl⟩ := H
                  go_wp2
                  go_ret2
                  exact ⟨by first | rfl | (simp [errW_none, errW_some] <;> rfl) | (simp [*, errW_none, errW_some] <;> rfl) | (simp [errW_none, errW_some] <;> omega) | (simp [*, errW_none, errW_some] <;> omega), by repeat (first | (with_reducible first | exact HB.out | apply below_alloc | apply pw_below_drewN | apply below_drew1) | exact HB.out)⟩
                · rw [if_neg c13] at H
                  have c13b0 : (a0 == 36) = false := beq_eq_false_iff_ne.mpr c13
                  have c13b1 : (a0 != 36) = true := bne_iff_ne.mpr c13
                  by_cases c14 : a0 = 37
                  · rw [if_pos c14] at H
                    have c14b0 : (a0 == 37) = true := beq_iff_eq.mpr c14
                    have c14b1 : (a0 != 37) = false := bne_eq_false_iff_eq.mpr c14
                    clear c14
                    simp only [Option.some.injEq, Prod.mk.injEq] at H
                    obtain ⟨rfl, rfl⟩ := H
                    go_wp2
                    go_ret2
                    exact ⟨by first | rfl | (simp [errW_none, errW_some] <;> rfl) | (simp [*, errW_none, errW_some] <;> rfl) | (simp [errW_none, errW_some] <;> omega) | (simp [*, errW_none, errW_some] <;> omega), by repeat (first | (with_reducible first | exact HB.out | apply below_alloc | apply pw_below_drewN | apply below_drew1) | exact HB.out)⟩
                  · rw [if_neg c14] at H
                    have c14b0 : (a0 == 37) = false := beq_eq_false_iff_ne.mpr c14
                    have c14b1 : (a0 != 37) = true := bne_iff_ne.mpr c14
                    by_cases c15 : a0 = 39
                    · rw [if_pos c15] at H
                      have c15b0 : (a0 == 39) = true := beq_iff_eq.mpr c15
                      have c15b1 : (a0 != 39) = false := bne_eq_false_iff_eq.mpr c15
                      clear c15
                      by_cases c16 : 0 ≤ a2
                      · rw [if_pos c16] at H
                        have c16b0 := eq_true c16
                        have c16b1 : decide (0 ≤ a2) = true := decide_eq_true c16
                        clear c16
                        obtain ⟨ji17, hji17⟩ : ∃ j_ : Int, (shl .u32 a1 a2) = j_ := ⟨_, rfl⟩
                        replace H : (some (ji17, 0)) = some (r1, r2) := by first | (rw [hji17] at H; exact H) | (simp only [hji17] at H ⊢; exact H)
                        have hji17_ : (IntKind.u32.wrap (a1 * 2 ^ min a2.toNat 32)) = ji17 := hji17
                        have hji17z : a2 ≤ 32 → (IntKind.u32.wrap (a1 * 2 ^ a2.toNat)) = ji17 := shl_small hji17
                        simp only [Option.some.injEq, Prod.mk.injEq] at H
                        obtain ⟨rfl, rfl⟩ := H
                        go_wp2
                        go_ret2
                        exact ⟨by first | rfl | (simp [errW_none, errW_some] <;> rfl) | (simp only [← hji17]; first | rfl | (simp [errW_none, errW_some] <;> rfl)) | (simp [*, errW_none, errW_some] <;> rfl) | (simp [errW_none, errW_some] <;> omega) | (simp [*, errW_none, errW_some] <;> omega), by repeat (first | (with_reducible first | exact HB.out | apply below_alloc | apply pw_below_drewN | apply below_drew1) | exact HB.out)⟩
                      · rw [if_neg c16] at H
                        exact absurd H (by simp)
                    · rw [if_neg c15] at H
                      have c15b0 : (a0 == 39) = false := beq_eq_false_iff_ne.mpr c15
                      have c15b1 : (a0 != 39) = true := bne_iff_ne.mpr c15
                      by_cases c18 : a0 = 40
                      · rw [if_pos c18] at H
                        have c18b0 : (a0 == 40) = true := beq_iff_eq.mpr c18
                        have c18b1 : (a0 != 40) = false := bne_eq_false_iff_eq.mpr c18
                        clear c18
                        by_cases c19 : 0 ≤ a2
                        · rw [if_pos c19] at H
                          have c19b0 := eq_true c19
                          have c19b1 : decide (0 ≤ a2) = true := decide_eq_true c19
                          clear c19
                          obtain ⟨ji20, hji20⟩ : ∃ j_ : Int, (shr .u32 a1 a2) = j_ := ⟨_, rfl⟩
                          replace H : (some (ji20, 0)) = some (r1, r2) := by first | (rw [hji20] at H; exact H) | (simp only [hji20] at H ⊢; exact H)
                          have hji20_ : (a1 / 2 ^ min a2.toNat 32) = ji20 := hji20
                          have hji20z : a2 ≤ 32 → (a1 / 2 ^ a2.toNat) = ji20 := shr_small hji20
                          simp only [Option.some.injEq, Prod.mk.injEq] at H
                          obtain ⟨rfl, rfl⟩ := H
                          go_wp2
                          go_ret2
                          exact ⟨by first | rfl | (simp [errW_none, errW_some] <;> rfl) | (simp only [← hji20]; first | rfl | (simp [errW_none, errW_some] <;> rfl)) | (simp [*, errW_none, errW_some] <;> rfl) | (simp [errW_none, errW_some] <;> omega) | (simp [*, errW_none, errW_some] <;> omega), by repeat (first | (with_reducible first | exact HB.out | apply below_alloc | apply pw_below_drewN | apply below_drew1) | exact HB.out)⟩
                        · rw [if_neg c19] at H
                          exact absurd H (by simp)
                      · rw [if_neg c18] at H
                        have c18b0 : (a0 == 40) = false := beq_eq_false_iff_ne.mpr c18
                        have c18b1 : (a0 != 40) = true := bne_iff_ne.mpr c18
                        by_cases c21 : a0 = 41
                        · rw [if_pos c21] at H
                          have c21b0 : (a0 == 41) = true := beq_iff_eq.mpr c21
                          have c21b1 : (a0 != 41) = false := bne_eq_false_iff_eq.mpr c21
                          clear c21
                          by_cases c22 : 0 ≤ a2
                          · rw [if_pos c22] at H
                            have c22b0 := eq_true c22
                            have c22b1 : decide (0 ≤ a2) = true := decide_eq_true c22
                            clear c22
                            obtain ⟨ji23, hji23⟩ : ∃ j_ : Int, (shr .i32 (wrap32 (a1)) a2) = j_ := ⟨_, rfl⟩
                            replace H : (some ((ji23) % 4294967296, 0)) = some (r1, r2) := by first | (rw [hji23] at H; exact H) | (simp only [hji23] at H ⊢; exact H)
                            have hji23_ : ((wrap32 (a1)) / 2 ^ min a2.toNat 32) = ji23 := hji23
                            have hji23z : a2 ≤ 32 → ((wrap32 (a1)) / 2 ^ a2.toNat) = ji23 := shr_small hji23
                            simp only [Option.some.injEq, Prod.mk.injEq] at H
                            obtain ⟨rfl, rfl⟩ := H
                            go_wp2
                            go_ret2
                            exact ⟨by first | rfl | (simp [errW_none, errW_some] <;> rfl) | (simp only [← hji23]; first | rfl | (simp [errW_none, errW_some] <;> rfl)) | (simp [*, errW_none, errW_some] <;> rfl) | (simp [errW_none, errW_some] <;> omega) | (simp [*, errW_none, errW_some] <;> omega), by repeat (first | (with_reducible first | exact HB.out | apply below_alloc | apply pw_below_drewN | apply below_drew1) | exact HB.out)⟩
                          · rw [if_neg c22] at H
                            exact absurd H (by simp)
                        · rw [if_neg c21] at H
                          have c21b0 : (a0 == 41) = false := beq_eq_false_iff_ne.mpr c21
                          have c21b1 : (a0 != 41) = true := bne_iff_ne.mpr c21
                          by_cases c24 : a0 = 46
                          · rw [if_pos c24] at H
                            have c24b0 : (a0 == 46) = true := beq_iff_eq.mpr c24
                            have c24b1 : (a0 != 46) = false := bne_eq_false_iff_eq.mpr c24
                            clear c24
                            obtain ⟨ji25, hji25⟩ : ∃ j_ : Int, (mn (wrap32 (a1)) (wrap32 (a2))) = j_ := ⟨_, rfl⟩
                            replace H : (some ((ji25) % 4294967296, 0)) = some (r1, r2) := by first | (rw [hji25] at H; exact H) | (simp only [hji25] at H ⊢; exact H)
                            have hji25_ : (if (wrap32 (a2)) < (wrap32 (a1)) then (wrap32 (a2)) else (wrap32 (a1))) = ji25 := hji25
                            simp only [Option.some.injEq, Prod.mk.injEq] at H
                            obtain ⟨rfl, rfl⟩ := H
                            go_wp2
                            go_ret2
                            exact ⟨by first | rfl | (simp [errW_none, errW_some] <;> rfl) | (simp only [← hji25]; first | rfl | (simp [errW_none, errW_some] <;> rfl)) | (simp [*, errW_none, errW_some] <;> rfl) | (simp [errW_none, errW_some] <;> omega) | (simp [*, errW_none, errW_some] <;> omega), by repeat (first | (with_reducible first | exact HB.out | apply below_alloc | apply pw_below_drewN | apply below_drew1) | exact HB.out)⟩
                          · rw [if_neg c24] at H
                            have c24b0 : (a0 == 46) = false := beq_eq_false_iff_ne.mpr c24
                            have c24b1 : (a0 != 46) = true := bne_iff_ne.mpr c24
                            by_cases c26 : a0 = 47
                            · rw [if_pos c26] at H
                              have c26b0 : (a0 == 47) = true := beq_iff_eq.mpr c26
                              have c26b1 : (a0 != 47) = false := bne_eq_false_iff_eq.mpr c26
                              clear c26
                              obtain ⟨ji27, hji27⟩ : ∃ j_ : Int, (mx (wrap32 (a1)) (wrap32 (a2))) = j_ := ⟨_, rfl⟩
                              replace H : (some ((ji27) % 4294967296, 0)) = some (r1, r2) := by first | (rw [hji27] at H; exact H) | (simp only [hji27] at H ⊢; exact H)
                              have hji27_ : (if (wrap32 (a1)) < (wrap32 (a2)) then (wrap32 (a2)) else (wrap32 (a1))) = ji27 := hji27
                              simp only [Option.some.injEq, Prod.mk.injEq] at H
                              obtain ⟨rfl, rfl⟩ := H
                              go_wp2
                              go_ret2
                              exact ⟨by first | rfl | (simp [errW_none, errW_some] <;> rfl) | (simp only [← hji27]; first | rfl | (simp [errW_none, errW_some] <;> rfl)) | (simp [*, errW_none, errW_some] <;> rfl) | (simp [errW_none, errW_some] <;> omega) | (simp [*, errW_none, errW_some] <;> omega), by repeat (first | (with_reducible first | exact HB.out | apply below_alloc | apply pw_below_drewN | apply below_drew1) | exact HB.out)⟩
                            · rw [if_neg c26] at H
                              have c26b0 : (a0 == 47) = false := beq_eq_false_iff_ne.mpr c26
                              have c26b1 : (a0 != 47) = true := bne_iff_ne.mpr c26
                              replace H := Option.bind_eq_some_iff.mp H
                              obtain ⟨⟨t114, t115⟩, A280, H⟩ := H
                              replace H : (if t115 = true then (some (t114, 0)) else (some (0, 2))) = some (r1, r2) := H
                              have A28 := Aside0.mk A280
                              clear A280
                              by_cases c29 : t115 = true
                              · subst c29
                                have H1 : (some (t114, 0)) = some (r1, r2) := by rw [if_pos rfl] at H; exact H
                                clear H
                                have H := H1
                                clear H1
                                simp only [Option.some.injEq, Prod.mk.injEq] at H
                                obtain ⟨rfl, rfl⟩ := H
                                go_wp2_with (first | ((with_reducible refine gate_callee (f := 22) rfl ?_); refine goesL_ (some 96) rfl rfl Try.func22 (by kernel_rfl) rfl #[.int .i64 a0, .int .u32 a1, .int .u32 a2] rfl (by (try simp only [List.map_toArray, List.map_cons, List.map_nil]); first | done | rfl | (simp only [List.length_drop, List.length_take]; rfl)) ?_; (with_reducible refine (cell_compare.calls a0 a1 a2 t114 true _ A28.out).mono ?_); rintro e w' ⟨rfl, ⟨nd, rfl⟩⟩; refine ⟨_, rfl, ?_⟩))
                                go_ret2
                                exact ⟨by first | rfl | (simp [errW_none, errW_some] <;> rfl) | (simp [*, errW_none, errW_some] <;> rfl) | (simp [errW_none, errW_some] <;> omega) | (simp [*, errW_none, errW_some] <;> omega), by repeat (first | (with_reducible first | exact HB.out | apply below_alloc | apply pw_below_drewN | apply below_drew1) | exact HB.out)⟩
                              · replace c29 := Bool.eq_false_iff.mpr c29
                                subst c29
                                have H1 : (some (0, 2)) = some (r1, r2) := by rw [if_neg (show ¬ (false = true) by decide)] at H; exact H
                                clear H
                                have H := H1
                                clear H1
                                simp only [Option.some.injEq, Prod.mk.injEq] at H
                                obtain ⟨rfl, rfl⟩ := H
                                go_wp2_with (first | ((with_reducible refine gate_callee (f := 22) rfl ?_); refine goesL_ (some 96) rfl rfl Try.func22 (by kernel_rfl) rfl #[.int .i64 a0, .int .u32 a1, .int .u32 a2] rfl (by (try simp only [List.map_toArray, List.map_cons, List.map_nil]); first | done | rfl | (simp only [List.length_drop, List.length_take]; rfl)) ?_; (with_reducible refine (cell_compare.calls a0 a1 a2 t114 false _ A28.out).mono ?_); rintro e w' ⟨rfl, ⟨nd, rfl⟩⟩; refine ⟨_, rfl, ?_⟩))
                                go_ret2
                                exact ⟨by first | rfl | (simp [errW_none, errW_some] <;> rfl) | (simp [*, errW_none, errW_some] <;> rfl) | (simp [errW_none, errW_some] <;> omega) | (simp [*, errW_none, errW_some] <;> omega), by repeat (first | (with_reducible first | exact HB.out | apply below_alloc | apply pw_below_drewN | apply below_drew1) | exact HB.out)⟩

/-! ### cell_Signed: function 14 -/
def cell_Signed.f (a0 : Int) : Option (Int) := some (wrap64 (wrap32 (a0)))
set_option maxHeartbeats 8000000 in
set_option maxRecDepth 100000 in
theorem cell_Signed.calls (a0 : Int) (r : Int) (w : World) (h : cell_Signed.f a0 = some r) :
    Calls Try.prog 14 #[.int .u32 a0] w fun e w' => e = .returned (.int .i64 r) ∧ Drawn0 w w' := by
  have H : (some (wrap64 (wrap32 (a0)))) = some r := h
  clear h
  obtain rfl := Option.some.inj H
  go_enter Try.func14, Try.ntmps14
  go_wp2
  go_ret
  exact ⟨by first | rfl | (simp; done) | (simp [*]; done) | (simp <;> omega) | (simp [*] <;> omega), by repeat (first | exact Drawn0.refl _ | apply Drawn0.step)⟩

/-! ### tinderlaw01_alive: function 9 -/
def tinderlaw01_alive.f (k : Nat)  : Option (Bool) := (cell_Bin.f k 41 2147483648 4).bind fun bt116 => (if bt116.1 = 4160749568 then (if bt116.2 = 0 then ((cell_Signed.f bt116.1).bind fun t118 => (some (t118 == (-134217728)))) else (some false)) else (some false))
theorem tinderlaw01_alive.mono : ∀ k, LeO (tinderlaw01_alive.f k ) (tinderlaw01_alive.f (k + 1) ) := by
  intro  k
  unfold tinderlaw01_alive.f
  repeat' first
      | (with_reducible exact cell_Bin.mono _ _ _ _)
      | (with_reducible exact LeO.refl _)
      | (with_reducible exact LeO.none _)
      | (with_reducible refine LeO.ite ?_ ?_)
      | (with_reducible refine LeO.bind ?_ (fun _ => ?_))
      | exact cell_Bin.mono _ _ _ _
      | exact LeO.none _
      | refine LeO.ite ?_ ?_
      | refine LeO.bind ?_ (fun _ => ?_)
set_option maxHeartbeats 8000000 in
set_option maxRecDepth 100000 in
theorem tinderlaw01_alive.calls (k : Nat)  (r : Bool) (w : World) (h : tinderlaw01_alive.f k  = some r) :
    Calls Try.prog 9 #[] w fun e w' => e = .returned (.bool r) ∧ Below w.heap.size w w' := by
  have HB := Aside0.mk (Below.refl w.heap.size w)
  have H : ((cell_Bin.f k 41 2147483648 4).bind fun bt116 => (if bt116.1 = 4160749568 then (if bt116.2 = 0 then ((cell_Signed.f bt116.1).bind fun t118 => (some (t118 == (-134217728)))) else (some false)) else (some false))) = some r := h
  clear h
  replace H := Option.bind_eq_some_iff.mp H
  obtain ⟨⟨t116, t117⟩, A10, H⟩ := H
  replace H : (if t116 = 4160749568 then (if t117 = 0 then ((cell_Signed.f t116).bind fun t118 => (some (t118 == (-134217728)))) else (some false)) else (some false)) = some r := H
  have A1 := Aside0.mk A10
  clear A10
  by_cases c2 : t116 = 4160749568
  · rw [if_pos c2] at H
    have c2b0 : (t116 == 4160749568) = true := beq_iff_eq.mpr c2
    have c2b1 : (t116 != 4160749568) = false := bne_eq_false_iff_eq.mpr c2
    clear c2
    by_cases c3 : t117 = 0
    · rw [if_pos c3] at H
      have c3b0 : (t117 == 0) = true := beq_iff_eq.mpr c3
      have c3b1 : (t117 != 0) = false := bne_eq_false_iff_eq.mpr c3
      clear c3
      replace H := Option.bind_eq_some_iff.mp H
      obtain ⟨t118, A40, H⟩ := H
      replace H : (some (t118 == (-134217728))) = some r := H
      have A4 := Aside0.mk A40
      clear A40
      obtain rfl := Option.some.inj H
      go_enter Try.func9, Try.ntmps9
      go_wp2_with (first | ((with_reducible refine gate_callee (f := 10) rfl ?_); refine goesL_ (some 4) rfl rfl Try.func10 (by kernel_rfl) rfl #[.int .i64 41, .int .u32 2147483648, .int .u32 4] rfl (by (try simp only [List.map_toArray, List.map_cons, List.map_nil]); first | done | rfl | (simp only [List.length_drop, List.length_take]; rfl)) ?_; (with_reducible refine (cell_Bin.calls k 41 2147483648 4 t116 t117 _ A1.out).mono ?_); rintro e w5 ⟨rfl, hb⟩; refine ⟨_, rfl, ?_⟩; have n0_ := Aside0.mk (below_step (by repeat (first | (with_reducible first | exact HB.out | apply below_alloc | apply pw_below_drewN | apply below_drew1) | exact HB.out)) hb); clear HB; have HB := n0_; clear n0_; (try clear hb); (try clear hb2); (try clear hk); (try clear hi)) | (go_at_call 14; (with_reducible refine (cell_Signed.calls t116 t118 _ A4.out).mono ?_); rintro e w' ⟨rfl, ⟨nd, rfl⟩⟩))
      go_ret
      exact ⟨by first | rfl | (simp [errW_none, errW_some] <;> rfl) | (simp [*, errW_none, errW_some] <;> rfl) | (simp [errW_none, errW_some] <;> omega) | (simp [*, errW_none, errW_some] <;> omega), by repeat (first | (with_reducible first | exact HB.out | apply below_alloc | apply pw_below_drewN | apply below_drew1) | exact HB.out)⟩
    · rw [if_neg c3] at H
      have c3b0 : (t117 == 0) = false := beq_eq_false_iff_ne.mpr c3
      have c3b1 : (t117 != 0) = true := bne_iff_ne.mpr c3
      obtain rfl := Option.some.inj H
      go_enter Try.func9, Try.ntmps9
      go_wp2_with (first | ((with_reducible refine gate_callee (f := 10) rfl ?_); refine goesL_ (some 4) rfl rfl Try.func10 (by kernel_rfl) rfl #[.int .i64 41, .int .u32 2147483648, .int .u32 4] rfl (by (try simp only [List.map_toArray, List.map_cons, List.map_nil]); first | done | rfl | (simp only [List.length_drop, List.length_take]; rfl)) ?_; (with_reducible refine (cell_Bin.calls k 41 2147483648 4 t116 t117 _ A1.out).mono ?_); rintro e w6 ⟨rfl, hb⟩; refine ⟨_, rfl, ?_⟩; have n0_ := Aside0.mk (below_step (by repeat (first | (with_reducible first | exact HB.out | apply below_alloc | apply pw_below_drewN | apply below_drew1) | exact HB.out)) hb); clear HB; have HB := n0_; clear n0_; (try clear hb); (try clear hb2); (try clear hk); (try clear hi)))
      go_ret
      exact ⟨by first | rfl | (simp [errW_none, errW_some] <;> rfl) | (simp [*, errW_none, errW_some] <;> rfl) | (simp [errW_none, errW_some] <;> omega) | (simp [*, errW_none, errW_some] <;> omega), by repeat (first | (with_reducible first | exact HB.out | apply below_alloc | apply pw_below_drewN | apply below_drew1) | exact HB.out)⟩
  · rw [if_neg c2] at H
    have c2b0 : (t116 == 4160749568) = false := beq_eq_false_iff_ne.mpr c2
    have c2b1 : (t116 != 4160749568) = true := bne_iff_ne.mpr c2
    obtain rfl := Option.some.inj H
    go_enter Try.func9, Try.ntmps9
    go_wp2_with (first | ((with_reducible refine gate_callee (f := 10) rfl ?_); refine goesL_ (some 4) rfl rfl Try.func10 (by kernel_rfl) rfl #[.int .i64 41, .int .u32 2147483648, .int .u32 4] rfl (by (try simp only [List.map_toArray, List.map_cons, List.map_nil]); first | done | rfl | (simp only [List.length_drop, List.length_take]; rfl)) ?_; (with_reducible refine (cell_Bin.calls k 41 2147483648 4 t116 t117 _ A1.out).mono ?_); rintro e w7 ⟨rfl, hb⟩; refine ⟨_, rfl, ?_⟩; have n0_ := Aside0.mk (below_step (by repeat (first | (with_reducible first | exact HB.out | apply below_alloc | apply pw_below_drewN | apply below_drew1) | exact HB.out)) hb); clear HB; have HB := n0_; clear n0_; (try clear hb); (try clear hb2); (try clear hk); (try clear hi)))
    go_ret
    exact ⟨by first | rfl | (simp [errW_none, errW_some] <;> rfl) | (simp [*, errW_none, errW_some] <;> rfl) | (simp [errW_none, errW_some] <;> omega) | (simp [*, errW_none, errW_some] <;> omega), by repeat (first | (with_reducible first | exact HB.out | apply below_alloc | apply pw_below_drewN | apply below_drew1) | exact HB.out)⟩

/-! ### bits_Add32: function 29 -/
def bits_Add32.f (a0 : Int) (a1 : Int) (a2 : Int) : Option (Int × Int) := some ((IntKind.u64.wrap ((IntKind.u64.wrap ((IntKind.u64.wrap (a0)) + (IntKind.u64.wrap (a1)))) + (IntKind.u64.wrap (a2)))) % 4294967296, ((IntKind.u64.wrap ((IntKind.u64.wrap ((IntKind.u64.wrap (a0)) + (IntKind.u64.wrap (a1)))) + (IntKind.u64.wrap (a2)))) / 4294967296) % 4294967296)
set_option maxHeartbeats 8000000 in
set_option maxRecDepth 100000 in
theorem bits_Add32.calls (a0 : Int) (a1 : Int) (a2 : Int) (r1 : Int) (r2 : Int) (w : World) (h : bits_Add32.f a0 a1 a2 = some (r1, r2)) :
    Calls Try.prog 29 #[.int .u32 a0, .int .u32 a1, .int .u32 a2] w fun e w' => e = .returned (.tuple #[.int .u32 r1, .int .u32 r2]) ∧ Drawn0 w w' := by
  have H : (some ((IntKind.u64.wrap ((IntKind.u64.wrap ((IntKind.u64.wrap (a0)) + (IntKind.u64.wrap (a1)))) + (IntKind.u64.wrap (a2)))) % 4294967296, ((IntKind.u64.wrap ((IntKind.u64.wrap ((IntKind.u64.wrap (a0)) + (IntKind.u64.wrap (a1)))) + (IntKind.u64.wrap (a2)))) / 4294967296) % 4294967296)) = some (r1, r2) := h
  clear h
  simp only [Option.some.injEq, Prod.mk.injEq] at H
  obtain ⟨rfl, rfl⟩ := H
  go_enter Try.func29, Try.ntmps29
  go_wp2
  go_ret2
  exact ⟨by first | rfl | (simp; done) | (simp [*]; done) | (simp <;> omega) | (simp [*] <;> omega), by repeat (first | exact Drawn0.refl _ | apply Drawn0.step)⟩

/-! ### bits_Sub32: function 30 -/
def bits_Sub32.f (a0 : Int) (a1 : Int) (a2 : Int) : Option (Int × Int) := some ((((a0 - a1) % 4294967296) - a2) % 4294967296, (Go.bits .or .u32 (Go.bits .and .u32 (Go.bits .xor .u32 4294967295 a0) a1) (Go.bits .and .u32 (Go.bits .xor .u32 4294967295 (Go.bits .xor .u32 a0 a1)) ((((a0 - a1) % 4294967296) - a2) % 4294967296))) / 2147483648)
set_option maxHeartbeats 8000000 in
set_option maxRecDepth 100000 in
theorem bits_Sub32.calls (a0 : Int) (a1 : Int) (a2 : Int) (r1 : Int) (r2 : Int) (w : World) (h : bits_Sub32.f a0 a1 a2 = some (r1, r2)) :
    Calls Try.prog 30 #[.int .u32 a0, .int .u32 a1, .int .u32 a2] w fun e w' => e = .returned (.tuple #[.int .u32 r1, .int .u32 r2]) ∧ Drawn0 w w' := by
  have H : (some ((((a0 - a1) % 4294967296) - a2) % 4294967296, (Go.bits .or .u32 (Go.bits .and .u32 (Go.bits .xor .u32 4294967295 a0) a1) (Go.bits .and .u32 (Go.bits .xor .u32 4294967295 (Go.bits .xor .u32 a0 a1)) ((((a0 - a1) % 4294967296) - a2) % 4294967296))) / 2147483648)) = some (r1, r2) := h
  clear h
  simp only [Option.some.injEq, Prod.mk.injEq] at H
  obtain ⟨rfl, rfl⟩ := H
  go_enter Try.func30, Try.ntmps30
  go_wp2
  go_ret2
  exact ⟨by first | rfl | (simp; done) | (simp [*]; done) | (simp <;> omega) | (simp [*] <;> omega), by repeat (first | exact Drawn0.refl _ | apply Drawn0.step)⟩

-- NOT PRINTED: function 19 (cell_Double)

-- NOT PRINTED: function 20 (tinderref01_Double)

-- NOT PRINTED: function 7 (tinderlaw01_CellDoubles)

end Go.Proofs.Ytdjpodpibkcnaaa.QCellDoubles
