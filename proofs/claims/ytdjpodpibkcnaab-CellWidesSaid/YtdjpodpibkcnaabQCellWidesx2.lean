-- written by a program of this session (xprint.py) out of the translation
import Derived.Test.YtdjpodpibkcnaabQCellWidesx0
import Derived.Test.YtdjpodpibkcnaabQCellWidesx1
namespace Go.Proofs.Ytdjpodpibkcnaab.QCellWides
open Go.RowKit Go.Proofs.YtdjpodpibkcnaabW.PrintWords Go.Proofs.YtdjpodpibkcnaabW.PrintLast Go.Proofs.YtdjpodpibkcnaabW.PrintMore
attribute [local go_sem] max2_int min2_int max_two min_two max_three min_three max_four min_four   -- for this text's walks alone
set_option linter.unusedVariables false
set_option linter.unusedSimpArgs false

/-! ### cell_Wide: function 10 -/
mutual
def cell_Wide.j0 : Nat → Int → Int → Int → Int → Bool → Option (Int × Int × Int)
  | 0, _, _, _, _, _ => none
  | k + 1, x0, x1, x2, x3, x15 => if x15 = true then (some (0, 0, 2)) else (if x3 = 0 then (some (0, 0, 7)) else (if x0 = 213 then (if x2 ≥ x3 then (some (0, 0, 4)) else ((bits_Div32.f x2 x1 x3).bind fun bt119 => (some (bt119.1, bt119.2, 0)))) else (if (wrap64 (Go.bits .or .u64 (IntKind.u64.wrap ((IntKind.u64.wrap (x2)) * 4294967296)) (IntKind.u64.wrap (x1)))) = (-9223372036854775808) then (cell_Wide.j1 k x0 (wrap64 (Go.bits .or .u64 (IntKind.u64.wrap ((IntKind.u64.wrap (x2)) * 4294967296)) (IntKind.u64.wrap (x1)))) (wrap64 (wrap32 (x3))) ((wrap64 (wrap32 (x3))) == (-1))) else (cell_Wide.j1 k x0 (wrap64 (Go.bits .or .u64 (IntKind.u64.wrap ((IntKind.u64.wrap (x2)) * 4294967296)) (IntKind.u64.wrap (x1)))) (wrap64 (wrap32 (x3))) false))))
def cell_Wide.j1 : Nat → Int → Int → Int → Bool → Option (Int × Int × Int)
  | 0, _, _, _, _ => none
  | k + 1, x0, x11, x12, x58 => if x58 = true then (some (0, 0, 4)) else (if x12 = 0 then (none) else (if x0 = 725 then (if (Int.tmod x11 x12) = 0 then (cell_Wide.j2 k x12 (wrap64 (Int.tdiv x11 x12)) (Int.tmod x11 x12) false) else (cell_Wide.j2 k x12 (wrap64 (Int.tdiv x11 x12)) (Int.tmod x11 x12) (decide ((Go.bits .xor .i64 (Int.tmod x11 x12) x12) < 0)))) else (cell_Wide.j2 k x12 (wrap64 (Int.tdiv x11 x12)) (Int.tmod x11 x12) false)))
def cell_Wide.j2 : Nat → Int → Int → Int → Bool → Option (Int × Int × Int)
  | 0, _, _, _, _ => none
  | k + 1, x12, x13, x14, x76 => if x76 = true then (if (wrap64 (x13 - 1)) = (wrap64 (wrap32 (wrap64 (x13 - 1)))) then (some ((wrap64 (x13 - 1)) % 4294967296, (wrap64 (x14 + x12)) % 4294967296, 0)) else (some (0, 0, 4))) else (if x13 = (wrap64 (wrap32 (x13))) then (some ((x13) % 4294967296, (x14) % 4294967296, 0)) else (some (0, 0, 4)))
end
def cell_Wide.f (k : Nat) (a0 : Int) (a1 : Int) (a2 : Int) (a3 : Int) : Option (Int × Int × Int) := if a0 = 213 then (cell_Wide.j0 k a0 a1 a2 a3 false) else (if a0 = 469 then (cell_Wide.j0 k a0 a1 a2 a3 false) else (cell_Wide.j0 k a0 a1 a2 a3 (a0 != 725)))
theorem cell_Wide.mono_l : ∀ k, (∀ y0 y1 y2 y3 y4, LeO (cell_Wide.j0 k y0 y1 y2 y3 y4) (cell_Wide.j0 (k + 1) y0 y1 y2 y3 y4)) ∧ (∀ y0 y1 y2 y3, LeO (cell_Wide.j1 k y0 y1 y2 y3) (cell_Wide.j1 (k + 1) y0 y1 y2 y3)) ∧ (∀ y0 y1 y2 y3, LeO (cell_Wide.j2 k y0 y1 y2 y3) (cell_Wide.j2 (k + 1) y0 y1 y2 y3))
  | 0 => ⟨fun _ _ _ _ _ r h => by simp [cell_Wide.j0] at h, fun _ _ _ _ r h => by simp [cell_Wide.j1] at h, fun _ _ _ _ r h => by simp [cell_Wide.j2] at h⟩
  | k + 1 => by
    obtain ⟨ih0, ih1, ih2⟩ := cell_Wide.mono_l k
    refine ⟨?_, ?_, ?_⟩
    · intro y0 y1 y2 y3 y4
      unfold cell_Wide.j0
      repeat' first
      | (with_reducible exact ih0 _ _ _ _ _)
      | (with_reducible exact ih1 _ _ _ _)
      | (with_reducible exact ih2 _ _ _ _)
      | (with_reducible exact LeO.refl _)
      | (with_reducible exact LeO.none _)
      | (with_reducible refine LeO.ite ?_ ?_)
      | (with_reducible refine LeO.bind ?_ (fun _ => ?_))
      | exact ih0 _ _ _ _ _
      | exact ih1 _ _ _ _
      | exact ih2 _ _ _ _
      | exact LeO.none _
      | refine LeO.ite ?_ ?_
      | refine LeO.bind ?_ (fun _ => ?_)
    · intro y0 y1 y2 y3
      unfold cell_Wide.j1
      repeat' first
      | (with_reducible exact ih0 _ _ _ _ _)
      | (with_reducible exact ih1 _ _ _ _)
      | (with_reducible exact ih2 _ _ _ _)
      | (with_reducible exact LeO.refl _)
      | (with_reducible exact LeO.none _)
      | (with_reducible refine LeO.ite ?_ ?_)
      | (with_reducible refine LeO.bind ?_ (fun _ => ?_))
      | exact ih0 _ _ _ _ _
      | exact ih1 _ _ _ _
      | exact ih2 _ _ _ _
      | exact LeO.none _
      | refine LeO.ite ?_ ?_
      | refine LeO.bind ?_ (fun _ => ?_)
    · intro y0 y1 y2 y3
      unfold cell_Wide.j2
      repeat' first
      | (with_reducible exact ih0 _ _ _ _ _)
      | (with_reducible exact ih1 _ _ _ _)
      | (with_reducible exact ih2 _ _ _ _)
      | (with_reducible exact LeO.refl _)
      | (with_reducible exact LeO.none _)
      | (with_reducible refine LeO.ite ?_ ?_)
      | (with_reducible refine LeO.bind ?_ (fun _ => ?_))
      | exact ih0 _ _ _ _ _
      | exact ih1 _ _ _ _
      | exact ih2 _ _ _ _
      | exact LeO.none _
      | refine LeO.ite ?_ ?_
      | refine LeO.bind ?_ (fun _ => ?_)
theorem cell_Wide.mono : ∀ a0 a1 a2 a3 k, LeO (cell_Wide.f k a0 a1 a2 a3) (cell_Wide.f (k + 1) a0 a1 a2 a3) := by
  intro a0 a1 a2 a3 k
  obtain ⟨ih0, ih1, ih2⟩ := cell_Wide.mono_l k
  unfold cell_Wide.f
  repeat' first
      | (with_reducible exact ih0 _ _ _ _ _)
      | (with_reducible exact ih1 _ _ _ _)
      | (with_reducible exact ih2 _ _ _ _)
      | (with_reducible exact LeO.refl _)
      | (with_reducible exact LeO.none _)
      | (with_reducible refine LeO.ite ?_ ?_)
      | (with_reducible refine LeO.bind ?_ (fun _ => ?_))
      | exact ih0 _ _ _ _ _
      | exact ih1 _ _ _ _
      | exact ih2 _ _ _ _
      | exact LeO.none _
      | refine LeO.ite ?_ ?_
      | refine LeO.bind ?_ (fun _ => ?_)
set_option maxHeartbeats 8000000 in
set_option maxRecDepth 100000 in
theorem cell_Wide.calls (k : Nat) (a0 : Int) (a1 : Int) (a2 : Int) (a3 : Int) (r1 : Int) (r2 : Int) (r3 : Int) (w : World) (h : cell_Wide.f k a0 a1 a2 a3 = some (r1, r2, r3)) :
    Calls Try.prog 10 #[.int .i64 a0, .int .u32 a1, .int .u32 a2, .int .u32 a3] w fun e w' => e = .returned (.tuple #[.int .u32 r1, .int .u32 r2, .int .i64 r3]) ∧ Drawn0 w w' := by
  have H : (if a0 = 213 then (cell_Wide.j0 k a0 a1 a2 a3 false) else (if a0 = 469 then (cell_Wide.j0 k a0 a1 a2 a3 false) else (cell_Wide.j0 k a0 a1 a2 a3 (a0 != 725)))) = some (r1, r2, r3) := h
  clear h
  have HC5 := Aside0.mk H
  clear H
  go_enter Try.func10, Try.ntmps10
  go_upto_region 1 with (fail)
  repeat (go_quiet (fail); go_upto_region 1 with (fail))
  go_cut [15] (fun v15 wc => ∃ (kq : Nat) (x15_4 : Bool), v15 = .bool x15_4 ∧ Aside0 (cell_Wide.j0 kq a0 a1 a2 a3 x15_4 = some (r1, r2, r3)) ∧ Aside0 (kq ≤ k) ∧ Drawn0 w wc)
  case first =>
    have H := HC5.out
    clear HC5
    by_cases c6 : a0 = 213
    · rw [if_pos c6] at H
      have c6b0 : (a0 == 213) = true := beq_iff_eq.mpr c6
      have c6b1 : (a0 != 213) = false := bne_eq_false_iff_eq.mpr c6
      clear c6
      (first | rw [c6b0] | (simp only [i64_w, i32_w]; rw [c6b0]) | skip)
      have H' := Aside0.mk H
      clear H
      go_wp2
      repeat (go_quiet (fail); try go_wp2)
      go_meet
      case rel => exact ⟨_, (false), (by first | rfl | (simp; done) | (simp [*]; done) | (simp <;> omega) | (simp [*] <;> omega)), H', ⟨by first | omega | exact Nat.le_refl _⟩, by repeat (first | exact Drawn0.refl _ | apply Drawn0.step)⟩
    · rw [if_neg c6] at H
      have c6b0 : (a0 == 213) = false := beq_eq_false_iff_ne.mpr c6
      have c6b1 : (a0 != 213) = true := bne_iff_ne.mpr c6
      (first | rw [c6b0] | (simp only [i64_w, i32_w]; rw [c6b0]) | skip)
      by_cases c7 : a0 = 469
      · rw [if_pos c7] at H
        have c7b0 : (a0 == 469) = true := beq_iff_eq.mpr c7
        have c7b1 : (a0 != 469) = false := bne_eq_false_iff_eq.mpr c7
        clear c7
        have H' := Aside0.mk H
        clear H
        go_wp2
        repeat (go_quiet (fail); try go_wp2)
        go_meet
        case rel => exact ⟨_, (false), (by first | rfl | (simp; done) | (simp [*]; done) | (simp <;> omega) | (simp [*] <;> omega)), H', ⟨by first | omega | exact Nat.le_refl _⟩, by repeat (first | exact Drawn0.refl _ | apply Drawn0.step)⟩
      · rw [if_neg c7] at H
        have c7b0 : (a0 == 469) = false := beq_eq_false_iff_ne.mpr c7
        have c7b1 : (a0 != 469) = true := bne_iff_ne.mpr c7
        have H' := Aside0.mk H
        clear H
        go_wp2
        repeat (go_quiet (fail); try go_wp2)
        go_meet
        case rel => exact ⟨_, ((a0 != 725)), (by first | rfl | (simp; done) | (simp [*]; done) | (simp <;> omega) | (simp [*] <;> omega)), H', ⟨by first | omega | exact Nat.le_refl _⟩, by repeat (first | exact Drawn0.refl _ | apply Drawn0.step)⟩
  case rest =>
    clear HC5
    try clear c1
    try clear p2
    try clear c6
    try clear c6b0
    try clear c6b1
    try clear c7
    try clear c7b0
    try clear c7b1
    obtain ⟨kq, x15_4, rfl, HA, HJ4, ⟨mc4, rfl⟩⟩ := hcut
    cases kq with
    | zero => exact absurd HA.out (by simp [cell_Wide.j0])
    | succ kj4 =>
      have H := HA.out
      clear HA
      simp only [cell_Wide.j0] at H
      by_cases c8 : x15_4 = true
      · subst c8
        have H1 : (some (0, 0, 2)) = some (r1, r2, r3) := by rw [if_pos rfl] at H; exact H
        clear H
        have H := H1
        clear H1
        simp only [Option.some.injEq, Prod.mk.injEq] at H
        obtain ⟨rfl, rfl, rfl⟩ := H
        go_wp2
        repeat (go_quiet (fail); try go_wp2)
        go_ret3
        exact ⟨by first | rfl | (simp; done) | (simp [*]; done) | (simp <;> omega) | (simp [*] <;> omega), by repeat (first | exact Drawn0.refl _ | apply Drawn0.step)⟩
      · replace c8 := Bool.eq_false_iff.mpr c8
        subst c8
        have H1 : (if a3 = 0 then (some (0, 0, 7)) else (if a0 = 213 then (if a2 ≥ a3 then (some (0, 0, 4)) else ((bits_Div32.f a2 a1 a3).bind fun bt119 => (some (bt119.1, bt119.2, 0)))) else (if (wrap64 (Go.bits .or .u64 (IntKind.u64.wrap ((IntKind.u64.wrap (a2)) * 4294967296)) (IntKind.u64.wrap (a1)))) = (-9223372036854775808) then (cell_Wide.j1 kj4 a0 (wrap64 (Go.bits .or .u64 (IntKind.u64.wrap ((IntKind.u64.wrap (a2)) * 4294967296)) (IntKind.u64.wrap (a1)))) (wrap64 (wrap32 (a3))) ((wrap64 (wrap32 (a3))) == (-1))) else (cell_Wide.j1 kj4 a0 (wrap64 (Go.bits .or .u64 (IntKind.u64.wrap ((IntKind.u64.wrap (a2)) * 4294967296)) (IntKind.u64.wrap (a1)))) (wrap64 (wrap32 (a3))) false)))) = some (r1, r2, r3) := by rw [if_neg (show ¬ (false = true) by decide)] at H; exact H
        clear H
        have H := H1
        clear H1
        by_cases c9 : a3 = 0
        · rw [if_pos c9] at H
          have c9b0 : (a3 == 0) = true := beq_iff_eq.mpr c9
          have c9b1 : (a3 != 0) = false := bne_eq_false_iff_eq.mpr c9
          clear c9
          simp only [Option.some.injEq, Prod.mk.injEq] at H
          obtain ⟨rfl, rfl, rfl⟩ := H
          go_wp2
          repeat (go_quiet (fail); try go_wp2)
          go_ret3
          exact ⟨by first | rfl | (simp; done) | (simp [*]; done) | (simp <;> omega) | (simp [*] <;> omega), by repeat (first | exact Drawn0.refl _ | apply Drawn0.step)⟩
        · rw [if_neg c9] at H
          have c9b0 : (a3 == 0) = false := beq_eq_false_iff_ne.mpr c9
          have c9b1 : (a3 != 0) = true := bne_iff_ne.mpr c9
          by_cases c10 : a0 = 213
          · rw [if_pos c10] at H
            have c10b0 : (a0 == 213) = true := beq_iff_eq.mpr c10
            have c10b1 : (a0 != 213) = false := bne_eq_false_iff_eq.mpr c10
            clear c10
            by_cases c11 : a2 ≥ a3
            · rw [if_pos c11] at H
              have c11b0 : decide (a3 ≤ a2) = true := decide_eq_true c11
              clear c11
              simp only [Option.some.injEq, Prod.mk.injEq] at H
              obtain ⟨rfl, rfl, rfl⟩ := H
              go_wp2
              repeat (go_quiet (fail); try go_wp2)
              go_ret3
              exact ⟨by first | rfl | (simp; done) | (simp [*]; done) | (simp <;> omega) | (simp [*] <;> omega), by repeat (first | exact Drawn0.refl _ | apply Drawn0.step)⟩
            · rw [if_neg c11] at H
              have c11b0 : decide (a3 ≤ a2) = false := decide_eq_false c11
              clear c11
              replace H := Option.bind_eq_some_iff.mp H
              obtain ⟨⟨t119, t120⟩, A120, H⟩ := H
              replace H : (some (t119, t120, 0)) = some (r1, r2, r3) := H
              have A12 := Aside0.mk A120
              clear A120
              simp only [Option.some.injEq, Prod.mk.injEq] at H
              obtain ⟨rfl, rfl, rfl⟩ := H
              go_wp2_with (first | (go_at_call 32; (with_reducible refine (bits_Div32.calls a2 a1 a3 t119 t120 _ A12.out).mono ?_); rintro e w' ⟨rfl, ⟨nd, rfl⟩⟩; (try first | exact ⟨rfl, _, World.drewN_drewN _ _ _⟩ | exact ⟨rfl, _, Eq.trans (World.drewN_drewN _ _ _) (congrArg (World.drewN _) (Nat.add_assoc _ _ _))⟩)))
              repeat (go_quiet (first | (go_at_call 32; (with_reducible refine (bits_Div32.calls a2 a1 a3 t119 t120 _ A12.out).mono ?_); rintro e w' ⟨rfl, ⟨nd, rfl⟩⟩; (try first | exact ⟨rfl, _, World.drewN_drewN _ _ _⟩ | exact ⟨rfl, _, Eq.trans (World.drewN_drewN _ _ _) (congrArg (World.drewN _) (Nat.add_assoc _ _ _))⟩))); try go_wp2_with (first | (go_at_call 32; (with_reducible refine (bits_Div32.calls a2 a1 a3 t119 t120 _ A12.out).mono ?_); rintro e w' ⟨rfl, ⟨nd, rfl⟩⟩; (try first | exact ⟨rfl, _, World.drewN_drewN _ _ _⟩ | exact ⟨rfl, _, Eq.trans (World.drewN_drewN _ _ _) (congrArg (World.drewN _) (Nat.add_assoc _ _ _))⟩))))
              go_ret3
              exact ⟨by first | rfl | (simp; done) | (simp [*]; done) | (simp <;> omega) | (simp [*] <;> omega), by repeat (first | exact Drawn0.refl _ | apply Drawn0.step)⟩
          · rw [if_neg c10] at H
            have c10b0 : (a0 == 213) = false := beq_eq_false_iff_ne.mpr c10
            have c10b1 : (a0 != 213) = true := bne_iff_ne.mpr c10
            have HC13 := Aside0.mk H
            clear H
            go_upto_region 11 with (fail)
            repeat (go_quiet (fail); go_upto_region 11 with (fail))
            go_cut [58] (fun v58 wc => ∃ (kq : Nat) (x58_12 : Bool), v58 = .bool x58_12 ∧ Aside0 (cell_Wide.j1 kq a0 (wrap64 (Go.bits .or .u64 (IntKind.u64.wrap ((IntKind.u64.wrap (a2)) * 4294967296)) (IntKind.u64.wrap (a1)))) (wrap64 (wrap32 (a3))) x58_12 = some (r1, r2, r3)) ∧ Aside0 (kq ≤ kj4) ∧ Drawn0 w wc)
            case first =>
              have H := HC13.out
              clear HC13
              by_cases c14 : (wrap64 (Go.bits .or .u64 (IntKind.u64.wrap ((IntKind.u64.wrap (a2)) * 4294967296)) (IntKind.u64.wrap (a1)))) = (-9223372036854775808)
              · rw [if_pos c14] at H
                have c14b0 : ((wrap64 (Go.bits .or .u64 (IntKind.u64.wrap ((IntKind.u64.wrap (a2)) * 4294967296)) (IntKind.u64.wrap (a1)))) == (-9223372036854775808)) = true := beq_iff_eq.mpr c14
                have c14b1 : ((wrap64 (Go.bits .or .u64 (IntKind.u64.wrap ((IntKind.u64.wrap (a2)) * 4294967296)) (IntKind.u64.wrap (a1)))) != (-9223372036854775808)) = false := bne_eq_false_iff_eq.mpr c14
                clear c14
                (first | rw [c14b0] | (simp only [i64_w, i32_w]; rw [c14b0]) | skip)
                have H' := Aside0.mk H
                clear H
                go_wp2
                repeat (go_quiet (fail); try go_wp2)
                go_meet
                case rel => exact ⟨_, (((wrap64 (wrap32 (a3))) == (-1))), (by first | rfl | (simp; done) | (simp [*]; done) | (simp <;> omega) | (simp [*] <;> omega)), H', ⟨by have := HJ4.out; first | omega | exact Nat.le_refl _⟩, by repeat (first | exact Drawn0.refl _ | apply Drawn0.step)⟩
              · rw [if_neg c14] at H
                have c14b0 : ((wrap64 (Go.bits .or .u64 (IntKind.u64.wrap ((IntKind.u64.wrap (a2)) * 4294967296)) (IntKind.u64.wrap (a1)))) == (-9223372036854775808)) = false := beq_eq_false_iff_ne.mpr c14
                have c14b1 : ((wrap64 (Go.bits .or .u64 (IntKind.u64.wrap ((IntKind.u64.wrap (a2)) * 4294967296)) (IntKind.u64.wrap (a1)))) != (-9223372036854775808)) = true := bne_iff_ne.mpr c14
                (first | rw [c14b0] | (simp only [i64_w, i32_w]; rw [c14b0]) | skip)
                have H' := Aside0.mk H
                clear H
                go_wp2
                repeat (go_quiet (fail); try go_wp2)
                go_meet
                case rel => exact ⟨_, (false), (by first | rfl | (simp; done) | (simp [*]; done) | (simp <;> omega) | (simp [*] <;> omega)), H', ⟨by have := HJ4.out; first | omega | exact Nat.le_refl _⟩, by repeat (first | exact Drawn0.refl _ | apply Drawn0.step)⟩
            case rest =>
              clear HC13
              try clear c1
              try clear p2
              try clear p3
              try clear c4
              try clear c6
              try clear c6b0
              try clear c6b1
              try clear p6
              try clear c7
              try clear c7b0
              try clear c7b1
              try clear c8
              try clear c9
              try clear c9b0
              try clear c9b1
              try clear c10
              try clear c10b0
              try clear c10b1
              try clear c11
              try clear c11b0
              try clear c14
              try clear c14b0
              try clear c14b1
              try clear p2
              obtain ⟨kq, x58_12, rfl, HA, HJ12, ⟨mc12, rfl⟩⟩ := hcut
              cases kq with
              | zero => exact absurd HA.out (by simp [cell_Wide.j1])
              | succ kj12 =>
                have H := HA.out
                clear HA
                simp only [cell_Wide.j1] at H
                by_cases c15 : x58_12 = true
                · subst c15
                  have H1 : (some (0, 0, 4)) = some (r1, r2, r3) := by rw [if_pos rfl] at H; exact H
                  clear H
                  have H := H1
                  clear H1
                  simp only [Option.some.injEq, Prod.mk.injEq] at H
                  obtain ⟨rfl, rfl, rfl⟩ := H
                  go_wp2
                  repeat (go_quiet (fail); try go_wp2)
                  go_ret3
                  exact ⟨by first | rfl | (simp; done) | (simp [*]; done) | (simp <;> omega) | (simp [*] <;> omega), by repeat (first | exact Drawn0.refl _ | apply Drawn0.step)⟩
                · replace c15 := Bool.eq_false_iff.mpr c15
                  subst c15
                  have H1 : (if (wrap64 (wrap32 (a3))) = 0 then (none) else (if a0 = 725 then (if (Int.tmod (wrap64 (Go.bits .or .u64 (IntKind.u64.wrap ((IntKind.u64.wrap (a2)) * 4294967296)) (IntKind.u64.wrap (a1)))) (wrap64 (wrap32 (a3)))) = 0 then (cell_Wide.j2 kj12 (wrap64 (wrap32 (a3))) (wrap64 (Int.tdiv (wrap64 (Go.bits .or .u64 (IntKind.u64.wrap ((IntKind.u64.wrap (a2)) * 4294967296)) (IntKind.u64.wrap (a1)))) (wrap64 (wrap32 (a3))))) (Int.tmod (wrap64 (Go.bits .or .u64 (IntKind.u64.wrap ((IntKind.u64.wrap (a2)) * 4294967296)) (IntKind.u64.wrap (a1)))) (wrap64 (wrap32 (a3)))) false) else (cell_Wide.j2 kj12 (wrap64 (wrap32 (a3))) (wrap64 (Int.tdiv (wrap64 (Go.bits .or .u64 (IntKind.u64.wrap ((IntKind.u64.wrap (a2)) * 4294967296)) (IntKind.u64.wrap (a1)))) (wrap64 (wrap32 (a3))))) (Int.tmod (wrap64 (Go.bits .or .u64 (IntKind.u64.wrap ((IntKind.u64.wrap (a2)) * 4294967296)) (IntKind.u64.wrap (a1)))) (wrap64 (wrap32 (a3)))) (decide ((Go.bits .xor .i64 (Int.tmod (wrap64 (Go.bits .or .u64 (IntKind.u64.wrap ((IntKind.u64.wrap (a2)) * 4294967296)) (IntKind.u64.wrap (a1)))) (wrap64 (wrap32 (a3)))) (wrap64 (wrap32 (a3)))) < 0)))) else (cell_Wide.j2 kj12 (wrap64 (wrap32 (a3))) (wrap64 (Int.tdiv (wrap64 (Go.bits .or .u64 (IntKind.u64.wrap ((IntKind.u64.wrap (a2)) * 4294967296)) (IntKind.u64.wrap (a1)))) (wrap64 (wrap32 (a3))))) (Int.tmod (wrap64 (Go.bits .or .u64 (IntKind.u64.wrap ((IntKind.u64.wrap (a2)) * 4294967296)) (IntKind.u64.wrap (a1)))) (wrap64 (wrap32 (a3)))) false))) = some (r1, r2, r3) := by rw [if_neg (show ¬ (false = true) by decide)] at H; exact H
                  clear H
                  have H := H1
                  clear H1
                  by_cases c16 : (wrap64 (wrap32 (a3))) = 0
                  · rw [if_pos c16] at H
                    exact absurd H (by simp)
                  · rw [if_neg c16] at H
                    have c16b0 : ((wrap64 (wrap32 (a3))) == 0) = false := beq_eq_false_iff_ne.mpr c16
                    have c16b1 : ((wrap64 (wrap32 (a3))) != 0) = true := bne_iff_ne.mpr c16
                    have HC17 := Aside0.mk H
                    clear H
                    go_upto_region 14 with (fail)
                    repeat (go_quiet (fail); go_upto_region 14 with (fail))
                    go_cut [76] (fun v76 wc => ∃ (kq : Nat) (x76_16 : Bool), v76 = .bool x76_16 ∧ Aside0 (cell_Wide.j2 kq (wrap64 (wrap32 (a3))) (wrap64 (Int.tdiv (wrap64 (Go.bits .or .u64 (IntKind.u64.wrap ((IntKind.u64.wrap (a2)) * 4294967296)) (IntKind.u64.wrap (a1)))) (wrap64 (wrap32 (a3))))) (Int.tmod (wrap64 (Go.bits .or .u64 (IntKind.u64.wrap ((IntKind.u64.wrap (a2)) * 4294967296)) (IntKind.u64.wrap (a1)))) (wrap64 (wrap32 (a3)))) x76_16 = some (r1, r2, r3)) ∧ Aside0 (kq ≤ kj12) ∧ Drawn0 w wc)
                    case first =>
                      have H := HC17.out
                      clear HC17
                      by_cases c18 : a0 = 725
                      · rw [if_pos c18] at H
                        have c18b0 : (a0 == 725) = true := beq_iff_eq.mpr c18
                        have c18b1 : (a0 != 725) = false := bne_eq_false_iff_eq.mpr c18
                        clear c18
                        (first | rw [c18b0] | (simp only [i64_w, i32_w]; rw [c18b0]) | skip)
                        by_cases c19 : (Int.tmod (wrap64 (Go.bits .or .u64 (IntKind.u64.wrap ((IntKind.u64.wrap (a2)) * 4294967296)) (IntKind.u64.wrap (a1)))) (wrap64 (wrap32 (a3)))) = 0
                        · rw [if_pos c19] at H
                          have c19b0 : ((Int.tmod (wrap64 (Go.bits .or .u64 (IntKind.u64.wrap ((IntKind.u64.wrap (a2)) * 4294967296)) (IntKind.u64.wrap (a1)))) (wrap64 (wrap32 (a3)))) == 0) = true := beq_iff_eq.mpr c19
                          have c19b1 : ((Int.tmod (wrap64 (Go.bits .or .u64 (IntKind.u64.wrap ((IntKind.u64.wrap (a2)) * 4294967296)) (IntKind.u64.wrap (a1)))) (wrap64 (wrap32 (a3)))) != 0) = false := bne_eq_false_iff_eq.mpr c19
                          clear c19
                          have H' := Aside0.mk H
                          clear H
                          go_wp2
                          repeat (go_quiet (fail); try go_wp2)
                          go_meet
                          case rel => exact ⟨_, (false), (by first | rfl | (simp; done) | (simp [*]; done) | (simp <;> omega) | (simp [*] <;> omega)), H', ⟨by have := HJ4.out; have := HJ12.out; first | omega | exact Nat.le_refl _⟩, by repeat (first | exact Drawn0.refl _ | apply Drawn0.step)⟩
                        · rw [if_neg c19] at H
                          have c19b0 : ((Int.tmod (wrap64 (Go.bits .or .u64 (IntKind.u64.wrap ((IntKind.u64.wrap (a2)) * 4294967296)) (IntKind.u64.wrap (a1)))) (wrap64 (wrap32 (a3)))) == 0) = false := beq_eq_false_iff_ne.mpr c19
                          have c19b1 : ((Int.tmod (wrap64 (Go.bits .or .u64 (IntKind.u64.wrap ((IntKind.u64.wrap (a2)) * 4294967296)) (IntKind.u64.wrap (a1)))) (wrap64 (wrap32 (a3)))) != 0) = true := bne_iff_ne.mpr c19
                          have H' := Aside0.mk H
                          clear H
                          go_wp2
                          repeat (go_quiet (fail); try go_wp2)
                          go_meet
                          case rel => exact ⟨_, (decide ((Go.bits .xor .i64 (Int.tmod (wrap64 (Go.bits .or .u64 (IntKind.u64.wrap ((IntKind.u64.wrap (a2)) * 4294967296)) (IntKind.u64.wrap (a1)))) (wrap64 (wrap32 (a3)))) (wrap64 (wrap32 (a3)))) < 0)), (by first | rfl | (simp; done) | (simp [*]; done) | (simp <;> omega) | (simp [*] <;> omega)), H', ⟨by have := HJ4.out; have := HJ12.out; first | omega | exact Nat.le_refl _⟩, by repeat (first | exact Drawn0.refl _ | apply Drawn0.step)⟩
                      · rw [if_neg c18] at H
                        have c18b0 : (a0 == 725) = false := beq_eq_false_iff_ne.mpr c18
                        have c18b1 : (a0 != 725) = true := bne_iff_ne.mpr c18
                        (first | rw [c18b0] | (simp only [i64_w, i32_w]; rw [c18b0]) | skip)
                        have H' := Aside0.mk H
                        clear H
                        go_wp2
                        repeat (go_quiet (fail); try go_wp2)
                        go_meet
                        case rel => exact ⟨_, (false), (by first | rfl | (simp; done) | (simp [*]; done) | (simp <;> omega) | (simp [*] <;> omega)), H', ⟨by have := HJ4.out; have := HJ12.out; first | omega | exact Nat.le_refl _⟩, by repeat (first | exact Drawn0.refl _ | apply Drawn0.step)⟩
                    case rest =>
                      clear HC17
                      try clear c1
                      try clear p2
                      try clear p3
                      try clear c4
                      try clear c6
                      try clear c6b0
                      try clear c6b1
                      try clear p6
                      try clear c7
                      try clear c7b0
                      try clear c7b1
                      try clear c8
                      try clear c9
                      try clear c9b0
                      try clear c9b1
                      try clear c10
                      try clear c10b0
                      try clear c10b1
                      try clear c11
                      try clear c11b0
                      try clear c12
                      try clear c14
                      try clear c14b0
                      try clear c14b1
                      try clear c15
                      try clear c16
                      try clear c16b0
                      try clear c16b1
                      try clear c18
                      try clear c18b0
                      try clear c18b1
                      try clear c19
                      try clear c19b0
                      try clear c19b1
                      try clear p2
                      try clear p3
                      try clear p6
                      obtain ⟨kq, x76_16, rfl, HA, HJ16, ⟨mc16, rfl⟩⟩ := hcut
                      cases kq with
                      | zero => exact absurd HA.out (by simp [cell_Wide.j2])
                      | succ kj16 =>
                        have H := HA.out
                        clear HA
                        simp only [cell_Wide.j2] at H
                        by_cases c20 : x76_16 = true
                        · subst c20
                          have H1 : (if (wrap64 ((wrap64 (Int.tdiv (wrap64 (Go.bits .or .u64 (IntKind.u64.wrap ((IntKind.u64.wrap (a2)) * 4294967296)) (IntKind.u64.wrap (a1)))) (wrap64 (wrap32 (a3))))) - 1)) = (wrap64 (wrap32 (wrap64 ((wrap64 (Int.tdiv (wrap64 (Go.bits .or .u64 (IntKind.u64.wrap ((IntKind.u64.wrap (a2)) * 4294967296)) (IntKind.u64.wrap (a1)))) (wrap64 (wrap32 (a3))))) - 1)))) then (some ((wrap64 ((wrap64 (Int.tdiv (wrap64 (Go.bits .or .u64 (IntKind.u64.wrap ((IntKind.u64.wrap (a2)) * 4294967296)) (IntKind.u64.wrap (a1)))) (wrap64 (wrap32 (a3))))) - 1)) % 4294967296, (wrap64 ((Int.tmod (wrap64 (Go.bits .or .u64 (IntKind.u64.wrap ((IntKind.u64.wrap (a2)) * 4294967296)) (IntKind.u64.wrap (a1)))) (wrap64 (wrap32 (a3)))) + (wrap64 (wrap32 (a3))))) % 4294967296, 0)) else (some (0, 0, 4))) = some (r1, r2, r3) := by rw [if_pos rfl] at H; exact H
                          clear H
                          have H := H1
                          clear H1
                          by_cases c21 : (wrap64 ((wrap64 (Int.tdiv (wrap64 (Go.bits .or .u64 (IntKind.u64.wrap ((IntKind.u64.wrap (a2)) * 4294967296)) (IntKind.u64.wrap (a1)))) (wrap64 (wrap32 (a3))))) - 1)) = (wrap64 (wrap32 (wrap64 ((wrap64 (Int.tdiv (wrap64 (Go.bits .or .u64 (IntKind.u64.wrap ((IntKind.u64.wrap (a2)) * 4294967296)) (IntKind.u64.wrap (a1)))) (wrap64 (wrap32 (a3))))) - 1))))
                          · rw [if_pos c21] at H
                            have c21b0 : ((wrap64 ((wrap64 (Int.tdiv (wrap64 (Go.bits .or .u64 (IntKind.u64.wrap ((IntKind.u64.wrap (a2)) * 4294967296)) (IntKind.u64.wrap (a1)))) (wrap64 (wrap32 (a3))))) - 1)) == (wrap64 (wrap32 (wrap64 ((wrap64 (Int.tdiv (wrap64 (Go.bits .or .u64 (IntKind.u64.wrap ((IntKind.u64.wrap (a2)) * 4294967296)) (IntKind.u64.wrap (a1)))) (wrap64 (wrap32 (a3))))) - 1))))) = true := beq_iff_eq.mpr c21
                            have c21b1 : ((wrap64 ((wrap64 (Int.tdiv (wrap64 (Go.bits .or .u64 (IntKind.u64.wrap ((IntKind.u64.wrap (a2)) * 4294967296)) (IntKind.u64.wrap (a1)))) (wrap64 (wrap32 (a3))))) - 1)) != (wrap64 (wrap32 (wrap64 ((wrap64 (Int.tdiv (wrap64 (Go.bits .or .u64 (IntKind.u64.wrap ((IntKind.u64.wrap (a2)) * 4294967296)) (IntKind.u64.wrap (a1)))) (wrap64 (wrap32 (a3))))) - 1))))) = false := bne_eq_false_iff_eq.mpr c21
                            clear c21
                            simp only [Option.some.injEq, Prod.mk.injEq] at H
                            obtain ⟨rfl, rfl, rfl⟩ := H
                            go_wp2
                            repeat (go_quiet (fail); try go_wp2)
                            go_ret3
                            exact ⟨by first | rfl | (simp; done) | (simp [*]; done) | (simp <;> omega) | (simp [*] <;> omega), by repeat (first | exact Drawn0.refl _ | apply Drawn0.step)⟩
                          · rw [if_neg c21] at H
                            have c21b0 : ((wrap64 ((wrap64 (Int.tdiv (wrap64 (Go.bits .or .u64 (IntKind.u64.wrap ((IntKind.u64.wrap (a2)) * 4294967296)) (IntKind.u64.wrap (a1)))) (wrap64 (wrap32 (a3))))) - 1)) == (wrap64 (wrap32 (wrap64 ((wrap64 (Int.tdiv (wrap64 (Go.bits .or .u64 (IntKind.u64.wrap ((IntKind.u64.wrap (a2)) * 4294967296)) (IntKind.u64.wrap (a1)))) (wrap64 (wrap32 (a3))))) - 1))))) = false := beq_eq_false_iff_ne.mpr c21
                            have c21b1 : ((wrap64 ((wrap64 (Int.tdiv (wrap64 (Go.bits .or .u64 (IntKind.u64.wrap ((IntKind.u64.wrap (a2)) * 4294967296)) (IntKind.u64.wrap (a1)))) (wrap64 (wrap32 (a3))))) - 1)) != (wrap64 (wrap32 (wrap64 ((wrap64 (Int.tdiv (wrap64 (Go.bits .or .u64 (IntKind.u64.wrap ((IntKind.u64.wrap (a2)) * 4294967296)) (IntKind.u64.wrap (a1)))) (wrap64 (wrap32 (a3))))) - 1))))) = true := bne_iff_ne.mpr c21
                            simp only [Option.some.injEq, Prod.mk.injEq] at H
                            obtain ⟨rfl, rfl, rfl⟩ := H
                            go_wp2
                            repeat (go_quiet (fail); try go_wp2)
                            go_ret3
                            exact ⟨by first | rfl | (simp; done) | (simp [*]; done) | (simp <;> omega) | (simp [*] <;> omega), by repeat (first | exact Drawn0.refl _ | apply Drawn0.step)⟩
                        · replace c20 := Bool.eq_false_iff.mpr c20
                          subst c20
                          have H1 : (if (wrap64 (Int.tdiv (wrap64 (Go.bits .or .u64 (IntKind.u64.wrap ((IntKind.u64.wrap (a2)) * 4294967296)) (IntKind.u64.wrap (a1)))) (wrap64 (wrap32 (a3))))) = (wrap64 (wrap32 ((wrap64 (Int.tdiv (wrap64 (Go.bits .or .u64 (IntKind.u64.wrap ((IntKind.u64.wrap (a2)) * 4294967296)) (IntKind.u64.wrap (a1)))) (wrap64 (wrap32 (a3)))))))) then (some (((wrap64 (Int.tdiv (wrap64 (Go.bits .or .u64 (IntKind.u64.wrap ((IntKind.u64.wrap (a2)) * 4294967296)) (IntKind.u64.wrap (a1)))) (wrap64 (wrap32 (a3)))))) % 4294967296, ((Int.tmod (wrap64 (Go.bits .or .u64 (IntKind.u64.wrap ((IntKind.u64.wrap (a2)) * 4294967296)) (IntKind.u64.wrap (a1)))) (wrap64 (wrap32 (a3))))) % 4294967296, 0)) else (some (0, 0, 4))) = some (r1, r2, r3) := by rw [if_neg (show ¬ (false = true) by decide)] at H; exact H
                          clear H
                          have H := H1
                          clear H1
                          by_cases c22 : (wrap64 (Int.tdiv (wrap64 (Go.bits .or .u64 (IntKind.u64.wrap ((IntKind.u64.wrap (a2)) * 4294967296)) (IntKind.u64.wrap (a1)))) (wrap64 (wrap32 (a3))))) = (wrap64 (wrap32 ((wrap64 (Int.tdiv (wrap64 (Go.bits .or .u64 (IntKind.u64.wrap ((IntKind.u64.wrap (a2)) * 4294967296)) (IntKind.u64.wrap (a1)))) (wrap64 (wrap32 (a3))))))))
                          · rw [if_pos c22] at H
                            have c22b0 : ((wrap64 (Int.tdiv (wrap64 (Go.bits .or .u64 (IntKind.u64.wrap ((IntKind.u64.wrap (a2)) * 4294967296)) (IntKind.u64.wrap (a1)))) (wrap64 (wrap32 (a3))))) == (wrap64 (wrap32 ((wrap64 (Int.tdiv (wrap64 (Go.bits .or .u64 (IntKind.u64.wrap ((IntKind.u64.wrap (a2)) * 4294967296)) (IntKind.u64.wrap (a1)))) (wrap64 (wrap32 (a3))))))))) = true := beq_iff_eq.mpr c22
                            have c22b1 : ((wrap64 (Int.tdiv (wrap64 (Go.bits .or .u64 (IntKind.u64.wrap ((IntKind.u64.wrap (a2)) * 4294967296)) (IntKind.u64.wrap (a1)))) (wrap64 (wrap32 (a3))))) != (wrap64 (wrap32 ((wrap64 (Int.tdiv (wrap64 (Go.bits .or .u64 (IntKind.u64.wrap ((IntKind.u64.wrap (a2)) * 4294967296)) (IntKind.u64.wrap (a1)))) (wrap64 (wrap32 (a3))))))))) = false := bne_eq_false_iff_eq.mpr c22
                            clear c22
                            simp only [Option.some.injEq, Prod.mk.injEq] at H
                            obtain ⟨rfl, rfl, rfl⟩ := H
                            go_wp2
                            repeat (go_quiet (fail); try go_wp2)
                            go_ret3
                            exact ⟨by first | rfl | (simp; done) | (simp [*]; done) | (simp <;> omega) | (simp [*] <;> omega), by repeat (first | exact Drawn0.refl _ | apply Drawn0.step)⟩
                          · rw [if_neg c22] at H
                            have c22b0 : ((wrap64 (Int.tdiv (wrap64 (Go.bits .or .u64 (IntKind.u64.wrap ((IntKind.u64.wrap (a2)) * 4294967296)) (IntKind.u64.wrap (a1)))) (wrap64 (wrap32 (a3))))) == (wrap64 (wrap32 ((wrap64 (Int.tdiv (wrap64 (Go.bits .or .u64 (IntKind.u64.wrap ((IntKind.u64.wrap (a2)) * 4294967296)) (IntKind.u64.wrap (a1)))) (wrap64 (wrap32 (a3))))))))) = false := beq_eq_false_iff_ne.mpr c22
                            have c22b1 : ((wrap64 (Int.tdiv (wrap64 (Go.bits .or .u64 (IntKind.u64.wrap ((IntKind.u64.wrap (a2)) * 4294967296)) (IntKind.u64.wrap (a1)))) (wrap64 (wrap32 (a3))))) != (wrap64 (wrap32 ((wrap64 (Int.tdiv (wrap64 (Go.bits .or .u64 (IntKind.u64.wrap ((IntKind.u64.wrap (a2)) * 4294967296)) (IntKind.u64.wrap (a1)))) (wrap64 (wrap32 (a3))))))))) = true := bne_iff_ne.mpr c22
                            simp only [Option.some.injEq, Prod.mk.injEq] at H
                            obtain ⟨rfl, rfl, rfl⟩ := H
                            go_wp2
                            repeat (go_quiet (fail); try go_wp2)
                            go_ret3
                            exact ⟨by first | rfl | (simp; done) | (simp [*]; done) | (simp <;> omega) | (simp [*] <;> omega), by repeat (first | exact Drawn0.refl _ | apply Drawn0.step)⟩

/-! ### tinderref01_Signed: function 17 -/
def tinderref01_Signed.f (a0 : Int) : Option (Int) := if a0 ≥ 2147483648 then (some (wrap64 ((wrap64 (a0)) - 4294967296))) else (some (wrap64 (a0)))
set_option maxHeartbeats 8000000 in
set_option maxRecDepth 100000 in
theorem tinderref01_Signed.calls (a0 : Int) (r : Int) (w : World) (h : tinderref01_Signed.f a0 = some r) :
    Calls Try.prog 17 #[.int .u32 a0] w fun e w' => e = .returned (.int .i64 r) ∧ Drawn0 w w' := by
  have H : (if a0 ≥ 2147483648 then (some (wrap64 ((wrap64 (a0)) - 4294967296))) else (some (wrap64 (a0)))) = some r := h
  clear h
  by_cases c2 : a0 ≥ 2147483648
  · rw [if_pos c2] at H
    have c2b0 : decide (2147483648 ≤ a0) = true := decide_eq_true c2
    clear c2
    obtain rfl := Option.some.inj H
    go_enter Try.func17, Try.ntmps17
    go_wp2
    go_ret
    exact ⟨by first | rfl | (simp; done) | (simp [*]; done) | (simp <;> omega) | (simp [*] <;> omega), by repeat (first | exact Drawn0.refl _ | apply Drawn0.step)⟩
  · rw [if_neg c2] at H
    have c2b0 : decide (2147483648 ≤ a0) = false := decide_eq_false c2
    clear c2
    obtain rfl := Option.some.inj H
    go_enter Try.func17, Try.ntmps17
    go_wp2
    go_ret
    exact ⟨by first | rfl | (simp; done) | (simp [*]; done) | (simp <;> omega) | (simp [*] <;> omega), by repeat (first | exact Drawn0.refl _ | apply Drawn0.step)⟩

/-! ### tinderref01_Cell: function 33 -/
def tinderref01_Cell.f (a0 : Int) : Option (Int) := some ((Int.tmod (IntKind.u64.wrap (a0)) 4294967296) % 4294967296)
set_option maxHeartbeats 8000000 in
set_option maxRecDepth 100000 in
theorem tinderref01_Cell.calls (a0 : Int) (r : Int) (w : World) (h : tinderref01_Cell.f a0 = some r) :
    Calls Try.prog 33 #[.int .i64 a0] w fun e w' => e = .returned (.int .u32 r) ∧ Drawn0 w w' := by
  have H : (some ((Int.tmod (IntKind.u64.wrap (a0)) 4294967296) % 4294967296)) = some r := h
  clear h
  obtain rfl := Option.some.inj H
  go_enter Try.func33, Try.ntmps33
  go_wp2
  go_ret
  exact ⟨by first | rfl | (simp; done) | (simp [*]; done) | (simp <;> omega) | (simp [*] <;> omega), by repeat (first | exact Drawn0.refl _ | apply Drawn0.step)⟩

end Go.Proofs.Ytdjpodpibkcnaab.QCellWides
