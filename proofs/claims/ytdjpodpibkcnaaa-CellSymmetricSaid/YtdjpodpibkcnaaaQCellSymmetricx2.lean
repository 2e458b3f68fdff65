-- written by a program of this session (xprint.py) out of the translation
import Derived.Test.YtdjpodpibkcnaaaQCellSymmetricx0
import Derived.Test.YtdjpodpibkcnaaaQCellSymmetricx1
namespace Go.Proofs.Ytdjpodpibkcnaaa.QCellSymmetric
open Go.RowKit Go.Proofs.YtdjpodpibkcnaaaW.PrintWords Go.Proofs.YtdjpodpibkcnaaaW.PrintLast Go.Proofs.YtdjpodpibkcnaaaW.PrintMore
attribute [local go_sem] max2_int min2_int max_two min_two max_three min_three max_four min_four   -- for this text's walks alone
set_option linter.unusedVariables false
set_option linter.unusedSimpArgs false

/-! ### cell_Wide: function 21 -/
mutual
def cell_Wide.j0 : Nat → Int → Int → Int → Int → Bool → Option (Int × Int × Int)
  | 0, _, _, _, _, _ => none
  | k + 1, x0, x1, x2, x3, x15 => if x15 = true then (some (0, 0, 2)) else (if x3 = 0 then (some (0, 0, 7)) else (if x0 = 213 then (if x2 ≥ x3 then (some (0, 0, 4)) else ((bits_Div32.f x2 x1 x3).bind fun bt119 => (some (bt119.1, bt119.2, 0)))) else (if (wrap64 (Go.bits .or .u64 (IntKind.u64.wrap ((IntKind.u64.wrap (x2)) * 4294967296)) (IntKind.u64.wrap (x1)))) = (-9223372036854775808) then (cell_Wide.j1 k x0 (wrap64 (Go.bits .or .u64 (IntKind.u64.wrap ((IntKind.u64.wrap (x2)) * 4294967296)) (IntKind.u64.wrap (x1)))) (wrap64 (wrap32 (x3))) ((wrap64 (wrap32 (x3))) == (-1))) else (cell_Wide.j1 k x0 (wrap64 (Go.bits .or .u64 (IntKind.u64.wrap ((IntKind.u64.wrap (x2)) * 4294967296)) (IntKind.u64.wrap (x1)))) (wrap64 (wrap32 (x3))) false))))
def cell_Wide.j1 : Nat → Int → Int → Int → Bool → Option (Int × Int × Int)
  | 0, _, _, _, _ => none
  | k + 1, x0, x11, x12, x58 => if x58 = true then (some (0, 0, 4)) else (if x12 = 0 then (none) else (if x0 = 725 then (if (Int.tmod x11 x12) = 0 then (cell_Wide.j2 k x12 (wrap64 (Int.tdiv x11 x12)) (Int.tmod x11 x12) false) else (cell_Wide.j2 k x12 (wrap64 (Int.tdiv x11 x12)) (Int.tmod x11 x12) (decide ((Go.bits .xor .i64 (Int.tmod x11 x12) x12) < 0)))) else (cell_Wide.j2 k x12 (wrap64 (Int.tdiv x11 x12)) (Int.tmod x11 x12) false)))
def cell_Wide.j2 : Nat → Int → Int → Int → Bool → Option (Int × Int × Int)
  | 0, _, _, _, _ => none
  | k + 1, x12, x13, x14, x76 => if x76 = true then (if (wrap64 (x13 - 1)) = (wrap64 (wrap32 (wrap64 (x13 - 1)))) then (some ((wrap64 (x13 - 1)) % 4294967296, (wrap64 (x14 + x12)) % 4294967296, 0)) else (some (0, 0, 4))) else (if x13 = (wrap64 (wrap32 (x13))) then (some ((x13) % 4294967296, (x14) % 4294967296, 0)) else (some (0, 0, 4)))
end
def cell_Wide.f (k : Nat) (a0 : Int) (a1 : Int) (a2 : Int) (a3 : Int) : Option (Int × Int × Int) := if a0 = 213 then (cell_Wide.j0 k a0 a1 a2 a3 false) else (if a0 = 469 then (cell_Wide.j0 k a0 a1 a2 a3 false) else (cell_Wide.j0 k a0 a1 a2 a3 (a0 != 725)))
theorem cell_Wide.mono_l : ∀ k, (∀ y0 y1 y2 y3 y4, LeO (cell_Wide.j0 k y0 y1 y2 y3 y4) (cell_Wide.j0 (k + 1) y0 y1 y2 y3 y4)) ∧ (∀ y0 y1 y2 y3, LeO (cell_Wide.j1 k y0 y1 y2 y3) (cell_Wide.j1 (k + 1) y0 y1 y2 y3)) ∧ (∀ y0 y1 y2 y3, LeO (cell_Wide.j2 k y0 y1 y2 y3) (cell_Wide.j2 (k + 1) y0 y1 y2 y3))
  | 0 => ⟨fun _ _ _ _ _ r h => by simp [cell_Wide.j0] at h, fun _ _ _ _ r h => by simp [cell_Wide.j1] at h, fun _ _ _ _ r h => by simp [cell_Wide.j2] at h⟩
  | k + 1 => by
    obtain ⟨ih0, ih1, ih2⟩ := cell_Wide.mono_l k
    refine ⟨?_, ?_, ?_⟩
    · intro y0 y1 y2 y3 y4
      unfold cell_Wide.j0
      repeat' first
      | (with_reducible exact ih0 _ _ _ _ _)
      | (with_reducible exact ih1 _ _ _ _)
      | (with_reducible exact ih2 _ _ _ _)
      | (with_reducible exact LeO.refl _)
      | (with_reducible exact LeO.none _)
      | (with_reducible refine LeO.ite ?_ ?_)
      | (with_reducible refine LeO.bind ?_ (fun _ => ?_))
      | exact ih0 _ _ _ _ _
      | exact ih1 _ _ _ _
      | exact ih2 _ _ _ _
      | exact LeO.none _
      | refine LeO.ite ?_ ?_
      | refine LeO.bind ?_ (fun _ => ?_)
    · intro y0 y1 y2 y3
      unfold cell_Wide.j1
      repeat' first
      | (with_reducible exact ih0 _ _ _ _ _)
      | (with_reducible exact ih1 _ _ _ _)
      | (with_reducible exact ih2 _ _ _ _)
      | (with_reducible exact LeO.refl _)
      | (with_reducible exact LeO.none _)
      | (with_reducible refine LeO.ite ?_ ?_)
      | (with_reducible refine LeO.bind ?_ (fun _ => ?_))
      | exact ih0 _ _ _ _ _
      | exact ih1 _ _ _ _
      | exact ih2 _ _ _ _
      | exact LeO.none _
      | refine LeO.ite ?_ ?_
      | refine LeO.bind ?_ (fun _ => ?_)
    · intro y0 y1 y2 y3
      unfold cell_Wide.j2
      repeat' first
      | (with_reducible exact ih0 _ _ _ _ _)
      | (with_reducible exact ih1 _ _ _ _)
      | (with_reducible exact ih2 _ _ _ _)
      | (with_reducible exact LeO.refl _)
      | (with_reducible exact LeO.none _)
      | (with_reducible refine LeO.ite ?_ ?_)
      | (with_reducible refine LeO.bind ?_ (fun _ => ?_))
      | exact ih0 _ _ _ _ _
      | exact ih1 _ _ _ _
      | exact ih2 _ _ _ _
      | exact LeO.none _
      | refine LeO.ite ?_ ?_
      | refine LeO.bind ?_ (fun _ => ?_)
theorem cell_Wide.mono : ∀ a0 a1 a2 a3 k, LeO (cell_Wide.f k a0 a1 a2 a3) (cell_Wide.f (k + 1) a0 a1 a2 a3) := by
  intro a0 a1 a2 a3 k
  obtain ⟨ih0, ih1, ih2⟩ := cell_Wide.mono_l k
  unfold cell_Wide.f
  repeat' first
      | (with_reducible exact ih0 _ _ _ _ _)
      | (with_reducible exact ih1 _ _ _ _)
      | (with_reducible exact ih2 _ _ _ _)
      | (with_reducible exact LeO.refl _)
      | (with_reducible exact LeO.none _)
      | (with_reducible refine LeO.ite ?_ ?_)
      | (with_reducible refine LeO.bind ?_ (fun _ => ?_))
      | exact ih0 _ _ _ _ _
      | exact ih1 _ _ _ _
      | exact ih2 _ _ _ _
      | exact LeO.none _
      | refine LeO.ite ?_ ?_
      | refine LeO.bind ?_ (fun _ => ?_)
set_option maxHeartbeats 8000000 in
set_option maxRecDepth 100000 in
theorem cell_Wide.calls (k : Nat) (a0 : Int) (a1 : Int) (a2 : Int) (a3 : Int) (r1 : Int) (r2 : Int) (r3 : Int) (w : World) (h : cell_Wide.f k a0 a1 a2 a3 = some (r1, r2, r3)) :
    Calls Try.prog 21 #[.int .i64 a0, .int .u32 a1, .int .u32 a2, .int .u32 a3] w fun e w' => e = .returned (.tuple #[.int .u32 r1, .int .u32 r2, .int .i64 r3]) ∧ Drawn0 w w' := by
  have H : (if a0 = 213 then (cell_Wide.j0 k a0 a1 a2 a3 false) else (if a0 = 469 then (cell_Wide.j0 k a0 a1 a2 a3 false) else (cell_Wide.j0 k a0 a1 a2 a3 (a0 != 725)))) = some (r1, r2, r3) := h
  clear h
  have HC5 := Aside0.mk H
  clear H
  go_enter Try.func21, Try.ntmps21
  go_upto_region 1 with (fail)
  repeat (go_quiet (fail); go_upto_region 1 with (fail))
  go_cut [15] (fun v15 wc => ∃ (kq : Nat) (x15_4 : Bool), v15 = .bool x15_4 ∧ Aside0 (cell_Wide.j0 kq a0 a1 a2 a3 x15_4 = some (r1, r2, r3)) ∧ Aside0 (kq ≤ k) ∧ Drawn0 w wc)
  case first =>
    have H := HC5.out
    clear HC5
    by_cases c6 : a0 = 213
    · rw [if_pos c6] at H
      have c6b0 : (a0 == 213) = true := beq_iff_eq.mpr c6
      have c6b1 : (a0 != 213) = false := bne_eq_false_iff_eq.mpr c6
      clear c6
      (first | rw [c6b0] | (simp only [i64_w, i32_w]; rw [c6b0]) | skip)
      have H' := Aside0.mk H
      clear H
      go_wp2
      repeat (go_quiet (fail); try go_wp2)
      go_meet
      case rel => exact ⟨_, (false), (by first | rfl | (simp; done) | (simp [*]; done)), H', ⟨by first | omega | exact Nat.le_refl _⟩, by repeat (first | exact Drawn0.refl _ | apply Drawn0.step)⟩
    · rw [if_neg c6] at H
      have c6b0 : (a0 == 213) = false := beq_eq_false_iff_ne.mpr c6
      have c6b1 : (a0 != 213) = true := bne_iff_ne.mpr c6
      (first | rw [c6b0] | (simp only [i64_w, i32_w]; rw [c6b0]) | skip)
      by_cases c7 : a0 = 469
      · rw [if_pos c7] at H
        have c7b0 : (a0 == 469) = true := beq_iff_eq.mpr c7
        have c7b1 : (a0 != 469) = false := bne_eq_false_iff_eq.mpr c7
        clear c7
        have H' := Aside0.mk H
        clear H
        go_wp2
        repeat (go_quiet (fail); try go_wp2)
        go_meet
        case rel => exact ⟨_, (false), (by first | rfl | (simp; done) | (simp [*]; done)), H', ⟨by first | omega | exact Nat.le_refl _⟩, by repeat (first | exact Drawn0.refl _ | apply Drawn0.step)⟩
      · rw [if_neg c7] at H
        have c7b0 : (a0 == 469) = false := beq_eq_false_iff_ne.mpr c7
        have c7b1 : (a0 != 469) = true := bne_iff_ne.mpr c7
        have H' := Aside0.mk H
        clear H
        go_wp2
        repeat (go_quiet (fail); try go_wp2)
        go_meet
        case rel => exact ⟨_, ((a0 != 725)), (by first | rfl | (simp; done) | (simp [*]; done)), H', ⟨by first | omega | exact Nat.le_refl _⟩, by repeat (first | exact Drawn0.refl _ | apply Drawn0.step)⟩
  case rest =>
    clear HC5
    try clear c2
    try clear p2
    try clear c6
    try clear c6b0
    try clear c6b1
    try clear c7
    try clear c7b0
    try clear c7b1
    obtain ⟨kq, x15_4, rfl, HA, HJ4, ⟨mc4, rfl⟩⟩ := hcut
    cases kq with
    | zero => exact absurd HA.out (by simp [cell_Wide.j0])
    | succ kj4 =>
      have H := HA.out
      clear HA
      simp only [cell_Wide.j0] at H
      by_cases c8 : x15_4 = true
      · subst c8
        have H1 : (some (0, 0, 2)) = some (r1, r2, r3) := by rw [if_pos rfl] at H; exact H
        clear H
        have H := H1
        clear H1
        simp only [Option.some.injEq, Prod.mk.injEq] at H
        obtain ⟨rfl, rfl, rfl⟩ := H
        go_wp2
        repeat (go_quiet (fail); try go_wp2)
        go_ret3
        exact ⟨by first | rfl | (simp; done) | (simp [*]; done), by repeat (first | exact Drawn0.refl _ | apply Drawn0.step)⟩
      · replace c8 := Bool.eq_false_iff.mpr c8
        subst c8
        have H1 : (if a3 = 0 then (some (0, 0, 7)) else (if a0 = 213 then (if a2 ≥ a3 then (some (0, 0, 4)) else ((bits_Div32.f a2 a1 a3).bind fun bt119 => (some (bt119.1, bt119.2, 0)))) else (if (wrap64 (Go.bits .or .u64 (IntKind.u64.wrap ((IntKind.u64.wrap (a2)) * 4294967296)) (IntKind.u64.wrap (a1)))) = (-9223372036854775808) then (cell_Wide.j1 kj4 a0 (wrap64 (Go.bits .or .u64 (IntKind.u64.wrap ((IntKind.u64.wrap (a2)) * 4294967296)) (IntKind.u64.wrap (a1)))) (wrap64 (wrap32 (a3))) ((wrap64 (wrap32 (a3))) == (-1))) else (cell_Wide.j1 kj4 a0 (wrap64 (Go.bits .or .u64 (IntKind.u64.wrap ((IntKind.u64.wrap (a2)) * 4294967296)) (IntKind.u64.wrap (a1)))) (wrap64 (wrap32 (a3))) false)))) = some (r1, r2, r3) := by rw [if_neg (show ¬ (false = true) by decide)] at H; exact H
        clear H
        have H := H1
        clear H1
        by_cases c9 : a3 = 0
        · rw [if_pos c9] at H
          have c9b0 : (a3 == 0) = true := beq_iff_eq.mpr c9
          have c9b1 : (a3 != 0) = false := bne_eq_false_iff_eq.mpr c9
          clear c9
          simp only [Option.some.injEq, Prod.mk.injEq] at H
          obtain ⟨rfl, rfl, rfl⟩ := H
          go_wp2
          repeat (go_quiet (fail); try go_wp2)
          go_ret3
          exact ⟨by first | rfl | (simp; done) | (simp [*]; done), by repeat (first | exact Drawn0.refl _ | apply Drawn0.step)⟩
        · rw [if_neg c9] at H
          have c9b0 : (a3 == 0) = false := beq_eq_false_iff_ne.mpr c9
          have c9b1 : (a3 != 0) = true := bne_iff_ne.mpr c9
          by_cases c10 : a0 = 213
          · rw [if_pos c10] at H
            have c10b0 : (a0 == 213) = true := beq_iff_eq.mpr c10
            have c10b1 : (a0 != 213) = false := bne_eq_false_iff_eq.mpr c10
            clear c10
            by_cases c11 : a2 ≥ a3
            · rw [if_pos c11] at H
              have c11b0 : decide (a3 ≤ a2) = true := decide_eq_true c11
              clear c11
              simp only [Option.some.injEq, Prod.mk.injEq] at H
              obtain ⟨rfl, rfl, rfl⟩ := H
              go_wp2
              repeat (go_quiet (fail); try go_wp2)
              go_ret3
              exact ⟨by first | rfl | (simp; done) | (simp [*]; done), by repeat (first | exact Drawn0.refl _ | apply Drawn0.step)⟩
            · rw [if_neg c11] at H
              have c11b0 : decide (a3 ≤ a2) = false := decide_eq_false c11
              clear c11
              replace H := Option.bind_eq_some_iff.mp H
              obtain ⟨⟨t119, t120⟩, A120, H⟩ := H
              replace H : (some (t119, t120, 0)) = some (r1, r2, r3) := H
              have A12 := Aside0.mk A120
              clear A120
              simp only [Option.some.injEq, Prod.mk.injEq] at H
              obtain ⟨rfl, rfl, rfl⟩ := H
              go_wp2_with (first | (go_at_call 31; (with_reducible refine (bits_Div32.calls a2 a1 a3 t119 t120 _ A12.out).mono ?_); rintro e w' ⟨rfl, ⟨nd, rfl⟩⟩; (try first | exact ⟨rfl, _, World.drewN_drewN _ _ _⟩ | exact ⟨rfl, _, Eq.trans (World.drewN_drewN _ _ _) (congrArg (World.drewN _) (Nat.add_assoc _ _ _))⟩)))
              repeat (go_quiet (first | (go_at_call 31; (with_reducible refine (bits_Div32.calls a2 a1 a3 t119 t120 _ A12.out).mono ?_); rintro e w' ⟨rfl, ⟨nd, rfl⟩⟩; (try first | exact ⟨rfl, _, World.drewN_drewN _ _ _⟩ | exact ⟨rfl, _, Eq.trans (World.drewN_drewN _ _ _) (congrArg (World.drewN _) (Nat.add_assoc _ _ _))⟩))); try go_wp2_with (first | (go_at_call 31; (with_reducible refine (bits_Div32.calls a2 a1 a3 t119 t120 _ A12.out).mono ?_); rintro e w' ⟨rfl, ⟨nd, rfl⟩⟩; (try first | exact ⟨rfl, _, World.drewN_drewN _ _ _⟩ | exact ⟨rfl, _, Eq.trans (World.drewN_drewN _ _ _) (congrArg (World.drewN _) (Nat.add_assoc _ _ _))⟩))))
              go_ret3
              exact ⟨by first | rfl | (simp; done) | (simp [*]; done), by repeat (first | exact Drawn0.refl _ | apply Drawn0.step)⟩
          · rw [if_neg c10] at H
            have c10b0 : (a0 == 213) = false := beq_eq_false_iff_ne.mpr c10
            have c10b1 : (a0 != 213) = true := bne_iff_ne.mpr c10
            have HC13 := Aside0.mk H
            clear H
            go_upto_region 11 with (fail)
            repeat (go_quiet (fail); go_upto_region 11 with (fail))
            go_cut [58] (fun v58 wc => ∃ (kq : Nat) (x58_12 : Bool), v58 = .bool x58_12 ∧ Aside0 (cell_Wide.j1 kq a0 (wrap64 (Go.bits .or .u64 (IntKind.u64.wrap ((IntKind.u64.wrap (a2)) * 4294967296)) (IntKind.u64.wrap (a1)))) (wrap64 (wrap32 (a3))) x58_12 = some (r1, r2, r3)) ∧ Aside0 (kq ≤ kj4) ∧ Drawn0 w wc)
            case first =>
              have H := HC13.out
              clear HC13
              by_cases c14 : (wrap64 (Go.bits .or .u64 (IntKind.u64.wrap ((IntKind.u64.wrap (a2)) * 4294967296)) (IntKind.u64.wrap (a1)))) = (-9223372036854775808)
              · rw [if_pos c14] at H
                have c14b0 : ((wrap64 (Go.bits .or .u64 (IntKind.u64.wrap ((IntKind.u64.wrap (a2)) * 4294967296)) (IntKind.u64.wrap (a1)))) == (-9223372036854775808)) = true := beq_iff_eq.mpr c14
                have c14b1 : ((wrap64 (Go.bits .or .u64 (IntKind.u64.wrap ((IntKind.u64.wrap (a2)) * 4294967296)) (IntKind.u64.wrap (a1)))) != (-9223372036854775808)) = false := bne_eq_false_iff_eq.mpr c14
                clear c14
                (first | rw [c14b0] | (simp only [i64_w, i32_w]; rw [c14b0]) | skip)
                have H' := Aside0.mk H
                clear H
                go_wp2
                repeat (go_quiet (fail); try go_wp2)
                go_meet
                case rel => exact ⟨_, (((wrap64 (wrap32 (a3))) == (-1))), (by first | rfl | (simp; done) | (simp [*]; done)), H', ⟨by have := HJ4.out; first | omega | exact Nat.le_refl _⟩, by repeat (first | exact Drawn0.refl _ | apply Drawn0.step)⟩
              · rw [if_neg c14] at H
                have c14b0 : ((wrap64 (Go.bits .or .u64 (IntKind.u64.wrap ((IntKind.u64.wrap (a2)) * 4294967296)) (IntKind.u64.wrap (a1)))) == (-9223372036854775808)) = false := beq_eq_false_iff_ne.mpr c14
                have c14b1 : ((wrap64 (Go.bits .or .u64 (IntKind.u64.wrap ((IntKind.u64.wrap (a2)) * 4294967296)) (IntKind.u64.wrap (a1)))) != (-9223372036854775808)) = true := bne_iff_ne.mpr c14
                (first | rw [c14b0] | (simp only [i64_w, i32_w]; rw [c14b0]) | skip)
                have H' := Aside0.mk H
                clear H
                go_wp2
                repeat (go_quiet (fail); try go_wp2)
                go_meet
                case rel => exact ⟨_, (false), (by first | rfl | (simp; done) | (simp [*]; done)), H', ⟨by have := HJ4.out; first | omega | exact Nat.le_refl _⟩, by repeat (first | exact Drawn0.refl _ | apply Drawn0.step)⟩
            case rest =>
              clear HC13
              try clear c1
              try clear c2
              try clear p2
              try clear p3
              try clear c4
              try clear c6
              try clear c6b0
              try clear c6b1
              try clear p6
              try clear c7
              try clear c7b0
              try clear c7b1
              try clear c8
              try clear c9
              try clear c9b0
              try clear c9b1
              try clear c10
              try clear c10b0
              try clear c10b1
              try clear c11
              try clear c11b0
              try clear c14
              try clear c14b0
              try clear c14b1
              try clear p2
              obtain ⟨kq, x58_12, rfl, HA, HJ12, ⟨mc12, rfl⟩⟩ := hcut
              cases kq with
              | zero => exact absurd HA.out (by simp [cell_Wide.j1])
              | succ kj12 =>
                have H := HA.out
                clear HA
                simp only [cell_Wide.j1] at H
                by_cases c15 : x58_12 = true
                · subst c15
                  have H1 : (some (0, 0, 4)) = some (r1, r2, r3) := by rw [if_pos rfl] at H; exact H
                  clear H
                  have H := H1
                  clear H1
                  simp only [Option.some.injEq, Prod.mk.injEq] at H
                  obtain ⟨rfl, rfl, rfl⟩ := H
                  go_wp2
                  repeat (go_quiet (fail); try go_wp2)
                  go_ret3
                  exact ⟨by first | rfl | (simp; done) | (simp [*]; done), by repeat (first | exact Drawn0.refl _ | apply Drawn0.step)⟩
                · replace c15 := Bool.eq_false_iff.mpr c15
                  subst c15
                  have H1 : (if (wrap64 (wrap32 (a3))) = 0 then (none) else (if a0 = 725 then (if (Int.tmod (wrap64 (Go.bits .or .u64 (IntKind.u64.wrap ((IntKind.u64.wrap (a2)) * 4294967296)) (IntKind.u64.wrap (a1)))) (wrap64 (wrap32 (a3)))) = 0 then (cell_Wide.j2 kj12 (wrap64 (wrap32 (a3))) (wrap64 (Int.tdiv (wrap64 (Go.bits .or .u64 (IntKind.u64.wrap ((IntKind.u64.wrap (a2)) * 4294967296)) (IntKind.u64.wrap (a1)))) (wrap64 (wrap32 (a3))))) (Int.tmod (wrap64 (Go.bits .or .u64 (IntKind.u64.wrap ((IntKind.u64.wrap (a2)) * 4294967296)) (IntKind.u64.wrap (a1)))) (wrap64 (wrap32 (a3)))) false) else (cell_Wide.j2 kj12 (wrap64 (wrap32 (a3))) (wrap64 (Int.tdiv (wrap64 (Go.bits .or .u64 (IntKind.u64.wrap ((IntKind.u64.wrap (a2)) * 4294967296)) (IntKind.u64.wrap (a1)))) (wrap64 (wrap32 (a3))))) (Int.tmod (wrap64 (Go.bits .or .u64 (IntKind.u64.wrap ((IntKind.u64.wrap (a2)) * 4294967296)) (IntKind.u64.wrap (a1)))) (wrap64 (wrap32 (a3)))) (decide ((Go.bits .xor .i64 (Int.tmod (wrap64 (Go.bits .or .u64 (IntKind.u64.wrap ((IntKind.u64.wrap (a2)) * 4294967296)) (IntKind.u64.wrap (a1)))) (wrap64 (wrap32 (a3)))) (wrap64 (wrap32 (a3)))) < 0)))) else (cell_Wide.j2 kj12 (wrap64 (wrap32 (a3))) (wrap64 (Int.tdiv (wrap64 (Go.bits .or .u64 (IntKind.u64.wrap ((IntKind.u64.wrap (a2)) * 4294967296)) (IntKind.u64.wrap (a1)))) (wrap64 (wrap32 (a3))))) (Int.tmod (wrap64 (Go.bits .or .u64 (IntKind.u64.wrap ((IntKind.u64.wrap (a2)) * 4294967296)) (IntKind.u64.wrap (a1)))) (wrap64 (wrap32 (a3)))) false))) = some (r1, r2, r3) := by rw [if_neg (show ¬ (false = true) by decide)] at H; exact H
                  clear H
                  have H := H1
                  clear H1
                  by_cases c16 : (wrap64 (wrap32 (a3))) = 0
                  · rw [if_pos c16] at H
                    exact absurd H (by simp)
                  · rw [if_neg c16] at H
                    have c16b0 : ((wrap64 (wrap32 (a3))) == 0) = false := beq_eq_false_iff_ne.mpr c16
                    have c16b1 : ((wrap64 (wrap32 (a3))) != 0) = true := bne_iff_ne.mpr c16
                    have HC17 := Aside0.mk H
                    clear H
                    go_upto_region 14 with (fail)
                    repeat (go_quiet (fail); go_upto_region 14 with (fail))
                    go_cut [76] (fun v76 wc => ∃ (kq : Nat) (x76_16 : Bool), v76 = .bool x76_16 ∧ Aside0 (cell_Wide.j2 kq (wrap64 (wrap32 (a3))) (wrap64 (Int.tdiv (wrap64 (Go.bits .or .u64 (IntKind.u64.wrap ((IntKind.u64.wrap (a2)) * 4294967296)) (IntKind.u64.wrap (a1)))) (wrap64 (wrap32 (a3))))) (Int.tmod (wrap64 (Go.bits .or .u64 (IntKind.u64.wrap ((IntKind.u64.wrap (a2)) * 4294967296)) (IntKind.u64.wrap (a1)))) (wrap64 (wrap32 (a3)))) x76_16 = some (r1, r2, r3)) ∧ Aside0 (kq ≤ kj12) ∧ Drawn0 w wc)
                    case first =>
                      have H := HC17.out
                      clear HC17
                      by_cases c18 : a0 = 725
                      · rw [if_pos c18] at H
                        have c18b0 : (a0 == 725) = true := beq_iff_eq.mpr c18
                        have c18b1 : (a0 != 725) = false := bne_eq_false_iff_eq.mpr c18
                        clear c18
                        (first | rw [c18b0] | (simp only [i64_w, i32_w]; rw [c18b0]) | skip)
                        by_cases c19 : (Int.tmod (wrap64 (Go.bits .or .u64 (IntKind.u64.wrap ((IntKind.u64.wrap (a2)) * 4294967296)) (IntKind.u64.wrap (a1)))) (wrap64 (wrap32 (a3)))) = 0
                        · rw [if_pos c19] at H
                          have c19b0 : ((Int.tmod (wrap64 (Go.bits .or .u64 (IntKind.u64.wrap ((IntKind.u64.wrap (a2)) * 4294967296)) (IntKind.u64.wrap (a1)))) (wrap64 (wrap32 (a3)))) == 0) = true := beq_iff_eq.mpr c19
                          have c19b1 : ((Int.tmod (wrap64 (Go.bits .or .u64 (IntKind.u64.wrap ((IntKind.u64.wrap (a2)) * 4294967296)) (IntKind.u64.wrap (a1)))) (wrap64 (wrap32 (a3)))) != 0) = false := bne_eq_false_iff_eq.mpr c19
                          clear c19
                          have H' := Aside0.mk H
                          clear H
                          go_wp2
                          repeat (go_quiet (fail); try go_wp2)
                          go_meet
                          case rel => exact ⟨_, (false), (by first | rfl | (simp; done) | (simp [*]; done)), H', ⟨by have := HJ4.out; have := HJ12.out; first | omega | exact Nat.le_refl _⟩, by repeat (first | exact Drawn0.refl _ | apply Drawn0.step)⟩
                        · rw [if_neg c19] at H
                          have c19b0 : ((Int.tmod (wrap64 (Go.bits .or .u64 (IntKind.u64.wrap ((IntKind.u64.wrap (a2)) * 4294967296)) (IntKind.u64.wrap (a1)))) (wrap64 (wrap32 (a3)))) == 0) = false := beq_eq_false_iff_ne.mpr c19
                          have c19b1 : ((Int.tmod (wrap64 (Go.bits .or .u64 (IntKind.u64.wrap ((IntKind.u64.wrap (a2)) * 4294967296)) (IntKind.u64.wrap (a1)))) (wrap64 (wrap32 (a3)))) != 0) = true := bne_iff_ne.mpr c19
                          have H' := Aside0.mk H
                          clear H
                          go_wp2
                          repeat (go_quiet (fail); try go_wp2)
                          go_meet
                          case rel => exact ⟨_, (decide ((Go.bits .xor .i64 (Int.tmod (wrap64 (Go.bits .or .u64 (IntKind.u64.wrap ((IntKind.u64.wrap (a2)) * 4294967296)) (IntKind.u64.wrap (a1)))) (wrap64 (wrap32 (a3)))) (wrap64 (wrap32 (a3)))) < 0)), (by first | rfl | (simp; done) | (simp [*]; done)), H', ⟨by have := HJ4.out; have := HJ12.out; first | omega | exact Nat.le_refl _⟩, by repeat (first | exact Drawn0.refl _ | apply Drawn0.step)⟩
                      · rw [if_neg c18] at H
                        have c18b0 : (a0 == 725) = false := beq_eq_false_iff_ne.mpr c18
                        have c18b1 : (a0 != 725) = true := bne_iff_ne.mpr c18
                        (first | rw [c18b0] | (simp only [i64_w, i32_w]; rw [c18b0]) | skip)
                        have H' := Aside0.mk H
                        clear H
                        go_wp2
                        repeat (go_quiet (fail); try go_wp2)
                        go_meet
                        case rel => exact ⟨_, (false), (by first | rfl | (simp; done) | (simp [*]; done)), H', ⟨by have := HJ4.out; have := HJ12.out; first | omega | exact Nat.le_refl _⟩, by repeat (first | exact Drawn0.refl _ | apply Drawn0.step)⟩
                    case rest =>
                      clear HC17
                      try clear c1
                      try clear c2
                      try clear p2
                      try clear p3
                      try clear c4
                      try clear c6
                      try clear c6b0
                      try clear c6b1
                      try clear p6
                      try clear c7
                      try clear c7b0
                      try clear c7b1
                      try clear c8
                      try clear c9
                      try clear c9b0
                      try clear c9b1
                      try clear c10
                      try clear c10b0
                      try clear c10b1
                      try clear c11
                      try clear c11b0
                      try clear c12
                      try clear c14
                      try clear c14b0
                      try clear c14b1
                      try clear c15
                      try clear c16
                      try clear c16b0
                      try clear c16b1
                      try clear c18
                      try clear c18b0
                      try clear c18b1
                      try clear c19
                      try clear c19b0
                      try clear c19b1
                      try clear p2
                      try clear p3
                      try clear p6
                      obtain ⟨kq, x76_16, rfl, HA, HJ16, ⟨mc16, rfl⟩⟩ := hcut
                      cases kq with
                      | zero => exact absurd HA.out (by simp [cell_Wide.j2])
                      | succ kj16 =>
                        have H := HA.out
                        clear HA
                        simp only [cell_Wide.j2] at H
                        by_cases c20 : x76_16 = true
                        · subst c20
                          have H1 : (if (wrap64 ((wrap64 (Int.tdiv (wrap64 (Go.bits .or .u64 (IntKind.u64.wrap ((IntKind.u64.wrap (a2)) * 4294967296)) (IntKind.u64.wrap (a1)))) (wrap64 (wrap32 (a3))))) - 1)) = (wrap64 (wrap32 (wrap64 ((wrap64 (Int.tdiv (wrap64 (Go.bits .or .u64 (IntKind.u64.wrap ((IntKind.u64.wrap (a2)) * 4294967296)) (IntKind.u64.wrap (a1)))) (wrap64 (wrap32 (a3))))) - 1)))) then (some ((wrap64 ((wrap64 (Int.tdiv (wrap64 (Go.bits .or .u64 (IntKind.u64.wrap ((IntKind.u64.wrap (a2)) * 4294967296)) (IntKind.u64.wrap (a1)))) (wrap64 (wrap32 (a3))))) - 1)) % 4294967296, (wrap64 ((Int.tmod (wrap64 (Go.bits .or .u64 (IntKind.u64.wrap ((IntKind.u64.wrap (a2)) * 4294967296)) (IntKind.u64.wrap (a1)))) (wrap64 (wrap32 (a3)))) + (wrap64 (wrap32 (a3))))) % 4294967296, 0)) else (some (0, 0, 4))) = some (r1, r2, r3) := by rw [if_pos rfl] at H; exact H
                          clear H
                          have H := H1
                          clear H1
                          by_cases c21 : (wrap64 ((wrap64 (Int.tdiv (wrap64 (Go.bits .or .u64 (IntKind.u64.wrap ((IntKind.u64.wrap (a2)) * 4294967296)) (IntKind.u64.wrap (a1)))) (wrap64 (wrap32 (a3))))) - 1)) = (wrap64 (wrap32 (wrap64 ((wrap64 (Int.tdiv (wrap64 (Go.bits .or .u64 (IntKind.u64.wrap ((IntKind.u64.wrap (a2)) * 4294967296)) (IntKind.u64.wrap (a1)))) (wrap64 (wrap32 (a3))))) - 1))))
                          · rw [if_pos c21] at H
                            have c21b0 : ((wrap64 ((wrap64 (Int.tdiv (wrap64 (Go.bits .or .u64 (IntKind.u64.wrap ((IntKind.u64.wrap (a2)) * 4294967296)) (IntKind.u64.wrap (a1)))) (wrap64 (wrap32 (a3))))) - 1)) == (wrap64 (wrap32 (wrap64 ((wrap64 (Int.tdiv (wrap64 (Go.bits .or .u64 (IntKind.u64.wrap ((IntKind.u64.wrap (a2)) * 4294967296)) (IntKind.u64.wrap (a1)))) (wrap64 (wrap32 (a3))))) - 1))))) = true := beq_iff_eq.mpr c21
                            have c21b1 : ((wrap64 ((wrap64 (Int.tdiv (wrap64 (Go.bits .or .u64 (IntKind.u64.wrap ((IntKind.u64.wrap (a2)) * 4294967296)) (IntKind.u64.wrap (a1)))) (wrap64 (wrap32 (a3))))) - 1)) != (wrap64 (wrap32 (wrap64 ((wrap64 (Int.tdiv (wrap64 (Go.bits .or .u64 (IntKind.u64.wrap ((IntKind.u64.wrap (a2)) * 4294967296)) (IntKind.u64.wrap (a1)))) (wrap64 (wrap32 (a3))))) - 1))))) = false := bne_eq_false_iff_eq.mpr c21
                            clear c21
                            simp only [Option.some.injEq, Prod.mk.injEq] at H
                            obtain ⟨rfl, rfl, rfl⟩ := H
                            go_wp2
                            repeat (go_quiet (fail); try go_wp2)
                            go_ret3
                            exact ⟨by first | rfl | (simp; done) | (simp [*]; done), by repeat (first | exact Drawn0.refl _ | apply Drawn0.step)⟩
                          · rw [if_neg c21] at H
                            have c21b0 : ((wrap64 ((wrap64 (Int.tdiv (wrap64 (Go.bits .or .u64 (IntKind.u64.wrap ((IntKind.u64.wrap (a2)) * 4294967296)) (IntKind.u64.wrap (a1)))) (wrap64 (wrap32 (a3))))) - 1)) == (wrap64 (wrap32 (wrap64 ((wrap64 (Int.tdiv (wrap64 (Go.bits .or .u64 (IntKind.u64.wrap ((IntKind.u64.wrap (a2)) * 4294967296)) (IntKind.u64.wrap (a1)))) (wrap64 (wrap32 (a3))))) - 1))))) = false := beq_eq_false_iff_ne.mpr c21
                            have c21b1 : ((wrap64 ((wrap64 (Int.tdiv (wrap64 (Go.bits .or .u64 (IntKind.u64.wrap ((IntKind.u64.wrap (a2)) * 4294967296)) (IntKind.u64.wrap (a1)))) (wrap64 (wrap32 (a3))))) - 1)) != (wrap64 (wrap32 (wrap64 ((wrap64 (Int.tdiv (wrap64 (Go.bits .or .u64 (IntKind.u64.wrap ((IntKind.u64.wrap (a2)) * 4294967296)) (IntKind.u64.wrap (a1)))) (wrap64 (wrap32 (a3))))) - 1))))) = true := bne_iff_ne.mpr c21
                            simp only [Option.some.injEq, Prod.mk.injEq] at H
                            obtain ⟨rfl, rfl, rfl⟩ := H
                            go_wp2
                            repeat (go_quiet (fail); try go_wp2)
                            go_ret3
                            exact ⟨by first | rfl | (simp; done) | (simp [*]; done), by repeat (first | exact Drawn0.refl _ | apply Drawn0.step)⟩
                        · replace c20 := Bool.eq_false_iff.mpr c20
                          subst c20
                          have H1 : (if (wrap64 (Int.tdiv (wrap64 (Go.bits .or .u64 (IntKind.u64.wrap ((IntKind.u64.wrap (a2)) * 4294967296)) (IntKind.u64.wrap (a1)))) (wrap64 (wrap32 (a3))))) = (wrap64 (wrap32 ((wrap64 (Int.tdiv (wrap64 (Go.bits .or .u64 (IntKind.u64.wrap ((IntKind.u64.wrap (a2)) * 4294967296)) (IntKind.u64.wrap (a1)))) (wrap64 (wrap32 (a3)))))))) then (some (((wrap64 (Int.tdiv (wrap64 (Go.bits .or .u64 (IntKind.u64.wrap ((IntKind.u64.wrap (a2)) * 4294967296)) (IntKind.u64.wrap (a1)))) (wrap64 (wrap32 (a3)))))) % 4294967296, ((Int.tmod (wrap64 (Go.bits .or .u64 (IntKind.u64.wrap ((IntKind.u64.wrap (a2)) * 4294967296)) (IntKind.u64.wrap (a1)))) (wrap64 (wrap32 (a3))))) % 4294967296, 0)) else (some (0, 0, 4))) = some (r1, r2, r3) := by rw [if_neg (show ¬ (false = true) by decide)] at H; exact H
                          clear H
                          have H := H1
                          clear H1
                          by_cases c22 : (wrap64 (Int.tdiv (wrap64 (Go.bits .or .u64 (IntKind.u64.wrap ((IntKind.u64.wrap (a2)) * 4294967296)) (IntKind.u64.wrap (a1)))) (wrap64 (wrap32 (a3))))) = (wrap64 (wrap32 ((wrap64 (Int.tdiv (wrap64 (Go.bits .or .u64 (IntKind.u64.wrap ((IntKind.u64.wrap (a2)) * 4294967296)) (IntKind.u64.wrap (a1)))) (wrap64 (wrap32 (a3))))))))
                          · rw [if_pos c22] at H
                            have c22b0 : ((wrap64 (Int.tdiv (wrap64 (Go.bits .or .u64 (IntKind.u64.wrap ((IntKind.u64.wrap (a2)) * 4294967296)) (IntKind.u64.wrap (a1)))) (wrap64 (wrap32 (a3))))) == (wrap64 (wrap32 ((wrap64 (Int.tdiv (wrap64 (Go.bits .or .u64 (IntKind.u64.wrap ((IntKind.u64.wrap (a2)) * 4294967296)) (IntKind.u64.wrap (a1)))) (wrap64 (wrap32 (a3))))))))) = true := beq_iff_eq.mpr c22
                            have c22b1 : ((wrap64 (Int.tdiv (wrap64 (Go.bits .or .u64 (IntKind.u64.wrap ((IntKind.u64.wrap (a2)) * 4294967296)) (IntKind.u64.wrap (a1)))) (wrap64 (wrap32 (a3))))) != (wrap64 (wrap32 ((wrap64 (Int.tdiv (wrap64 (Go.bits .or .u64 (IntKind.u64.wrap ((IntKind.u64.wrap (a2)) * 4294967296)) (IntKind.u64.wrap (a1)))) (wrap64 (wrap32 (a3))))))))) = false := bne_eq_false_iff_eq.mpr c22
                            clear c22
                            simp only [Option.some.injEq, Prod.mk.injEq] at H
                            obtain ⟨rfl, rfl, rfl⟩ := H
                            go_wp2
                            repeat (go_quiet (fail); try go_wp2)
                            go_ret3
                            exact ⟨by first | rfl | (simp; done) | (simp [*]; done), by repeat (first | exact Drawn0.refl _ | apply Drawn0.step)⟩
                          · rw [if_neg c22] at H
                            have c22b0 : ((wrap64 (Int.tdiv (wrap64 (Go.bits .or .u64 (IntKind.u64.wrap ((IntKind.u64.wrap (a2)) * 4294967296)) (IntKind.u64.wrap (a1)))) (wrap64 (wrap32 (a3))))) == (wrap64 (wrap32 ((wrap64 (Int.tdiv (wrap64 (Go.bits .or .u64 (IntKind.u64.wrap ((IntKind.u64.wrap (a2)) * 4294967296)) (IntKind.u64.wrap (a1)))) (wrap64 (wrap32 (a3))))))))) = false := beq_eq_false_iff_ne.mpr c22
                            have c22b1 : ((wrap64 (Int.tdiv (wrap64 (Go.bits .or .u64 (IntKind.u64.wrap ((IntKind.u64.wrap (a2)) * 4294967296)) (IntKind.u64.wrap (a1)))) (wrap64 (wrap32 (a3))))) != (wrap64 (wrap32 ((wrap64 (Int.tdiv (wrap64 (Go.bits .or .u64 (IntKind.u64.wrap ((IntKind.u64.wrap (a2)) * 4294967296)) (IntKind.u64.wrap (a1)))) (wrap64 (wrap32 (a3))))))))) = true := bne_iff_ne.mpr c22
                            simp only [Option.some.injEq, Prod.mk.injEq] at H
                            obtain ⟨rfl, rfl, rfl⟩ := H
                            go_wp2
                            repeat (go_quiet (fail); try go_wp2)
                            go_ret3
                            exact ⟨by first | rfl | (simp; done) | (simp [*]; done), by repeat (first | exact Drawn0.refl _ | apply Drawn0.step)⟩

/-! ### tinderlaw01_CellSymmetric: function 8 -/
mutual
def tinderlaw01_CellSymmetric.j0 : Nat → Int → Int → Bool → Int → Option (Bool)
  | 0, _, _, _, _ => none
  | k + 1, x0, x1, x2, x7 => (cell_Wide.f k 469 x0 x7 x1).bind fun bt122 => (if x1 = 0 then (some (bt122.2.2 == 7)) else (if x2 = true then (tinderlaw01_CellSymmetric.j1 k x1 bt122.1 bt122.2.1 bt122.2.2 (wrap64 ((wrap64 (x0)) - 4294967296))) else (tinderlaw01_CellSymmetric.j1 k x1 bt122.1 bt122.2.1 bt122.2.2 (wrap64 (x0)))))
def tinderlaw01_CellSymmetric.j1 : Nat → Int → Int → Int → Int → Int → Option (Bool)
  | 0, _, _, _, _, _ => none
  | k + 1, x1, x8, x9, x10, x11 => if x10 = 0 then ((cell_Signed.f x8).bind fun t125 => ((cell_Signed.f x9).bind fun t126 => ((cell_Signed.f x1).bind fun t127 => (if (wrap64 ((wrap64 (t125 * t127)) + t126)) = x11 then (if t126 = 0 then (some true) else (some ((decide (t126 < 0)) == (decide (x11 < 0))))) else (some false))))) else ((cell_Signed.f x1).bind fun t128 => (if t128 = 0 then (none) else (if x10 = 4 then (if (wrap64 (Int.tdiv x11 t128)) ≥ 2147483648 then (some true) else (some (decide ((wrap64 (Int.tdiv x11 t128)) < (-2147483648))))) else (some false))))
end
def tinderlaw01_CellSymmetric.f (k : Nat) (a0 : Int) (a1 : Int) (a2 : Bool) : Option (Bool) := (tinderlaw01_alive.f k).bind fun t121 => (if t121 = true then (if a2 = true then (tinderlaw01_CellSymmetric.j0 k a0 a1 a2 4294967295) else (tinderlaw01_CellSymmetric.j0 k a0 a1 a2 0)) else (some false))
theorem tinderlaw01_CellSymmetric.mono_l : ∀ k, (∀ y0 y1 y2 y3, LeO (tinderlaw01_CellSymmetric.j0 k y0 y1 y2 y3) (tinderlaw01_CellSymmetric.j0 (k + 1) y0 y1 y2 y3)) ∧ (∀ y0 y1 y2 y3 y4, LeO (tinderlaw01_CellSymmetric.j1 k y0 y1 y2 y3 y4) (tinderlaw01_CellSymmetric.j1 (k + 1) y0 y1 y2 y3 y4))
  | 0 => ⟨fun _ _ _ _ r h => by simp [tinderlaw01_CellSymmetric.j0] at h, fun _ _ _ _ _ r h => by simp [tinderlaw01_CellSymmetric.j1] at h⟩
  | k + 1 => by
    obtain ⟨ih0, ih1⟩ := tinderlaw01_CellSymmetric.mono_l k
    refine ⟨?_, ?_⟩
    · intro y0 y1 y2 y3
      unfold tinderlaw01_CellSymmetric.j0
      repeat' first
      | (with_reducible exact ih0 _ _ _ _)
      | (with_reducible exact ih1 _ _ _ _ _)
      | (with_reducible exact cell_Wide.mono _ _ _ _ _)
      | (with_reducible exact tinderlaw01_alive.mono _)
      | (with_reducible exact LeO.refl _)
      | (with_reducible exact LeO.none _)
      | (with_reducible refine LeO.ite ?_ ?_)
      | (with_reducible refine LeO.bind ?_ (fun _ => ?_))
      | exact ih0 _ _ _ _
      | exact ih1 _ _ _ _ _
      | exact cell_Wide.mono _ _ _ _ _
      | exact tinderlaw01_alive.mono _
      | exact LeO.none _
      | refine LeO.ite ?_ ?_
      | refine LeO.bind ?_ (fun _ => ?_)
    · intro y0 y1 y2 y3 y4
      unfold tinderlaw01_CellSymmetric.j1
      repeat' first
      | (with_reducible exact ih0 _ _ _ _)
      | (with_reducible exact ih1 _ _ _ _ _)
      | (with_reducible exact cell_Wide.mono _ _ _ _ _)
      | (with_reducible exact tinderlaw01_alive.mono _)
      | (with_reducible exact LeO.refl _)
      | (with_reducible exact LeO.none _)
      | (with_reducible refine LeO.ite ?_ ?_)
      | (with_reducible refine LeO.bind ?_ (fun _ => ?_))
      | exact ih0 _ _ _ _
      | exact ih1 _ _ _ _ _
      | exact cell_Wide.mono _ _ _ _ _
      | exact tinderlaw01_alive.mono _
      | exact LeO.none _
      | refine LeO.ite ?_ ?_
      | refine LeO.bind ?_ (fun _ => ?_)
theorem tinderlaw01_CellSymmetric.mono : ∀ a0 a1 a2 k, LeO (tinderlaw01_CellSymmetric.f k a0 a1 a2) (tinderlaw01_CellSymmetric.f (k + 1) a0 a1 a2) := by
  intro a0 a1 a2 k
  obtain ⟨ih0, ih1⟩ := tinderlaw01_CellSymmetric.mono_l k
  unfold tinderlaw01_CellSymmetric.f
  repeat' first
      | (with_reducible exact ih0 _ _ _ _)
      | (with_reducible exact ih1 _ _ _ _ _)
      | (with_reducible exact cell_Wide.mono _ _ _ _ _)
      | (with_reducible exact tinderlaw01_alive.mono _)
      | (with_reducible exact LeO.refl _)
      | (with_reducible exact LeO.none _)
      | (with_reducible refine LeO.ite ?_ ?_)
      | (with_reducible refine LeO.bind ?_ (fun _ => ?_))
      | exact ih0 _ _ _ _
      | exact ih1 _ _ _ _ _
      | exact cell_Wide.mono _ _ _ _ _
      | exact tinderlaw01_alive.mono _
      | exact LeO.none _
      | refine LeO.ite ?_ ?_
      | refine LeO.bind ?_ (fun _ => ?_)
set_option maxHeartbeats 8000000 in
set_option maxRecDepth 100000 in
theorem tinderlaw01_CellSymmetric.calls (k : Nat) (a0 : Int) (a1 : Int) (a2 : Bool) (r : Bool) (w : World) (h : tinderlaw01_CellSymmetric.f k a0 a1 a2 = some r) :
    Calls Try.prog 8 #[.int .u32 a0, .int .u32 a1, .bool a2] w fun e w' => e = .returned (.bool r) ∧ Below w.heap.size w w' := by
  have HB := Aside0.mk (Below.refl w.heap.size w)
  have H : ((tinderlaw01_alive.f k).bind fun t121 => (if t121 = true then (if a2 = true then (tinderlaw01_CellSymmetric.j0 k a0 a1 a2 4294967295) else (tinderlaw01_CellSymmetric.j0 k a0 a1 a2 0)) else (some false))) = some r := h
  clear h
  replace H := Option.bind_eq_some_iff.mp H
  obtain ⟨t121, A40, H⟩ := H
  replace H : (if t121 = true then (if a2 = true then (tinderlaw01_CellSymmetric.j0 k a0 a1 a2 4294967295) else (tinderlaw01_CellSymmetric.j0 k a0 a1 a2 0)) else (some false)) = some r := H
  have A4 := Aside0.mk A40
  clear A40
  by_cases c5 : t121 = true
  · subst c5
    have H1 : (if a2 = true then (tinderlaw01_CellSymmetric.j0 k a0 a1 a2 4294967295) else (tinderlaw01_CellSymmetric.j0 k a0 a1 a2 0)) = some r := by rw [if_pos rfl] at H; exact H
    clear H
    have H := H1
    clear H1
    have HC6 := Aside0.mk H
    clear H
    go_enter Try.func8, Try.ntmps8
    go_upto_if 17 with (first | ((with_reducible refine gate_callee (f := 9) rfl ?_); refine goesL_ (some 15) rfl rfl Try.func9 (by kernel_rfl) rfl #[] rfl (by (try simp only [List.map_toArray, List.map_cons, List.map_nil]); first | done | rfl | (simp only [List.length_drop, List.length_take]; rfl)) ?_; (with_reducible refine (tinderlaw01_alive.calls k  true _ A4.out).mono ?_); rintro e w7 ⟨rfl, hb⟩; refine ⟨_, rfl, ?_⟩; have n0_ := Aside0.mk (below_step (by repeat (first | (with_reducible first | exact HB.out | apply below_alloc | apply pw_below_drewN | apply below_drew1) | exact HB.out)) hb); clear HB; have HB := n0_; clear n0_; (try clear hb); (try clear hb2); (try clear hk); (try clear hi)))
    (try simp only [Act.put, List.setIfInBounds_toArray, List.set_cons_zero, List.set_cons_succ])
    go_cut [7] (fun v7 wc => ∃ (kq : Nat) (x7_5 : Int), v7 = .int .u32 x7_5 ∧ Aside0 (tinderlaw01_CellSymmetric.j0 kq a0 a1 a2 x7_5 = some r) ∧ Aside0 (kq ≤ k) ∧ Aside0 (Below w.heap.size w wc))
    case first =>
      have H := HC6.out
      clear HC6
      by_cases c8 : a2 = true
      · subst c8
        have H1 : (tinderlaw01_CellSymmetric.j0 k a0 a1 true 4294967295) = some r := by rw [if_pos rfl] at H; exact H
        clear H
        have H := H1
        clear H1
        have H' := Aside0.mk H
        clear H
        go_wp2
        go_meet
        case rel => exact ⟨_, (4294967295), (by first | rfl | (simp; done) | (simp [*]; done)), H', ⟨by first | omega | exact Nat.le_refl _⟩, ⟨by repeat (first | (with_reducible first | exact HB.out | apply below_alloc | apply pw_below_drewN | apply below_drew1) | exact HB.out)⟩⟩
      · replace c8 := Bool.eq_false_iff.mpr c8
        subst c8
        have H1 : (tinderlaw01_CellSymmetric.j0 k a0 a1 false 0) = some r := by rw [if_neg (show ¬ (false = true) by decide)] at H; exact H
        clear H
        have H := H1
        clear H1
        have H' := Aside0.mk H
        clear H
        go_wp2
        go_meet
        case rel => exact ⟨_, (0), (by first | rfl | (simp; done) | (simp [*]; done)), H', ⟨by first | omega | exact Nat.le_refl _⟩, ⟨by repeat (first | (with_reducible first | exact HB.out | apply below_alloc | apply pw_below_drewN | apply below_drew1) | exact HB.out)⟩⟩
    case rest =>
      clear HC6
      try clear p2
      try clear c5
      try clear c8
      obtain ⟨kq, x7_5, rfl, HA, HJ5, HB⟩ := hcut
      cases kq with
      | zero => exact absurd HA.out (by simp [tinderlaw01_CellSymmetric.j0])
      | succ kj5 =>
        have H := HA.out
        clear HA
        simp only [tinderlaw01_CellSymmetric.j0] at H
        replace H := Option.bind_eq_some_iff.mp H
        obtain ⟨⟨t122, t123, t124⟩, A90, H⟩ := H
        replace H : (if a1 = 0 then (some (t124 == 7)) else (if a2 = true then (tinderlaw01_CellSymmetric.j1 kj5 a1 t122 t123 t124 (wrap64 ((wrap64 (a0)) - 4294967296))) else (tinderlaw01_CellSymmetric.j1 kj5 a1 t122 t123 t124 (wrap64 (a0))))) = some r := H
        have A9 := Aside0.mk A90
        clear A90
        by_cases c10 : a1 = 0
        · rw [if_pos c10] at H
          have c10b0 : (a1 == 0) = true := beq_iff_eq.mpr c10
          have c10b1 : (a1 != 0) = false := bne_eq_false_iff_eq.mpr c10
          clear c10
          obtain rfl := Option.some.inj H
          go_wp2_with (first | ((with_reducible refine gate_callee (f := 21) rfl ?_); refine goesL_ (some 22) rfl rfl Try.func21 (by kernel_rfl) rfl #[.int .i64 469, .int .u32 a0, .int .u32 x7_5, .int .u32 a1] rfl (by (try simp only [List.map_toArray, List.map_cons, List.map_nil]); first | done | rfl | (simp only [List.length_drop, List.length_take]; rfl)) ?_; (with_reducible refine (cell_Wide.calls kj5 469 a0 x7_5 a1 t122 t123 t124 _ A9.out).mono ?_); rintro e w' ⟨rfl, ⟨nd, rfl⟩⟩; refine ⟨_, rfl, ?_⟩))
          go_ret
          exact ⟨by first | rfl | (simp [errW_none, errW_some] <;> rfl) | (simp [*, errW_none, errW_some] <;> rfl), by repeat (first | (with_reducible first | exact HB.out | apply below_alloc | apply pw_below_drewN | apply below_drew1) | exact HB.out)⟩
        · rw [if_neg c10] at H
          have c10b0 : (a1 == 0) = false := beq_eq_false_iff_ne.mpr c10
          have c10b1 : (a1 != 0) = true := bne_iff_ne.mpr c10
          have HC11 := Aside0.mk H
          clear H
          go_upto_if 32 with (first | ((with_reducible refine gate_callee (f := 21) rfl ?_); refine goesL_ (some 22) rfl rfl Try.func21 (by kernel_rfl) rfl #[.int .i64 469, .int .u32 a0, .int .u32 x7_5, .int .u32 a1] rfl (by (try simp only [List.map_toArray, List.map_cons, List.map_nil]); first | done | rfl | (simp only [List.length_drop, List.length_take]; rfl)) ?_; (with_reducible refine (cell_Wide.calls kj5 469 a0 x7_5 a1 t122 t123 t124 _ A9.out).mono ?_); rintro e w' ⟨rfl, ⟨nd, rfl⟩⟩; refine ⟨_, rfl, ?_⟩))
          (try simp only [Act.put, List.setIfInBounds_toArray, List.set_cons_zero, List.set_cons_succ])
          go_cut [11] (fun v11 wc => ∃ (kq : Nat) (x11_10 : Int), v11 = .int .i64 x11_10 ∧ Aside0 (tinderlaw01_CellSymmetric.j1 kq a1 t122 t123 t124 x11_10 = some r) ∧ Aside0 (kq ≤ kj5) ∧ Aside0 (Below w.heap.size w wc))
          case first =>
            have H := HC11.out
            clear HC11
            by_cases c12 : a2 = true
            · subst c12
              have H1 : (tinderlaw01_CellSymmetric.j1 kj5 a1 t122 t123 t124 (wrap64 ((wrap64 (a0)) - 4294967296))) = some r := by rw [if_pos rfl] at H; exact H
              clear H
              have H := H1
              clear H1
              have H' := Aside0.mk H
              clear H
              go_wp2
              go_meet
              case rel => exact ⟨_, (wrap64 ((wrap64 (a0)) - 4294967296)), (by first | rfl | (simp; done) | (simp [*]; done)), H', ⟨by have := HJ5.out; first | omega | exact Nat.le_refl _⟩, ⟨by repeat (first | (with_reducible first | exact HB.out | apply below_alloc | apply pw_below_drewN | apply below_drew1) | exact HB.out)⟩⟩
            · replace c12 := Bool.eq_false_iff.mpr c12
              subst c12
              have H1 : (tinderlaw01_CellSymmetric.j1 kj5 a1 t122 t123 t124 (wrap64 (a0))) = some r := by rw [if_neg (show ¬ (false = true) by decide)] at H; exact H
              clear H
              have H := H1
              clear H1
              have H' := Aside0.mk H
              clear H
              go_wp2
              go_meet
              case rel => exact ⟨_, (wrap64 (a0)), (by first | rfl | (simp; done) | (simp [*]; done)), H', ⟨by have := HJ5.out; first | omega | exact Nat.le_refl _⟩, ⟨by repeat (first | (with_reducible first | exact HB.out | apply below_alloc | apply pw_below_drewN | apply below_drew1) | exact HB.out)⟩⟩
          case rest =>
            clear HC11
            try clear c1
            try clear c2
            try clear p2
            try clear c5
            try clear p6
            try clear c8
            try clear c9
            try clear c10
            try clear c10b0
            try clear c10b1
            try clear c12
            try clear p2
            obtain ⟨kq, x11_10, rfl, HA, HJ10, HB⟩ := hcut
            cases kq with
            | zero => exact absurd HA.out (by simp [tinderlaw01_CellSymmetric.j1])
            | succ kj10 =>
              have H := HA.out
              clear HA
              simp only [tinderlaw01_CellSymmetric.j1] at H
              by_cases c13 : t124 = 0
              · rw [if_pos c13] at H
                have c13b0 : (t124 == 0) = true := beq_iff_eq.mpr c13
                have c13b1 : (t124 != 0) = false := bne_eq_false_iff_eq.mpr c13
                clear c13
                replace H := Option.bind_eq_some_iff.mp H
                obtain ⟨t125, A140, H⟩ := H
                replace H : ((cell_Signed.f t123).bind fun t126 => ((cell_Signed.f a1).bind fun t127 => (if (wrap64 ((wrap64 (t125 * t127)) + t126)) = x11_10 then (if t126 = 0 then (some true) else (some ((decide (t126 < 0)) == (decide (x11_10 < 0))))) else (some false)))) = some r := H
                have A14 := Aside0.mk A140
                clear A140
                replace H := Option.bind_eq_some_iff.mp H
                obtain ⟨t126, A150, H⟩ := H
                replace H : ((cell_Signed.f a1).bind fun t127 => (if (wrap64 ((wrap64 (t125 * t127)) + t126)) = x11_10 then (if t126 = 0 then (some true) else (some ((decide (t126 < 0)) == (decide (x11_10 < 0))))) else (some false))) = some r := H
                have A15 := Aside0.mk A150
                clear A150
                replace H := Option.bind_eq_some_iff.mp H
                obtain ⟨t127, A160, H⟩ := H
                replace H : (if (wrap64 ((wrap64 (t125 * t127)) + t126)) = x11_10 then (if t126 = 0 then (some true) else (some ((decide (t126 < 0)) == (decide (x11_10 < 0))))) else (some false)) = some r := H
                have A16 := Aside0.mk A160
                clear A160
                by_cases c17 : (wrap64 ((wrap64 (t125 * t127)) + t126)) = x11_10
                · rw [if_pos c17] at H
                  have c17b0 : ((wrap64 ((wrap64 (t125 * t127)) + t126)) == x11_10) = true := beq_iff_eq.mpr c17
                  have c17b1 : ((wrap64 ((wrap64 (t125 * t127)) + t126)) != x11_10) = false := bne_eq_false_iff_eq.mpr c17
                  clear c17
                  by_cases c18 : t126 = 0
                  · rw [if_pos c18] at H
                    have c18b0 : (t126 == 0) = true := beq_iff_eq.mpr c18
                    have c18b1 : (t126 != 0) = false := bne_eq_false_iff_eq.mpr c18
                    clear c18
                    obtain rfl := Option.some.inj H
                    go_wp2_with (first | ((with_reducible refine gate_callee (f := 14) rfl ?_); refine goesL_ (some 52) rfl rfl Try.func14 (by kernel_rfl) rfl #[.int .u32 t122] rfl (by (try simp only [List.map_toArray, List.map_cons, List.map_nil]); first | done | rfl | (simp only [List.length_drop, List.length_take]; rfl)) ?_; (with_reducible refine (cell_Signed.calls t122 t125 _ A14.out).mono ?_); rintro e w' ⟨rfl, ⟨nd, rfl⟩⟩; refine ⟨_, rfl, ?_⟩) | ((with_reducible refine gate_callee (f := 14) rfl ?_); refine goesL_ (some 54) rfl rfl Try.func14 (by kernel_rfl) rfl #[.int .u32 t123] rfl (by (try simp only [List.map_toArray, List.map_cons, List.map_nil]); first | done | rfl | (simp only [List.length_drop, List.length_take]; rfl)) ?_; (with_reducible refine (cell_Signed.calls t123 t126 _ A15.out).mono ?_); rintro e w' ⟨rfl, ⟨nd, rfl⟩⟩; refine ⟨_, rfl, ?_⟩) | ((with_reducible refine gate_callee (f := 14) rfl ?_); refine goesL_ (some 57) rfl rfl Try.func14 (by kernel_rfl) rfl #[.int .u32 a1] rfl (by (try simp only [List.map_toArray, List.map_cons, List.map_nil]); first | done | rfl | (simp only [List.length_drop, List.length_take]; rfl)) ?_; (with_reducible refine (cell_Signed.calls a1 t127 _ A16.out).mono ?_); rintro e w' ⟨rfl, ⟨nd, rfl⟩⟩; refine ⟨_, rfl, ?_⟩))
                    go_ret
                    exact ⟨by first | rfl | (simp [errW_none, errW_some] <;> rfl) | (simp [*, errW_none, errW_some] <;> rfl), by repeat (first | (with_reducible first | exact HB.out | apply below_alloc | apply pw_below_drewN | apply below_drew1) | exact HB.out)⟩
                  · rw [if_neg c18] at H
                    have c18b0 : (t126 == 0) = false := beq_eq_false_iff_ne.mpr c18
                    have c18b1 : (t126 != 0) = true := bne_iff_ne.mpr c18
                    obtain rfl := Option.some.inj H
                    go_wp2_with (first | ((with_reducible refine gate_callee (f := 14) rfl ?_); refine goesL_ (some 52) rfl rfl Try.func14 (by kernel_rfl) rfl #[.int .u32 t122] rfl (by (try simp only [List.map_toArray, List.map_cons, List.map_nil]); first | done | rfl | (simp only [List.length_drop, List.length_take]; rfl)) ?_; (with_reducible refine (cell_Signed.calls t122 t125 _ A14.out).mono ?_); rintro e w' ⟨rfl, ⟨nd, rfl⟩⟩; refine ⟨_, rfl, ?_⟩) | ((with_reducible refine gate_callee (f := 14) rfl ?_); refine goesL_ (some 54) rfl rfl Try.func14 (by kernel_rfl) rfl #[.int .u32 t123] rfl (by (try simp only [List.map_toArray, List.map_cons, List.map_nil]); first | done | rfl | (simp only [List.length_drop, List.length_take]; rfl)) ?_; (with_reducible refine (cell_Signed.calls t123 t126 _ A15.out).mono ?_); rintro e w' ⟨rfl, ⟨nd, rfl⟩⟩; refine ⟨_, rfl, ?_⟩) | ((with_reducible refine gate_callee (f := 14) rfl ?_); refine goesL_ (some 57) rfl rfl Try.func14 (by kernel_rfl) rfl #[.int .u32 a1] rfl (by (try simp only [List.map_toArray, List.map_cons, List.map_nil]); first | done | rfl | (simp only [List.length_drop, List.length_take]; rfl)) ?_; (with_reducible refine (cell_Signed.calls a1 t127 _ A16.out).mono ?_); rintro e w' ⟨rfl, ⟨nd, rfl⟩⟩; refine ⟨_, rfl, ?_⟩))
                    go_ret
                    exact ⟨by first | rfl | (simp [errW_none, errW_some] <;> rfl) | (simp [*, errW_none, errW_some] <;> rfl), by repeat (first | (with_reducible first | exact HB.out | apply below_alloc | apply pw_below_drewN | apply below_drew1) | exact HB.out)⟩
                · rw [if_neg c17] at H
                  have c17b0 : ((wrap64 ((wrap64 (t125 * t127)) + t126)) == x11_10) = false := beq_eq_false_iff_ne.mpr c17
                  have c17b1 : ((wrap64 ((wrap64 (t125 * t127)) + t126)) != x11_10) = true := bne_iff_ne.mpr c17
                  obtain rfl := Option.some.inj H
                  go_wp2_with (first | ((with_reducible refine gate_callee (f := 14) rfl ?_); refine goesL_ (some 52) rfl rfl Try.func14 (by kernel_rfl) rfl #[.int .u32 t122] rfl (by (try simp only [List.map_toArray, List.map_cons, List.map_nil]); first | done | rfl | (simp only [List.length_drop, List.length_take]; rfl)) ?_; (with_reducible refine (cell_Signed.calls t122 t125 _ A14.out).mono ?_); rintro e w' ⟨rfl, ⟨nd, rfl⟩⟩; refine ⟨_, rfl, ?_⟩) | ((with_reducible refine gate_callee (f := 14) rfl ?_); refine goesL_ (some 54) rfl rfl Try.func14 (by kernel_rfl) rfl #[.int .u32 t123] rfl (by (try simp only [List.map_toArray, List.map_cons, List.map_nil]); first | done | rfl | (simp only [List.length_drop, List.length_take]; rfl)) ?_; (with_reducible refine (cell_Signed.calls t123 t126 _ A15.out).mono ?_); rintro e w' ⟨rfl, ⟨nd, rfl⟩⟩; refine ⟨_, rfl, ?_⟩) | ((with_reducible refine gate_callee (f := 14) rfl ?_); refine goesL_ (some 57) rfl rfl Try.func14 (by kernel_rfl) rfl #[.int .u32 a1] rfl (by (try simp only [List.map_toArray, List.map_cons, List.map_nil]); first | done | rfl | (simp only [List.length_drop, List.length_take]; rfl)) ?_; (with_reducible refine (cell_Signed.calls a1 t127 _ A16.out).mono ?_); rintro e w' ⟨rfl, ⟨nd, rfl⟩⟩; refine ⟨_, rfl, ?_⟩))
                  go_ret
                  exact ⟨by first | rfl | (simp [errW_none, errW_some] <;> rfl) | (simp [*, errW_none, errW_some] <;> rfl), by repeat (first | (with_reducible first | exact HB.out | apply below_alloc | apply pw_below_drewN | apply below_drew1) | exact HB.out)⟩
              · rw [if_neg c13] at H
                have c13b0 : (t124 == 0) = false := beq_eq_false_iff_ne.mpr c13
                have c13b1 : (t124 != 0) = true := bne_iff_ne.mpr c13
                replace H := Option.bind_eq_some_iff.mp H
                obtain ⟨t128, A190, H⟩ := H
                replace H : (if t128 = 0 then (none) else (if t124 = 4 then (if (wrap64 (Int.tdiv x11_10 t128)) ≥ 2147483648 then (some true) else (some (decide ((wrap64 (Int.tdiv x11_10 t128)) < (-2147483648))))) else (some false))) = some r := H
                have A19 := Aside0.mk A190
                clear A190
                by_cases c20 : t128 = 0
                · rw [if_pos c20] at H
                  exact absurd H (by simp)
                · rw [if_neg c20] at H
                  have c20b0 : (t128 == 0) = false := beq_eq_false_iff_ne.mpr c20
                  have c20b1 : (t128 != 0) = true := bne_iff_ne.mpr c20
                  by_cases c21 : t124 = 4
                  · rw [if_pos c21] at H
                    have c21b0 : (t124 == 4) = true := beq_iff_eq.mpr c21
                    have c21b1 : (t124 != 4) = false := bne_eq_false_iff_eq.mpr c21
                    clear c21
                    by_cases c22 : (wrap64 (Int.tdiv x11_10 t128)) ≥ 2147483648
                    · rw [if_pos c22] at H
                      have c22b0 : decide (2147483648 ≤ (wrap64 (Int.tdiv x11_10 t128))) = true := decide_eq_true c22
                      clear c22
                      obtain rfl := Option.some.inj H
                      go_wp2_with (first | ((with_reducible refine gate_callee (f := 14) rfl ?_); refine goesL_ (some 39) rfl rfl Try.func14 (by kernel_rfl) rfl #[.int .u32 a1] rfl (by (try simp only [List.map_toArray, List.map_cons, List.map_nil]); first | done | rfl | (simp only [List.length_drop, List.length_take]; rfl)) ?_; (with_reducible refine (cell_Signed.calls a1 t128 _ A19.out).mono ?_); rintro e w' ⟨rfl, ⟨nd, rfl⟩⟩; refine ⟨_, rfl, ?_⟩))
                      go_ret
                      exact ⟨by first | rfl | (simp [errW_none, errW_some] <;> rfl) | (simp [*, errW_none, errW_some] <;> rfl), by repeat (first | (with_reducible first | exact HB.out | apply below_alloc | apply pw_below_drewN | apply below_drew1) | exact HB.out)⟩
                    · rw [if_neg c22] at H
                      have c22b0 : decide (2147483648 ≤ (wrap64 (Int.tdiv x11_10 t128))) = false := decide_eq_false c22
                      clear c22
                      obtain rfl := Option.some.inj H
                      go_wp2_with (first | ((with_reducible refine gate_callee (f := 14) rfl ?_); refine goesL_ (some 39) rfl rfl Try.func14 (by kernel_rfl) rfl #[.int .u32 a1] rfl (by (try simp only [List.map_toArray, List.map_cons, List.map_nil]); first | done | rfl | (simp only [List.length_drop, List.length_take]; rfl)) ?_; (with_reducible refine (cell_Signed.calls a1 t128 _ A19.out).mono ?_); rintro e w' ⟨rfl, ⟨nd, rfl⟩⟩; refine ⟨_, rfl, ?_⟩))
                      go_ret
                      exact ⟨by first | rfl | (simp [errW_none, errW_some] <;> rfl) | (simp [*, errW_none, errW_some] <;> rfl), by repeat (first | (with_reducible first | exact HB.out | apply below_alloc | apply pw_below_drewN | apply below_drew1) | exact HB.out)⟩
                  · rw [if_neg c21] at H
                    have c21b0 : (t124 == 4) = false := beq_eq_false_iff_ne.mpr c21
                    have c21b1 : (t124 != 4) = true := bne_iff_ne.mpr c21
                    obtain rfl := Option.some.inj H
                    go_wp2_with (first | ((with_reducible refine gate_callee (f := 14) rfl ?_); refine goesL_ (some 39) rfl rfl Try.func14 (by kernel_rfl) rfl #[.int .u32 a1] rfl (by (try simp only [List.map_toArray, List.map_cons, List.map_nil]); first | done | rfl | (simp only [List.length_drop, List.length_take]; rfl)) ?_; (with_reducible refine (cell_Signed.calls a1 t128 _ A19.out).mono ?_); rintro e w' ⟨rfl, ⟨nd, rfl⟩⟩; refine ⟨_, rfl, ?_⟩))
                    go_ret
                    exact ⟨by first | rfl | (simp [errW_none, errW_some] <;> rfl) | (simp [*, errW_none, errW_some] <;> rfl), by repeat (first | (with_reducible first | exact HB.out | apply below_alloc | apply pw_below_drewN | apply below_drew1) | exact HB.out)⟩
  · replace c5 := Bool.eq_false_iff.mpr c5
    subst c5
    have H1 : (some false) = some r := by rw [if_neg (show ¬ (false = true) by decide)] at H; exact H
    clear H
    have H := H1
    clear H1
    obtain rfl := Option.some.inj H
    go_enter Try.func8, Try.ntmps8
    go_wp2_with (first | ((with_reducible refine gate_callee (f := 9) rfl ?_); refine goesL_ (some 15) rfl rfl Try.func9 (by kernel_rfl) rfl #[] rfl (by (try simp only [List.map_toArray, List.map_cons, List.map_nil]); first | done | rfl | (simp only [List.length_drop, List.length_take]; rfl)) ?_; (with_reducible refine (tinderlaw01_alive.calls k  false _ A4.out).mono ?_); rintro e w23 ⟨rfl, hb⟩; refine ⟨_, rfl, ?_⟩; have n0_ := Aside0.mk (below_step (by repeat (first | (with_reducible first | exact HB.out | apply below_alloc | apply pw_below_drewN | apply below_drew1) | exact HB.out)) hb); clear HB; have HB := n0_; clear n0_; (try clear hb); (try clear hb2); (try clear hk); (try clear hi)))
    go_ret
    exact ⟨by first | rfl | (simp [errW_none, errW_some] <;> rfl) | (simp [*, errW_none, errW_some] <;> rfl), by repeat (first | (with_reducible first | exact HB.out | apply below_alloc | apply pw_below_drewN | apply below_drew1) | exact HB.out)⟩

/-- THE ONE PURE STATEMENT of tinderlaw01_CellSymmetric: yours. -/
def tinderlaw01_CellSymmetric.Pure : Prop := ∀ (a0 : Int) (a1 : Int) (a2 : Bool), (Lit.int .u32 a0).wf = true → (Lit.int .u32 a1).wf = true → ∃ k, tinderlaw01_CellSymmetric.f k a0 a1 a2 = some true
theorem tinderlaw01_CellSymmetric.walk (P : tinderlaw01_CellSymmetric.Pure) (a0 : Int) (a1 : Int) (a2 : Bool) (w : World) (w0 : (Lit.int .u32 a0).wf = true) (w1 : (Lit.int .u32 a1).wf = true) :
    Calls Try.prog 8 #[.int .u32 a0, .int .u32 a1, .bool a2] w fun e w' => e = .returned (.bool true) ∧ Below w.heap.size w w' := by
  obtain ⟨k, h⟩ := P a0 a1 a2 w0 w1
  refine (tinderlaw01_CellSymmetric.calls k a0 a1 a2 true w h).mono ?_
  rintro e w' ⟨rfl, hd⟩
  exact ⟨rfl, hd⟩

end Go.Proofs.Ytdjpodpibkcnaaa.QCellSymmetric
