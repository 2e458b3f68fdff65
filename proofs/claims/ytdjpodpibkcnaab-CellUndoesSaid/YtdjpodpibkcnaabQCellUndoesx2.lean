-- written by a program of this session (xprint.py) out of the translation
import Derived.Test.YtdjpodpibkcnaabQCellUndoesx0
import Derived.Test.YtdjpodpibkcnaabQCellUndoesx1
namespace Go.Proofs.Ytdjpodpibkcnaab.QCellUndoes
open Go.RowKit Go.Proofs.YtdjpodpibkcnaabW.PrintWords Go.Proofs.YtdjpodpibkcnaabW.PrintLast Go.Proofs.YtdjpodpibkcnaabW.PrintMore
attribute [local go_sem] max2_int min2_int max_two min_two max_three min_three max_four min_four   -- for this text's walks alone
set_option linter.unusedVariables false
set_option linter.unusedSimpArgs false

/-! ### cell_Wide: function 10 -/
mutual
def cell_Wide.j0 : Nat → Int → Int → Int → Int → Bool → Option (Int × Int × Int)
  | 0, _, _, _, _, _ => none
  | k + 1, x0, x1, x2, x3, x15 => if x15 = true then (some (0, 0, 2)) else (if x3 = 0 then (some (0, 0, 7)) else (if x0 = 213 then (if x2 ≥ x3 then (some (0, 0, 4)) else ((bits_Div32.f x2 x1 x3).bind fun bt119 => (some (bt119.1, bt119.2, 0)))) else (if (wrap64 (Go.bits .or .u64 (IntKind.u64.wrap ((IntKind.u64.wrap (x2)) * 4294967296)) (IntKind.u64.wrap (x1)))) = (-9223372036854775808) then (cell_Wide.j1 k x0 (wrap64 (Go.bits .or .u64 (IntKind.u64.wrap ((IntKind.u64.wrap (x2)) * 4294967296)) (IntKind.u64.wrap (x1)))) (wrap64 (wrap32 (x3))) ((wrap64 (wrap32 (x3))) == (-1))) else (cell_Wide.j1 k x0 (wrap64 (Go.bits .or .u64 (IntKind.u64.wrap ((IntKind.u64.wrap (x2)) * 4294967296)) (IntKind.u64.wrap (x1)))) (wrap64 (wrap32 (x3))) false))))
def cell_Wide.j1 : Nat → Int → Int → Int → Bool → Option (Int × Int × Int)
  | 0, _, _, _, _ => none
  | k + 1, x0, x11, x12, x58 => if x58 = true then (some (0, 0, 4)) else (if x12 = 0 then (none) else (if x0 = 725 then (if (Int.tmod x11 x12) = 0 then (cell_Wide.j2 k x12 (wrap64 (Int.tdiv x11 x12)) (Int.tmod x11 x12) false) else (cell_Wide.j2 k x12 (wrap64 (Int.tdiv x11 x12)) (Int.tmod x11 x12) (decide ((Go.bits .xor .i64 (Int.tmod x11 x12) x12) < 0)))) else (cell_Wide.j2 k x12 (wrap64 (Int.tdiv x11 x12)) (Int.tmod x11 x12) false)))
def cell_Wide.j2 : Nat → Int → Int → Int → Bool → Option (Int × Int × Int)
  | 0, _, _, _, _ => none
  | k + 1, x12, x13, x14, x76 => if x76 = true then (if (wrap64 (x13 - 1)) = (wrap64 (wrap32 (wrap64 (x13 - 1)))) then (some ((wrap64 (x13 - 1)) % 4294967296, (wrap64 (x14 + x12)) % 4294967296, 0)) else (some (0, 0, 4))) else (if x13 = (wrap64 (wrap32 (x13))) then (some ((x13) % 4294967296, (x14) % 4294967296, 0)) else (some (0, 0, 4)))
end
def cell_Wide.f (k : Nat) (a0 : Int) (a1 : Int) (a2 : Int) (a3 : Int) : Option (Int × Int × Int) := if a0 = 213 then (cell_Wide.j0 k a0 a1 a2 a3 false) else (if a0 = 469 then (cell_Wide.j0 k a0 a1 a2 a3 false) else (cell_Wide.j0 k a0 a1 a2 a3 (a0 != 725)))
theorem cell_Wide.mono_l : ∀ k, (∀ y0 y1 y2 y3 y4, LeO (cell_Wide.j0 k y0 y1 y2 y3 y4) (cell_Wide.j0 (k + 1) y0 y1 y2 y3 y4)) ∧ (∀ y0 y1 y2 y3, LeO (cell_Wide.j1 k y0 y1 y2 y3) (cell_Wide.j1 (k + 1) y0 y1 y2 y3)) ∧ (∀ y0 y1 y2 y3, LeO (cell_Wide.j2 k y0 y1 y2 y3) (cell_Wide.j2 (k + 1) y0 y1 y2 y3))
  | 0 => ⟨fun _ _ _ _ _ r h => by simp [cell_Wide.j0] at h, fun _ _ _ _ r h => by simp [cell_Wide.j1] at h, fun _ _ _ _ r h => by simp [cell_Wide.j2] at h⟩
  | k + 1 => by
    obtain ⟨ih0, ih1, ih2⟩ := cell_Wide.mono_l k
    refine ⟨?_, ?_, ?_⟩
    · intro y0 y1 y2 y3 y4
      unfold cell_Wide.j0
      repeat' first
      | (with_reducible exact ih0 _ _ _ _ _)
      | (with_reducible exact ih1 _ _ _ _)
      | (with_reducible exact ih2 _ _ _ _)
      | (with_reducible exact LeO.refl _)
      | (with_reducible exact LeO.none _)
      | (with_reducible refine LeO.ite ?_ ?_)
      | (with_reducible refine LeO.bind ?_ (fun _ => ?_))
      | exact ih0 _ _ _ _ _
      | exact ih1 _ _ _ _
      | exact ih2 _ _ _ _
      | exact LeO.none _
      | refine LeO.ite ?_ ?_
      | refine LeO.bind ?_ (fun _ => ?_)
    · intro y0 y1 y2 y3
      unfold cell_Wide.j1
      repeat' first
      | (with_reducible exact ih0 _ _ _ _ _)
      | (with_reducible exact ih1 _ _ _ _)
      | (with_reducible exact ih2 _ _ _ _)
      | (with_reducible exact LeO.refl _)
      | (with_reducible exact LeO.none _)
      | (with_reducible refine LeO.ite ?_ ?_)
      | (with_reducible refine LeO.bind ?_ (fun _ => ?_))
      | exact ih0 _ _ _ _ _
      | exact ih1 _ _ _ _
      | exact ih2 _ _ _ _
      | exact LeO.none _
      | refine LeO.ite ?_ ?_
      | refine LeO.bind ?_ (fun _ => ?_)
    · intro y0 y1 y2 y3
      unfold cell_Wide.j2
      repeat' first
      | (with_reducible exact ih0 _ _ _ _ _)
      | (with_reducible exact ih1 _ _ _ _)
      | (with_reducible exact ih2 _ _ _ _)
      | (with_reducible exact LeO.refl _)
      | (with_reducible exact LeO.none _)
      | (with_reducible refine LeO.ite ?_ ?_)
      | (with_reducible refine LeO.bind ?_ (fun _ => ?_))
      | exact ih0 _ _ _ _ _
      | exact ih1 _ _ _ _
      | exact ih2 _ _ _ _
      | exact LeO.none _
      | refine LeO.ite ?_ ?_
      | refine LeO.bind ?_ (fun _ => ?_)
theorem cell_Wide.mono : ∀ a0 a1 a2 a3 k, LeO (cell_Wide.f k a0 a1 a2 a3) (cell_Wide.f (k + 1) a0 a1 a2 a3) := by
  intro a0 a1 a2 a3 k
  obtain ⟨ih0, ih1, ih2⟩ := cell_Wide.mono_l k
  unfold cell_Wide.f
  repeat' first
      | (with_reducible exact ih0 _ _ _ _ _)
      | (with_reducible exact ih1 _ _ _ _)
      | (with_reducible exact ih2 _ _ _ _)
      | (with_reducible exact LeO.refl _)
      | (with_reducible exact LeO.none _)
      | (with_reducible refine LeO.ite ?_ ?_)
      | (with_reducible refine LeO.bind ?_ (fun _ => ?_))
      | exact ih0 _ _ _ _ _
      | exact ih1 _ _ _ _
      | exact ih2 _ _ _ _
      | exact LeO.none _
      | refine LeO.ite ?_ ?_
      | refine LeO.bind ?_ (fun _ => ?_)
set_option maxHeartbeats 8000000 in
set_option maxRecDepth 100000 in
theorem cell_Wide.calls (k : Nat) (a0 : Int) (a1 : Int) (a2 : Int) (a3 : Int) (r1 : Int) (r2 : Int) (r3 : Int) (w : World) (h : cell_Wide.f k a0 a1 a2 a3 = some (r1, r2, r3)) :
    Calls Try.prog 10 #[.int .i64 a0, .int .u32 a1, .int .u32 a2, .int .u32 a3] w fun e w' => e = .returned (.tuple #[.int .u32 r1, .int .u32 r2, .int .i64 r3]) ∧ Drawn0 w w' := by
  have H : (if a0 = 213 then (cell_Wide.j0 k a0 a1 a2 a3 false) else (if a0 = 469 then (cell_Wide.j0 k a0 a1 a2 a3 false) else (cell_Wide.j0 k a0 a1 a2 a3 (a0 != 725)))) = some (r1, r2, r3) := h
  clear h
  have HC5 := Aside0.mk H
  clear H
  go_enter Try.func10, Try.ntmps10
  go_upto_region 1 with (fail)
  repeat (go_quiet (fail); go_upto_region 1 with (fail))
  go_cut [15] (fun v15 wc => ∃ (kq : Nat) (x15_4 : Bool), v15 = .bool x15_4 ∧ Aside0 (cell_Wide.j0 kq a0 a1 a2 a3 x15_4 = some (r1, r2, r3)) ∧ Aside0 (kq ≤ k) ∧ Drawn0 w wc)
  case first =>
    have H := HC5.out
    clear HC5
    by_cases c6 : a0 = 213
    · rw [if_pos c6] at H
      have c6b0 : (a0 == 213) = true := beq_iff_eq.mpr c6
      have c6b1 : (a0 != 213) = false := bne_eq_false_iff_eq.mpr c6
      clear c6
      (first | rw [c6b0] | (simp only [i64_w, i32_w]; rw [c6b0]) | skip)
      have H' := Aside0.mk H
      clear H
      go_wp2
      repeat (go_quiet (fail); try go_wp2)
      go_meet
      case rel => exact ⟨_, (false), (by first | rfl | (simp; done) | (simp [*]; done)), H', ⟨by first | omega | exact Nat.le_refl _⟩, by repeat (first | exact Drawn0.refl _ | apply Drawn0.step)⟩
    · rw [if_neg c6] at H
      have c6b0 : (a0 == 213) = false := beq_eq_false_iff_ne.mpr c6
      have c6b1 : (a0 != 213) = true := bne_iff_ne.mpr c6
      (first | rw [c6b0] | (simp only [i64_w, i32_w]; rw [c6b0]) | skip)
      by_cases c7 : a0 = 469
      · rw [if_pos c7] at H
        have c7b0 : (a0 == 469) = true := beq_iff_eq.mpr c7
        have c7b1 : (a0 != 469) = false := bne_eq_false_iff_eq.mpr c7
        clear c7
        have H' := Aside0.mk H
        clear H
        go_wp2
        repeat (go_quiet (fail); try go_wp2)
        go_meet
        case rel => exact ⟨_, (false), (by first | rfl | (simp; done) | (simp [*]; done)), H', ⟨by first | omega | exact Nat.le_refl _⟩, by repeat (first | exact Drawn0.refl _ | apply Drawn0.step)⟩
      · rw [if_neg c7] at H
        have c7b0 : (a0 == 469) = false := beq_eq_false_iff_ne.mpr c7
        have c7b1 : (a0 != 469) = true := bne_iff_ne.mpr c7
        have H' := Aside0.mk H
        clear H
        go_wp2
        repeat (go_quiet (fail); try go_wp2)
        go_meet
        case rel => exact ⟨_, ((a0 != 725)), (by first | rfl | (simp; done) | (simp [*]; done)), H', ⟨by first | omega | exact Nat.le_refl _⟩, by repeat (first | exact Drawn0.refl _ | apply Drawn0.step)⟩
  case rest =>
    clear HC5
    try clear c1
    try clear p2
    try clear c6
    try clear c6b0
    try clear c6b1
    try clear c7
    try clear c7b0
    try clear c7b1
    obtain ⟨kq, x15_4, rfl, HA, HJ4, ⟨mc4, rfl⟩⟩ := hcut
    cases kq with
    | zero => exact absurd HA.out (by simp [cell_Wide.j0])
    | succ kj4 =>
      have H := HA.out
      clear HA
      simp only [cell_Wide.j0] at H
      by_cases c8 : x15_4 = true
      · subst c8
        have H1 : (some (0, 0, 2)) = some (r1, r2, r3) := by rw [if_pos rfl] at H; exact H
        clear H
        have H := H1
        clear H1
        simp only [Option.some.injEq, Prod.mk.injEq] at H
        obtain ⟨rfl, rfl, rfl⟩ := H
        go_wp2
        repeat (go_quiet (fail); try go_wp2)
        go_ret3
        exact ⟨by first | rfl | (simp; done) | (simp [*]; done), by repeat (first | exact Drawn0.refl _ | apply Drawn0.step)⟩
      · replace c8 := Bool.eq_false_iff.mpr c8
        subst c8
        have H1 : (if a3 = 0 then (some (0, 0, 7)) else (if a0 = 213 then (if a2 ≥ a3 then (some (0, 0, 4)) else ((bits_Div32.f a2 a1 a3).bind fun bt119 => (some (bt119.1, bt119.2, 0)))) else (if (wrap64 (Go.bits .or .u64 (IntKind.u64.wrap ((IntKind.u64.wrap (a2)) * 4294967296)) (IntKind.u64.wrap (a1)))) = (-9223372036854775808) then (cell_Wide.j1 kj4 a0 (wrap64 (Go.bits .or .u64 (IntKind.u64.wrap ((IntKind.u64.wrap (a2)) * 4294967296)) (IntKind.u64.wrap (a1)))) (wrap64 (wrap32 (a3))) ((wrap64 (wrap32 (a3))) == (-1))) else (cell_Wide.j1 kj4 a0 (wrap64 (Go.bits .or .u64 (IntKind.u64.wrap ((IntKind.u64.wrap (a2)) * 4294967296)) (IntKind.u64.wrap (a1)))) (wrap64 (wrap32 (a3))) false)))) = some (r1, r2, r3) := by rw [if_neg (show ¬ (false = true) by decide)] at H; exact H
        clear H
        have H := H1
        clear H1
        by_cases c9 : a3 = 0
        · rw [if_pos c9] at H
          have c9b0 : (a3 == 0) = true := beq_iff_eq.mpr c9
          have c9b1 : (a3 != 0) = false := bne_eq_false_iff_eq.mpr c9
          clear c9
          simp only [Option.some.injEq, Prod.mk.injEq] at H
          obtain ⟨rfl, rfl, rfl⟩ := H
          go_wp2
          repeat (go_quiet (fail); try go_wp2)
          go_ret3
          exact ⟨by first | rfl | (simp; done) | (simp [*]; done), by repeat (first | exact Drawn0.refl _ | apply Drawn0.step)⟩
        · rw [if_neg c9] at H
          have c9b0 : (a3 == 0) = false := beq_eq_false_iff_ne.mpr c9
          have c9b1 : (a3 != 0) = true := bne_iff_ne.mpr c9
          by_cases c10 : a0 = 213
          · rw [if_pos c10] at H
            have c10b0 : (a0 == 213) = true := beq_iff_eq.mpr c10
            have c10b1 : (a0 != 213) = false := bne_eq_false_iff_eq.mpr c10
            clear c10
            by_cases c11 : a2 ≥ a3
            · rw [if_pos c11] at H
              have c11b0 : decide (a3 ≤ a2) = true := decide_eq_true c11
              clear c11
              simp only [Option.some.injEq, Prod.mk.injEq] at H
              obtain ⟨rfl, rfl, rfl⟩ := H
              go_wp2
              repeat (go_quiet (fail); try go_wp2)
              go_ret3
              exact ⟨by first | rfl | (simp; done) | (simp [*]; done), by repeat (first | exact Drawn0.refl _ | apply Drawn0.step)⟩
            · rw [if_neg c11] at H
              have c11b0 : decide (a3 ≤ a2) = false := decide_eq_false c11
              clear c11
              replace H := Option.bind_eq_some_iff.mp H
              obtain ⟨⟨t119, t120⟩, A120, H⟩ := H
              replace H : (some (t119, t120, 0)) = some (r1, r2, r3) := H
              have A12 := Aside0.mk A120
              clear A120
              simp only [Option.some.injEq, Prod.mk.injEq] at H
              obtain ⟨rfl, rfl, rfl⟩ := H
              go_wp2_with (first | (go_at_call 32; (with_reducible refine (bits_Div32.calls a2 a1 a3 t119 t120 _ A12.out).mono ?_); rintro e w' ⟨rfl, ⟨nd, rfl⟩⟩; (try first | exact ⟨rfl, _, World.drewN_drewN _ _ _⟩ | exact ⟨rfl, _, Eq.trans (World.drewN_drewN _ _ _) (congrArg (World.drewN _) (Nat.add_assoc _ _ _))⟩)))
              repeat (go_quiet (first | (go_at_call 32; (with_reducible refine (bits_Div32.calls a2 a1 a3 t119 t120 _ A12.out).mono ?_); rintro e w' ⟨rfl, ⟨nd, rfl⟩⟩; (try first | exact ⟨rfl, _, World.drewN_drewN _ _ _⟩ | exact ⟨rfl, _, Eq.trans (World.drewN_drewN _ _ _) (congrArg (World.drewN _) (Nat.add_assoc _ _ _))⟩))); try go_wp2_with (first | (go_at_call 32; (with_reducible refine (bits_Div32.calls a2 a1 a3 t119 t120 _ A12.out).mono ?_); rintro e w' ⟨rfl, ⟨nd, rfl⟩⟩; (try first | exact ⟨rfl, _, World.drewN_drewN _ _ _⟩ | exact ⟨rfl, _, Eq.trans (World.drewN_drewN _ _ _) (congrArg (World.drewN _) (Nat.add_assoc _ _ _))⟩))))
              go_ret3
              exact ⟨by first | rfl | (simp; done) | (simp [*]; done), by repeat (first | exact Drawn0.refl _ | apply Drawn0.step)⟩
          · rw [if_neg c10] at H
            have c10b0 : (a0 == 213) = false := beq_eq_false_iff_ne.mpr c10
            have c10b1 : (a0 != 213) = true := bne_iff_ne.mpr c10
            have HC13 := Aside0.mk H
            clear H
            go_upto_region 11 with (fail)
            repeat (go_quiet (fail); go_upto_region 11 with (fail))
            go_cut [58] (fun v58 wc => ∃ (kq : Nat) (x58_12 : Bool), v58 = .bool x58_12 ∧ Aside0 (cell_Wide.j1 kq a0 (wrap64 (Go.bits .or .u64 (IntKind.u64.wrap ((IntKind.u64.wrap (a2)) * 4294967296)) (IntKind.u64.wrap (a1)))) (wrap64 (wrap32 (a3))) x58_12 = some (r1, r2, r3)) ∧ Aside0 (kq ≤ kj4) ∧ Drawn0 w wc)
            case first =>
              have H := HC13.out
              clear HC13
              by_cases c14 : (wrap64 (Go.bits .or .u64 (IntKind.u64.wrap ((IntKind.u64.wrap (a2)) * 4294967296)) (IntKind.u64.wrap (a1)))) = (-9223372036854775808)
              · rw [if_pos c14] at H
                have c14b0 : ((wrap64 (Go.bits .or .u64 (IntKind.u64.wrap ((IntKind.u64.wrap (a2)) * 4294967296)) (IntKind.u64.wrap (a1)))) == (-9223372036854775808)) = true := beq_iff_eq.mpr c14
                have c14b1 : ((wrap64 (Go.bits .or .u64 (IntKind.u64.wrap ((IntKind.u64.wrap (a2)) * 4294967296)) (IntKind.u64.wrap (a1)))) != (-9223372036854775808)) = false := bne_eq_false_iff_eq.mpr c14
                clear c14
                (first | rw [c14b0] | (simp only [i64_w, i32_w]; rw [c14b0]) | skip)
                have H' := Aside0.mk H
                clear H
                go_wp2
                repeat (go_quiet (fail); try go_wp2)
                go_meet
                case rel => exact ⟨_, (((wrap64 (wrap32 (a3))) == (-1))), (by first | rfl | (simp; done) | (simp [*]; done)), H', ⟨by have := HJ4.out; first | omega | exact Nat.le_refl _⟩, by repeat (first | exact Drawn0.refl _ | apply Drawn0.step)⟩
              · rw [if_neg c14] at H
                have c14b0 : ((wrap64 (Go.bits .or .u64 (IntKind.u64.wrap ((IntKind.u64.wrap (a2)) * 4294967296)) (IntKind.u64.wrap (a1)))) == (-9223372036854775808)) = false := beq_eq_false_iff_ne.mpr c14
                have c14b1 : ((wrap64 (Go.bits .or .u64 (IntKind.u64.wrap ((IntKind.u64.wrap (a2)) * 4294967296)) (IntKind.u64.wrap (a1)))) != (-9223372036854775808)) = true := bne_iff_ne.mpr c14
                (first | rw [c14b0] | (simp only [i64_w, i32_w]; rw [c14b0]) | skip)
                have H' := Aside0.mk H
                clear H
                go_wp2
                repeat (go_quiet (fail); try go_wp2)
                go_meet
                case rel => exact ⟨_, (false), (by first | rfl | (simp; done) | (simp [*]; done)), H', ⟨by have := HJ4.out; first | omega | exact Nat.le_refl _⟩, by repeat (first | exact Drawn0.refl _ | apply Drawn0.step)⟩
            case rest =>
              clear HC13
              try clear c1
              try clear p2
              try clear p3
              try clear c4
              try clear c6
              try clear c6b0
              try clear c6b1
              try clear p6
              try clear c7
              try clear c7b0
              try clear c7b1
              try clear c8
              try clear c9
              try clear c9b0
              try clear c9b1
              try clear c10
              try clear c10b0
              try clear c10b1
              try clear c11
              try clear c11b0
              try clear c14
              try clear c14b0
              try clear c14b1
              try clear p2
              obtain ⟨kq, x58_12, rfl, HA, HJ12, ⟨mc12, rfl⟩⟩ := hcut
              cases kq with
              | zero => exact absurd HA.out (by simp [cell_Wide.j1])
              | succ kj12 =>
                have H := HA.out
                clear HA
                simp only [cell_Wide.j1] at H
                by_cases c15 : x58_12 = true
                · subst c15
                  have H1 : (some (0, 0, 4)) = some (r1, r2, r3) := by rw [if_pos rfl] at H; exact H
                  clear H
                  have H := H1
                  clear H1
                  simp only [Option.some.injEq, Prod.mk.injEq] at H
                  obtain ⟨rfl, rfl, rfl⟩ := H
                  go_wp2
                  repeat (go_quiet (fail); try go_wp2)
                  go_ret3
                  exact ⟨by first | rfl | (simp; done) | (simp [*]; done), by repeat (first | exact Drawn0.refl _ | apply Drawn0.step)⟩
                · replace c15 := Bool.eq_false_iff.mpr c15
                  subst c15
                  have H1 : (if (wrap64 (wrap32 (a3))) = 0 then (none) else (if a0 = 725 then (if (Int.tmod (wrap64 (Go.bits .or .u64 (IntKind.u64.wrap ((IntKind.u64.wrap (a2)) * 4294967296)) (IntKind.u64.wrap (a1)))) (wrap64 (wrap32 (a3)))) = 0 then (cell_Wide.j2 kj12 (wrap64 (wrap32 (a3))) (wrap64 (Int.tdiv (wrap64 (Go.bits .or .u64 (IntKind.u64.wrap ((IntKind.u64.wrap (a2)) * 4294967296)) (IntKind.u64.wrap (a1)))) (wrap64 (wrap32 (a3))))) (Int.tmod (wrap64 (Go.bits .or .u64 (IntKind.u64.wrap ((IntKind.u64.wrap (a2)) * 4294967296)) (IntKind.u64.wrap (a1)))) (wrap64 (wrap32 (a3)))) false) else (cell_Wide.j2 kj12 (wrap64 (wrap32 (a3))) (wrap64 (Int.tdiv (wrap64 (Go.bits .or .u64 (IntKind.u64.wrap ((IntKind.u64.wrap (a2)) * 4294967296)) (IntKind.u64.wrap (a1)))) (wrap64 (wrap32 (a3))))) (Int.tmod (wrap64 (Go.bits .or .u64 (IntKind.u64.wrap ((IntKind.u64.wrap (a2)) * 4294967296)) (IntKind.u64.wrap (a1)))) (wrap64 (wrap32 (a3)))) (decide ((Go.bits .xor .i64 (Int.tmod (wrap64 (Go.bits .or .u64 (IntKind.u64.wrap ((IntKind.u64.wrap (a2)) * 4294967296)) (IntKind.u64.wrap (a1)))) (wrap64 (wrap32 (a3)))) (wrap64 (wrap32 (a3)))) < 0)))) else (cell_Wide.j2 kj12 (wrap64 (wrap32 (a3))) (wrap64 (Int.tdiv (wrap64 (Go.bits .or .u64 (IntKind.u64.wrap ((IntKind.u64.wrap (a2)) * 4294967296)) (IntKind.u64.wrap (a1)))) (wrap64 (wrap32 (a3))))) (Int.tmod (wrap64 (Go.bits .or .u64 (IntKind.u64.wrap ((IntKind.u64.wrap (a2)) * 4294967296)) (IntKind.u64.wrap (a1)))) (wrap64 (wrap32 (a3)))) false))) = some (r1, r2, r3) := by rw [if_neg (show ¬ (false = true) by decide)] at H; exact H
                  clear H
                  have H := H1
                  clear H1
                  by_cases c16 : (wrap64 (wrap32 (a3))) = 0
                  · rw [if_pos c16] at H
                    exact absurd H (by simp)
                  · rw [if_neg c16] at H
                    have c16b0 : ((wrap64 (wrap32 (a3))) == 0) = false := beq_eq_false_iff_ne.mpr c16
                    have c16b1 : ((wrap64 (wrap32 (a3))) != 0) = true := bne_iff_ne.mpr c16
                    have HC17 := Aside0.mk H
                    clear H
                    go_upto_region 14 with (fail)
                    repeat (go_quiet (fail); go_upto_region 14 with (fail))
                    go_cut [76] (fun v76 wc => ∃ (kq : Nat) (x76_16 : Bool), v76 = .bool x76_16 ∧ Aside0 (cell_Wide.j2 kq (wrap64 (wrap32 (a3))) (wrap64 (Int.tdiv (wrap64 (Go.bits .or .u64 (IntKind.u64.wrap ((IntKind.u64.wrap (a2)) * 4294967296)) (IntKind.u64.wrap (a1)))) (wrap64 (wrap32 (a3))))) (Int.tmod (wrap64 (Go.bits .or .u64 (IntKind.u64.wrap ((IntKind.u64.wrap (a2)) * 4294967296)) (IntKind.u64.wrap (a1)))) (wrap64 (wrap32 (a3)))) x76_16 = some (r1, r2, r3)) ∧ Aside0 (kq ≤ kj12) ∧ Drawn0 w wc)
                    case first =>
                      have H := HC17.out
                      clear HC17
                      by_cases c18 : a0 = 725
                      · rw [if_pos c18] at H
                        have c18b0 : (a0 == 725) = true := beq_iff_eq.mpr c18
                        have c18b1 : (a0 != 725) = false := bne_eq_false_iff_eq.mpr c18
                        clear c18
                        (first | rw [c18b0] | (simp only [i64_w, i32_w]; rw [c18b0]) | skip)
                        by_cases c19 : (Int.tmod (wrap64 (Go.bits .or .u64 (IntKind.u64.wrap ((IntKind.u64.wrap (a2)) * 4294967296)) (IntKind.u64.wrap (a1)))) (wrap64 (wrap32 (a3)))) = 0
                        · rw [if_pos c19] at H
                          have c19b0 : ((Int.tmod (wrap64 (Go.bits .or .u64 (IntKind.u64.wrap ((IntKind.u64.wrap (a2)) * 4294967296)) (IntKind.u64.wrap (a1)))) (wrap64 (wrap32 (a3)))) == 0) = true := beq_iff_eq.mpr c19
                          have c19b1 : ((Int.tmod (wrap64 (Go.bits .or .u64 (IntKind.u64.wrap ((IntKind.u64.wrap (a2)) * 4294967296)) (IntKind.u64.wrap (a1)))) (wrap64 (wrap32 (a3)))) != 0) = false := bne_eq_false_iff_eq.mpr c19
                          clear c19
                          have H' := Aside0.mk H
                          clear H
                          go_wp2
                          repeat (go_quiet (fail); try go_wp2)
                          go_meet
                          case rel => exact ⟨_, (false), (by first | rfl | (simp; done) | (simp [*]; done)), H', ⟨by have := HJ4.out; have := HJ12.out; first | omega | exact Nat.le_refl _⟩, by repeat (first | exact Drawn0.refl _ | apply Drawn0.step)⟩
                        · rw [if_neg c19] at H
                          have c19b0 : ((Int.tmod (wrap64 (Go.bits .or .u64 (IntKind.u64.wrap ((IntKind.u64.wrap (a2)) * 4294967296)) (IntKind.u64.wrap (a1)))) (wrap64 (wrap32 (a3)))) == 0) = false := beq_eq_false_iff_ne.mpr c19
                          have c19b1 : ((Int.tmod (wrap64 (Go.bits .or .u64 (IntKind.u64.wrap ((IntKind.u64.wrap (a2)) * 4294967296)) (IntKind.u64.wrap (a1)))) (wrap64 (wrap32 (a3)))) != 0) = true := bne_iff_ne.mpr c19
                          have H' := Aside0.mk H
                          clear H
                          go_wp2
                          repeat (go_quiet (fail); try go_wp2)
                          go_meet
                          case rel => exact ⟨_, (decide ((Go.bits .xor .i64 (Int.tmod (wrap64 (Go.bits .or .u64 (IntKind.u64.wrap ((IntKind.u64.wrap (a2)) * 4294967296)) (IntKind.u64.wrap (a1)))) (wrap64 (wrap32 (a3)))) (wrap64 (wrap32 (a3)))) < 0)), (by first | rfl | (simp; done) | (simp [*]; done)), H', ⟨by have := HJ4.out; have := HJ12.out; first | omega | exact Nat.le_refl _⟩, by repeat (first | exact Drawn0.refl _ | apply Drawn0.step)⟩
                      · rw [if_neg c18] at H
                        have c18b0 : (a0 == 725) = false := beq_eq_false_iff_ne.mpr c18
                        have c18b1 : (a0 != 725) = true := bne_iff_ne.mpr c18
                        (first | rw [c18b0] | (simp only [i64_w, i32_w]; rw [c18b0]) | skip)
                        have H' := Aside0.mk H
                        clear H
                        go_wp2
                        repeat (go_quiet (fail); try go_wp2)
                        go_meet
                        case rel => exact ⟨_, (false), (by first | rfl | (simp; done) | (simp [*]; done)), H', ⟨by have := HJ4.out; have := HJ12.out; first | omega | exact Nat.le_refl _⟩, by repeat (first | exact Drawn0.refl _ | apply Drawn0.step)⟩
                    case rest =>
                      clear HC17
                      try clear c1
                      try clear p2
                      try clear p3
                      try clear c4
                      try clear c6
                      try clear c6b0
                      try clear c6b1
                      try clear p6
                      try clear c7
                      try clear c7b0
                      try clear c7b1
                      try clear c8
                      try clear c9
                      try clear c9b0
                      try clear c9b1
                      try clear c10
                      try clear c10b0
                      try clear c10b1
                      try clear c11
                      try clear c11b0
                      try clear c12
                      try clear c14
                      try clear c14b0
                      try clear c14b1
                      try clear c15
                      try clear c16
                      try clear c16b0
                      try clear c16b1
                      try clear c18
                      try clear c18b0
                      try clear c18b1
                      try clear c19
                      try clear c19b0
                      try clear c19b1
                      try clear p2
                      try clear p3
                      try clear p6
                      obtain ⟨kq, x76_16, rfl, HA, HJ16, ⟨mc16, rfl⟩⟩ := hcut
                      cases kq with
                      | zero => exact absurd HA.out (by simp [cell_Wide.j2])
                      | succ kj16 =>
                        have H := HA.out
                        clear HA
                        simp only [cell_Wide.j2] at H
                        by_cases c20 : x76_16 = true
                        · subst c20
                          have H1 : (if (wrap64 ((wrap64 (Int.tdiv (wrap64 (Go.bits .or .u64 (IntKind.u64.wrap ((IntKind.u64.wrap (a2)) * 4294967296)) (IntKind.u64.wrap (a1)))) (wrap64 (wrap32 (a3))))) - 1)) = (wrap64 (wrap32 (wrap64 ((wrap64 (Int.tdiv (wrap64 (Go.bits .or .u64 (IntKind.u64.wrap ((IntKind.u64.wrap (a2)) * 4294967296)) (IntKind.u64.wrap (a1)))) (wrap64 (wrap32 (a3))))) - 1)))) then (some ((wrap64 ((wrap64 (Int.tdiv (wrap64 (Go.bits .or .u64 (IntKind.u64.wrap ((IntKind.u64.wrap (a2)) * 4294967296)) (IntKind.u64.wrap (a1)))) (wrap64 (wrap32 (a3))))) - 1)) % 4294967296, (wrap64 ((Int.tmod (wrap64 (Go.bits .or .u64 (IntKind.u64.wrap ((IntKind.u64.wrap (a2)) * 4294967296)) (IntKind.u64.wrap (a1)))) (wrap64 (wrap32 (a3)))) + (wrap64 (wrap32 (a3))))) % 4294967296, 0)) else (some (0, 0, 4))) = some (r1, r2, r3) := by rw [if_pos rfl] at H; exact H
                          clear H
                          have H := H1
                          clear H1
                          by_cases c21 : (wrap64 ((wrap64 (Int.tdiv (wrap64 (Go.bits .or .u64 (IntKind.u64.wrap ((IntKind.u64.wrap (a2)) * 4294967296)) (IntKind.u64.wrap (a1)))) (wrap64 (wrap32 (a3))))) - 1)) = (wrap64 (wrap32 (wrap64 ((wrap64 (Int.tdiv (wrap64 (Go.bits .or .u64 (IntKind.u64.wrap ((IntKind.u64.wrap (a2)) * 4294967296)) (IntKind.u64.wrap (a1)))) (wrap64 (wrap32 (a3))))) - 1))))
                          · rw [if_pos c21] at H
                            have c21b0 : ((wrap64 ((wrap64 (Int.tdiv (wrap64 (Go.bits .or .u64 (IntKind.u64.wrap ((IntKind.u64.wrap (a2)) * 4294967296)) (IntKind.u64.wrap (a1)))) (wrap64 (wrap32 (a3))))) - 1)) == (wrap64 (wrap32 (wrap64 ((wrap64 (Int.tdiv (wrap64 (Go.bits .or .u64 (IntKind.u64.wrap ((IntKind.u64.wrap (a2)) * 4294967296)) (IntKind.u64.wrap (a1)))) (wrap64 (wrap32 (a3))))) - 1))))) = true := beq_iff_eq.mpr c21
                            have c21b1 : ((wrap64 ((wrap64 (Int.tdiv (wrap64 (Go.bits .or .u64 (IntKind.u64.wrap ((IntKind.u64.wrap (a2)) * 4294967296)) (IntKind.u64.wrap (a1)))) (wrap64 (wrap32 (a3))))) - 1)) != (wrap64 (wrap32 (wrap64 ((wrap64 (Int.tdiv (wrap64 (Go.bits .or .u64 (IntKind.u64.wrap ((IntKind.u64.wrap (a2)) * 4294967296)) (IntKind.u64.wrap (a1)))) (wrap64 (wrap32 (a3))))) - 1))))) = false := bne_eq_false_iff_eq.mpr c21
                            clear c21
                            simp only [Option.some.injEq, Prod.mk.injEq] at H
                            obtain ⟨rfl, rfl, rfl⟩ := H
                            go_wp2
                            repeat (go_quiet (fail); try go_wp2)
                            go_ret3
                            exact ⟨by first | rfl | (simp; done) | (simp [*]; done), by repeat (first | exact Drawn0.refl _ | apply Drawn0.step)⟩
                          · rw [if_neg c21] at H
                            have c21b0 : ((wrap64 ((wrap64 (Int.tdiv (wrap64 (Go.bits .or .u64 (IntKind.u64.wrap ((IntKind.u64.wrap (a2)) * 4294967296)) (IntKind.u64.wrap (a1)))) (wrap64 (wrap32 (a3))))) - 1)) == (wrap64 (wrap32 (wrap64 ((wrap64 (Int.tdiv (wrap64 (Go.bits .or .u64 (IntKind.u64.wrap ((IntKind.u64.wrap (a2)) * 4294967296)) (IntKind.u64.wrap (a1)))) (wrap64 (wrap32 (a3))))) - 1))))) = false := beq_eq_false_iff_ne.mpr c21
                            have c21b1 : ((wrap64 ((wrap64 (Int.tdiv (wrap64 (Go.bits .or .u64 (IntKind.u64.wrap ((IntKind.u64.wrap (a2)) * 4294967296)) (IntKind.u64.wrap (a1)))) (wrap64 (wrap32 (a3))))) - 1)) != (wrap64 (wrap32 (wrap64 ((wrap64 (Int.tdiv (wrap64 (Go.bits .or .u64 (IntKind.u64.wrap ((IntKind.u64.wrap (a2)) * 4294967296)) (IntKind.u64.wrap (a1)))) (wrap64 (wrap32 (a3))))) - 1))))) = true := bne_iff_ne.mpr c21
                            simp only [Option.some.injEq, Prod.mk.injEq] at H
                            obtain ⟨rfl, rfl, rfl⟩ := H
                            go_wp2
                            repeat (go_quiet (fail); try go_wp2)
                            go_ret3
                            exact ⟨by first | rfl | (simp; done) | (simp [*]; done), by repeat (first | exact Drawn0.refl _ | apply Drawn0.step)⟩
                        · replace c20 := Bool.eq_false_iff.mpr c20
                          subst c20
                          have H1 : (if (wrap64 (Int.tdiv (wrap64 (Go.bits .or .u64 (IntKind.u64.wrap ((IntKind.u64.wrap (a2)) * 4294967296)) (IntKind.u64.wrap (a1)))) (wrap64 (wrap32 (a3))))) = (wrap64 (wrap32 ((wrap64 (Int.tdiv (wrap64 (Go.bits .or .u64 (IntKind.u64.wrap ((IntKind.u64.wrap (a2)) * 4294967296)) (IntKind.u64.wrap (a1)))) (wrap64 (wrap32 (a3)))))))) then (some (((wrap64 (Int.tdiv (wrap64 (Go.bits .or .u64 (IntKind.u64.wrap ((IntKind.u64.wrap (a2)) * 4294967296)) (IntKind.u64.wrap (a1)))) (wrap64 (wrap32 (a3)))))) % 4294967296, ((Int.tmod (wrap64 (Go.bits .or .u64 (IntKind.u64.wrap ((IntKind.u64.wrap (a2)) * 4294967296)) (IntKind.u64.wrap (a1)))) (wrap64 (wrap32 (a3))))) % 4294967296, 0)) else (some (0, 0, 4))) = some (r1, r2, r3) := by rw [if_neg (show ¬ (false = true) by decide)] at H; exact H
                          clear H
                          have H := H1
                          clear H1
                          by_cases c22 : (wrap64 (Int.tdiv (wrap64 (Go.bits .or .u64 (IntKind.u64.wrap ((IntKind.u64.wrap (a2)) * 4294967296)) (IntKind.u64.wrap (a1)))) (wrap64 (wrap32 (a3))))) = (wrap64 (wrap32 ((wrap64 (Int.tdiv (wrap64 (Go.bits .or .u64 (IntKind.u64.wrap ((IntKind.u64.wrap (a2)) * 4294967296)) (IntKind.u64.wrap (a1)))) (wrap64 (wrap32 (a3))))))))
                          · rw [if_pos c22] at H
                            have c22b0 : ((wrap64 (Int.tdiv (wrap64 (Go.bits .or .u64 (IntKind.u64.wrap ((IntKind.u64.wrap (a2)) * 4294967296)) (IntKind.u64.wrap (a1)))) (wrap64 (wrap32 (a3))))) == (wrap64 (wrap32 ((wrap64 (Int.tdiv (wrap64 (Go.bits .or .u64 (IntKind.u64.wrap ((IntKind.u64.wrap (a2)) * 4294967296)) (IntKind.u64.wrap (a1)))) (wrap64 (wrap32 (a3))))))))) = true := beq_iff_eq.mpr c22
                            have c22b1 : ((wrap64 (Int.tdiv (wrap64 (Go.bits .or .u64 (IntKind.u64.wrap ((IntKind.u64.wrap (a2)) * 4294967296)) (IntKind.u64.wrap (a1)))) (wrap64 (wrap32 (a3))))) != (wrap64 (wrap32 ((wrap64 (Int.tdiv (wrap64 (Go.bits .or .u64 (IntKind.u64.wrap ((IntKind.u64.wrap (a2)) * 4294967296)) (IntKind.u64.wrap (a1)))) (wrap64 (wrap32 (a3))))))))) = false := bne_eq_false_iff_eq.mpr c22
                            clear c22
                            simp only [Option.some.injEq, Prod.mk.injEq] at H
                            obtain ⟨rfl, rfl, rfl⟩ := H
                            go_wp2
                            repeat (go_quiet (fail); try go_wp2)
                            go_ret3
                            exact ⟨by first | rfl | (simp; done) | (simp [*]; done), by repeat (first | exact Drawn0.refl _ | apply Drawn0.step)⟩
                          · rw [if_neg c22] at H
                            have c22b0 : ((wrap64 (Int.tdiv (wrap64 (Go.bits .or .u64 (IntKind.u64.wrap ((IntKind.u64.wrap (a2)) * 4294967296)) (IntKind.u64.wrap (a1)))) (wrap64 (wrap32 (a3))))) == (wrap64 (wrap32 ((wrap64 (Int.tdiv (wrap64 (Go.bits .or .u64 (IntKind.u64.wrap ((IntKind.u64.wrap (a2)) * 4294967296)) (IntKind.u64.wrap (a1)))) (wrap64 (wrap32 (a3))))))))) = false := beq_eq_false_iff_ne.mpr c22
                            have c22b1 : ((wrap64 (Int.tdiv (wrap64 (Go.bits .or .u64 (IntKind.u64.wrap ((IntKind.u64.wrap (a2)) * 4294967296)) (IntKind.u64.wrap (a1)))) (wrap64 (wrap32 (a3))))) != (wrap64 (wrap32 ((wrap64 (Int.tdiv (wrap64 (Go.bits .or .u64 (IntKind.u64.wrap ((IntKind.u64.wrap (a2)) * 4294967296)) (IntKind.u64.wrap (a1)))) (wrap64 (wrap32 (a3))))))))) = true := bne_iff_ne.mpr c22
                            simp only [Option.some.injEq, Prod.mk.injEq] at H
                            obtain ⟨rfl, rfl, rfl⟩ := H
                            go_wp2
                            repeat (go_quiet (fail); try go_wp2)
                            go_ret3
                            exact ⟨by first | rfl | (simp; done) | (simp [*]; done), by repeat (first | exact Drawn0.refl _ | apply Drawn0.step)⟩

/-! ### bits_Mul32: function 34 -/
def bits_Mul32.f (a0 : Int) (a1 : Int) : Option (Int × Int) := some (((IntKind.u64.wrap ((IntKind.u64.wrap (a0)) * (IntKind.u64.wrap (a1)))) / 4294967296) % 4294967296, (IntKind.u64.wrap ((IntKind.u64.wrap (a0)) * (IntKind.u64.wrap (a1)))) % 4294967296)
set_option maxHeartbeats 8000000 in
set_option maxRecDepth 100000 in
theorem bits_Mul32.calls (a0 : Int) (a1 : Int) (r1 : Int) (r2 : Int) (w : World) (h : bits_Mul32.f a0 a1 = some (r1, r2)) :
    Calls Try.prog 34 #[.int .u32 a0, .int .u32 a1] w fun e w' => e = .returned (.tuple #[.int .u32 r1, .int .u32 r2]) ∧ Drawn0 w w' := by
  have H : (some (((IntKind.u64.wrap ((IntKind.u64.wrap (a0)) * (IntKind.u64.wrap (a1)))) / 4294967296) % 4294967296, (IntKind.u64.wrap ((IntKind.u64.wrap (a0)) * (IntKind.u64.wrap (a1)))) % 4294967296)) = some (r1, r2) := h
  clear h
  simp only [Option.some.injEq, Prod.mk.injEq] at H
  obtain ⟨rfl, rfl⟩ := H
  go_enter Try.func34, Try.ntmps34
  go_wp2
  go_ret2
  exact ⟨by first | rfl | (simp; done) | (simp [*]; done), by repeat (first | exact Drawn0.refl _ | apply Drawn0.step)⟩

/-! ### cell_Times: function 12 -/
def cell_Times.f (a0 : Int) (a1 : Int) : Option (Int × Int) := (bits_Mul32.f a0 a1).bind fun bt121 => (some (bt121.2, bt121.1))
set_option maxHeartbeats 8000000 in
set_option maxRecDepth 100000 in
theorem cell_Times.calls (a0 : Int) (a1 : Int) (r1 : Int) (r2 : Int) (w : World) (h : cell_Times.f a0 a1 = some (r1, r2)) :
    Calls Try.prog 12 #[.int .u32 a0, .int .u32 a1] w fun e w' => e = .returned (.tuple #[.int .u32 r1, .int .u32 r2]) ∧ Drawn0 w w' := by
  have H : ((bits_Mul32.f a0 a1).bind fun bt121 => (some (bt121.2, bt121.1))) = some (r1, r2) := h
  clear h
  replace H := Option.bind_eq_some_iff.mp H
  obtain ⟨⟨t121, t122⟩, A30, H⟩ := H
  replace H : (some (t122, t121)) = some (r1, r2) := H
  have A3 := Aside0.mk A30
  clear A30
  simp only [Option.some.injEq, Prod.mk.injEq] at H
  obtain ⟨rfl, rfl⟩ := H
  go_enter Try.func12, Try.ntmps12
  go_wp2_with (first | ((with_reducible refine gate_callee (f := 34) rfl ?_); refine goesL_ (some 11) rfl rfl Try.func34 (by kernel_rfl) rfl #[.int .u32 a0, .int .u32 a1] rfl (by (try simp only [List.map_toArray, List.map_cons, List.map_nil]); first | done | rfl | (simp only [List.length_drop, List.length_take]; rfl)) ?_; (with_reducible refine (bits_Mul32.calls a0 a1 t121 t122 _ A3.out).mono ?_); rintro e w' ⟨rfl, ⟨nd, rfl⟩⟩; refine ⟨_, rfl, ?_⟩))
  go_ret2
  exact ⟨by first | rfl | (simp; done) | (simp [*]; done), by repeat (first | exact Drawn0.refl _ | apply Drawn0.step)⟩

/-! ### bits_ReverseBytes16: function 36 -/
def bits_ReverseBytes16.f (a0 : Int) : Option (Int) := some (Go.bits .or .u16 (a0 / 256) (IntKind.u16.wrap (a0 * 256)))
set_option maxHeartbeats 8000000 in
set_option maxRecDepth 100000 in
theorem bits_ReverseBytes16.calls (a0 : Int) (r : Int) (w : World) (h : bits_ReverseBytes16.f a0 = some r) :
    Calls Try.prog 36 #[.int .u16 a0] w fun e w' => e = .returned (.int .u16 r) ∧ Drawn0 w w' := by
  have H : (some (Go.bits .or .u16 (a0 / 256) (IntKind.u16.wrap (a0 * 256)))) = some r := h
  clear h
  obtain rfl := Option.some.inj H
  go_enter Try.func36, Try.ntmps36
  go_wp2
  go_ret
  exact ⟨by first | rfl | (simp; done) | (simp [*]; done), by repeat (first | exact Drawn0.refl _ | apply Drawn0.step)⟩

/-! ### cell_Un: function 14 -/
def cell_Un.f (a0 : Int) (a1 : Int) : Option (Int × Int) := if a0 = 38 then (some (Go.bits .xor .u32 4294967295 a1, 0)) else (if a0 = 44 then (some ((-a1) % 4294967296, 0)) else (if a0 = 45 then (if (wrap32 (a1)) < 0 then (some ((-a1) % 4294967296, 0)) else (some (a1, 0))) else (if a0 = 52 then ((cell_flag.f ((wrap32 (a1)) == 0)).bind fun t123 => (some (t123, 0))) else (if a0 = 53 then ((cell_flag.f ((wrap32 (a1)) != 0)).bind fun t124 => (some (t124, 0))) else (if a0 = 54 then ((cell_flag.f (decide ((wrap32 (a1)) < 0))).bind fun t125 => (some (t125, 0))) else (if a0 = 55 then ((cell_flag.f (decide ((wrap32 (a1)) ≤ 0))).bind fun t126 => (some (t126, 0))) else (if a0 = 56 then ((cell_flag.f (decide ((wrap32 (a1)) > 0))).bind fun t127 => (some (t127, 0))) else (if a0 = 57 then ((cell_flag.f (decide ((wrap32 (a1)) ≥ 0))).bind fun t128 => (some (t128, 0))) else (if a0 = 87 then (some (((wrap32 (a1)) / 2) % 4294967296, 0)) else (if a0 = 88 then (some (a1 / 2, 0)) else (if a0 = 89 then (some ((a1 * 2) % 4294967296, 0)) else (if a0 = 128 then ((bits_ReverseBytes16.f (IntKind.u16.wrap (a1))).bind fun t129 => (some ((t129) % 4294967296, 0))) else (if a0 = 129 then (if ((a1 - 97) % 4294967296) < 26 then (some ((a1 - 32) % 4294967296, 0)) else (some (a1, 0))) else (if a0 = 130 then (if ((a1 - 65) % 4294967296) < 26 then (some ((a1 + 32) % 4294967296, 0)) else (some (a1, 0))) else (some (0, 2))))))))))))))))
set_option maxHeartbeats 8000000 in
set_option maxRecDepth 100000 in
theorem cell_Un.calls (a0 : Int) (a1 : Int) (r1 : Int) (r2 : Int) (w : World) (h : cell_Un.f a0 a1 = some (r1, r2)) :
    Calls Try.prog 14 #[.int .i64 a0, .int .u32 a1] w fun e w' => e = .returned (.tuple #[.int .u32 r1, .int .i64 r2]) ∧ Drawn0 w w' := by
  have H : (if a0 = 38 then (some (Go.bits .xor .u32 4294967295 a1, 0)) else (if a0 = 44 then (some ((-a1) % 4294967296, 0)) else (if a0 = 45 then (if (wrap32 (a1)) < 0 then (some ((-a1) % 4294967296, 0)) else (some (a1, 0))) else (if a0 = 52 then ((cell_flag.f ((wrap32 (a1)) == 0)).bind fun t123 => (some (t123, 0))) else (if a0 = 53 then ((cell_flag.f ((wrap32 (a1)) != 0)).bind fun t124 => (some (t124, 0))) else (if a0 = 54 then ((cell_flag.f (decide ((wrap32 (a1)) < 0))).bind fun t125 => (some (t125, 0))) else (if a0 = 55 then ((cell_flag.f (decide ((wrap32 (a1)) ≤ 0))).bind fun t126 => (some (t126, 0))) else (if a0 = 56 then ((cell_flag.f (decide ((wrap32 (a1)) > 0))).bind fun t127 => (some (t127, 0))) else (if a0 = 57 then ((cell_flag.f (decide ((wrap32 (a1)) ≥ 0))).bind fun t128 => (some (t128, 0))) else (if a0 = 87 then (some (((wrap32 (a1)) / 2) % 4294967296, 0)) else (if a0 = 88 then (some (a1 / 2, 0)) else (if a0 = 89 then (some ((a1 * 2) % 4294967296, 0)) else (if a0 = 128 then ((bits_ReverseBytes16.f (IntKind.u16.wrap (a1))).bind fun t129 => (some ((t129) % 4294967296, 0))) else (if a0 = 129 then (if ((a1 - 97) % 4294967296) < 26 then (some ((a1 - 32) % 4294967296, 0)) else (some (a1, 0))) else (if a0 = 130 then (if ((a1 - 65) % 4294967296) < 26 then (some ((a1 + 32) % 4294967296, 0)) else (some (a1, 0))) else (some (0, 2))))))))))))))))) = some (r1, r2) := h
  clear h
  by_cases c3 : a0 = 38
  · rw [if_pos c3] at H
    have c3b0 : (a0 == 38) = true := beq_iff_eq.mpr c3
    have c3b1 : (a0 != 38) = false := bne_eq_false_iff_eq.mpr c3
    clear c3
    simp only [Option.some.injEq, Prod.mk.injEq] at H
    obtain ⟨rfl, rfl⟩ := H
    go_enter Try.func14, Try.ntmps14
    go_wp2
    go_ret2
    exact ⟨by first | rfl | (simp; done) | (simp [*]; done), by repeat (first | exact Drawn0.refl _ | apply Drawn0.step)⟩
  · rw [if_neg c3] at H
    have c3b0 : (a0 == 38) = false := beq_eq_false_iff_ne.mpr c3
    have c3b1 : (a0 != 38) = true := bne_iff_ne.mpr c3
    by_cases c4 : a0 = 44
    · rw [if_pos c4] at H
      have c4b0 : (a0 == 44) = true := beq_iff_eq.mpr c4
      have c4b1 : (a0 != 44) = false := bne_eq_false_iff_eq.mpr c4
      clear c4
      simp only [Option.some.injEq, Prod.mk.injEq] at H
      obtain ⟨rfl, rfl⟩ := H
      go_enter Try.func14, Try.ntmps14
      go_wp2
      go_ret2
      exact ⟨by first | rfl | (simp; done) | (simp [*]; done), by repeat (first | exact Drawn0.refl _ | apply Drawn0.step)⟩
    · rw [if_neg c4] at H
      have c4b0 : (a0 == 44) = false := beq_eq_false_iff_ne.mpr c4
      have c4b1 : (a0 != 44) = true := bne_iff_ne.mpr c4
      by_cases c5 : a0 = 45
      · rw [if_pos c5] at H
        have c5b0 : (a0 == 45) = true := beq_iff_eq.mpr c5
        have c5b1 : (a0 != 45) = false := bne_eq_false_iff_eq.mpr c5
        clear c5
        by_cases c6 : (wrap32 (a1)) < 0
        · rw [if_pos c6] at H
          have c6b0 : decide ((wrap32 (a1)) < 0) = true := decide_eq_true c6
          clear c6
          simp only [Option.some.injEq, Prod.mk.injEq] at H
          obtain ⟨rfl, rfl⟩ := H
          go_enter Try.func14, Try.ntmps14
          go_wp2
          go_ret2
          exact ⟨by first | rfl | (simp; done) | (simp [*]; done), by repeat (first | exact Drawn0.refl _ | apply Drawn0.step)⟩
        · rw [if_neg c6] at H
          have c6b0 : decide ((wrap32 (a1)) < 0) = false := decide_eq_false c6
          clear c6
          simp only [Option.some.injEq, Prod.mk.injEq] at H
          obtain ⟨rfl, rfl⟩ := H
          go_enter Try.func14, Try.ntmps14
          go_wp2
          go_ret2
          exact ⟨by first | rfl | (simp; done) | (simp [*]; done), by repeat (first | exact Drawn0.refl _ | apply Drawn0.step)⟩
      · rw [if_neg c5] at H
        have c5b0 : (a0 == 45) = false := beq_eq_false_iff_ne.mpr c5
        have c5b1 : (a0 != 45) = true := bne_iff_ne.mpr c5
        by_cases c7 : a0 = 52
        · rw [if_pos c7] at H
          have c7b0 : (a0 == 52) = true := beq_iff_eq.mpr c7
          have c7b1 : (a0 != 52) = false := bne_eq_false_iff_eq.mpr c7
          clear c7
          replace H := Option.bind_eq_some_iff.mp H
          obtain ⟨t123, A80, H⟩ := H
          replace H : (some (t123, 0)) = some (r1, r2) := H
          have A8 := Aside0.mk A80
          clear A80
          simp only [Option.some.injEq, Prod.mk.injEq] at H
          obtain ⟨rfl, rfl⟩ := H
          go_enter Try.func14, Try.ntmps14
          go_wp2_with (first | ((with_reducible refine gate_callee (f := 35) rfl ?_); refine goesL_ (some 29) rfl rfl Try.func35 (by kernel_rfl) rfl #[.bool ((wrap32 (a1)) == 0)] rfl (by (try simp only [List.map_toArray, List.map_cons, List.map_nil]); first | done | rfl | (simp only [List.length_drop, List.length_take]; rfl)) ?_; (with_reducible refine (cell_flag.calls ((wrap32 (a1)) == 0) t123 _ A8.out).mono ?_); rintro e w' ⟨rfl, ⟨nd, rfl⟩⟩; refine ⟨_, rfl, ?_⟩))
          go_ret2
          exact ⟨by first | rfl | (simp; done) | (simp [*]; done), by repeat (first | exact Drawn0.refl _ | apply Drawn0.step)⟩
        · rw [if_neg c7] at H
          have c7b0 : (a0 == 52) = false := beq_eq_false_iff_ne.mpr c7
          have c7b1 : (a0 != 52) = true := bne_iff_ne.mpr c7
          by_cases c9 : a0 = 53
          · rw [if_pos c9] at H
            have c9b0 : (a0 == 53) = true := beq_iff_eq.mpr c9
            have c9b1 : (a0 != 53) = false := bne_eq_false_iff_eq.mpr c9
            clear c9
            replace H := Option.bind_eq_some_iff.mp H
            obtain ⟨t124, A100, H⟩ := H
            replace H : (some (t124, 0)) = some (r1, r2) := H
            have A10 := Aside0.mk A100
            clear A100
            simp only [Option.some.injEq, Prod.mk.injEq] at H
            obtain ⟨rfl, rfl⟩ := H
            go_enter Try.func14, Try.ntmps14
            go_wp2_with (first | ((with_reducible refine gate_callee (f := 35) rfl ?_); refine goesL_ (some 34) rfl rfl Try.func35 (by kernel_rfl) rfl #[.bool ((wrap32 (a1)) != 0)] rfl (by (try simp only [List.map_toArray, List.map_cons, List.map_nil]); first | done | rfl | (simp only [List.length_drop, List.length_take]; rfl)) ?_; (with_reducible refine (cell_flag.calls ((wrap32 (a1)) != 0) t124 _ A10.out).mono ?_); rintro e w' ⟨rfl, ⟨nd, rfl⟩⟩; refine ⟨_, rfl, ?_⟩))
            go_ret2
            exact ⟨by first | rfl | (simp; done) | (simp [*]; done), by repeat (first | exact Drawn0.refl _ | apply Drawn0.step)⟩
          · rw [if_neg c9] at H
            have c9b0 : (a0 == 53) = false := beq_eq_false_iff_ne.mpr c9
            have c9b1 : (a0 != 53) = true := bne_iff_ne.mpr c9
            by_cases c11 : a0 = 54
            · rw [if_pos c11] at H
              have c11b0 : (a0 == 54) = true := beq_iff_eq.mpr c11
              have c11b1 : (a0 != 54) = false := bne_eq_false_iff_eq.mpr c11
              clear c11
              replace H := Option.bind_eq_some_iff.mp H
              obtain ⟨t125, A120, H⟩ := H
              replace H : (some (t125, 0)) = some (r1, r2) := H
              have A12 := Aside0.mk A120
              clear A120
              simp only [Option.some.injEq, Prod.mk.injEq] at H
              obtain ⟨rfl, rfl⟩ := H
              go_enter Try.func14, Try.ntmps14
              go_wp2_with (first | ((with_reducible refine gate_callee (f := 35) rfl ?_); refine goesL_ (some 39) rfl rfl Try.func35 (by kernel_rfl) rfl #[.bool (decide ((wrap32 (a1)) < 0))] rfl (by (try simp only [List.map_toArray, List.map_cons, List.map_nil]); first | done | rfl | (simp only [List.length_drop, List.length_take]; rfl)) ?_; (with_reducible refine (cell_flag.calls (decide ((wrap32 (a1)) < 0)) t125 _ A12.out).mono ?_); rintro e w' ⟨rfl, ⟨nd, rfl⟩⟩; refine ⟨_, rfl, ?_⟩))
              go_ret2
              exact ⟨by first | rfl | (simp; done) | (simp [*]; done), by repeat (first | exact Drawn0.refl _ | apply Drawn0.step)⟩
            · rw [if_neg c11] at H
              have c11b0 : (a0 == 54) = false := beq_eq_false_iff_ne.mpr c11
              have c11b1 : (a0 != 54) = true := bne_iff_ne.mpr c11
              by_cases c13 : a0 = 55
              · rw [if_pos c13] at H
                have c13b0 : (a0 == 55) = true := beq_iff_eq.mpr c13
                have c13b1 : (a0 != 55) = false := bne_eq_false_iff_eq.mpr c13
                clear c13
                replace H := Option.bind_eq_some_iff.mp H
                obtain ⟨t126, A140, H⟩ := H
                replace H : (some (t126, 0)) = some (r1, r2) := H
                have A14 := Aside0.mk A140
                clear A140
                simp only [Option.some.injEq, Prod.mk.injEq] at H
                obtain ⟨rfl, rfl⟩ := H
                go_enter Try.func14, Try.ntmps14
                go_wp2_with (first | ((with_reducible refine gate_callee (f := 35) rfl ?_); refine goesL_ (some 44) rfl rfl Try.func35 (by kernel_rfl) rfl #[.bool (decide ((wrap32 (a1)) ≤ 0))] rfl (by (try simp only [List.map_toArray, List.map_cons, List.map_nil]); first | done | rfl | (simp only [List.length_drop, List.length_take]; rfl)) ?_; (with_reducible refine (cell_flag.calls (decide ((wrap32 (a1)) ≤ 0)) t126 _ A14.out).mono ?_); rintro e w' ⟨rfl, ⟨nd, rfl⟩⟩; refine ⟨_, rfl, ?_⟩))
                go_ret2
                exact ⟨by first | rfl | (simp; done) | (simp [*]; done), by repeat (first | exact Drawn0.refl _ | apply Drawn0.step)⟩
              · rw [if_neg c13] at H
                have c13b0 : (a0 == 55) = false := beq_eq_false_iff_ne.mpr c13
                have c13b1 : (a0 != 55) = true := bne_iff_ne.mpr c13
                by_cases c15 : a0 = 56
                · rw [if_pos c15] at H
                  have c15b0 : (a0 == 56) = true := beq_iff_eq.mpr c15
                  have c15b1 : (a0 != 56) = false := bne_eq_false_iff_eq.mpr c15
                  clear c15
                  replace H := Option.bind_eq_some_iff.mp H
                  obtain ⟨t127, A160, H⟩ := H
                  replace H : (some (t127, 0)) = some (r1, r2) := H
                  have A16 := Aside0.mk A160
                  clear A160
                  simp only [Option.some.injEq, Prod.mk.injEq] at H
                  obtain ⟨rfl, rfl⟩ := H
                  go_enter Try.func14, Try.ntmps14
                  go_wp2_with (first | ((with_reducible refine gate_callee (f := 35) rfl ?_); refine goesL_ (some 49) rfl rfl Try.func35 (by kernel_rfl) rfl #[.bool (decide ((wrap32 (a1)) > 0))] rfl (by (try simp only [List.map_toArray, List.map_cons, List.map_nil]); first | done | rfl | (simp only [List.length_drop, List.length_take]; rfl)) ?_; (with_reducible refine (cell_flag.calls (decide ((wrap32 (a1)) > 0)) t127 _ A16.out).mono ?_); rintro e w' ⟨rfl, ⟨nd, rfl⟩⟩; refine ⟨_, rfl, ?_⟩))
                  go_ret2
                  exact ⟨by first | rfl | (simp; done) | (simp [*]; done), by repeat (first | exact Drawn0.refl _ | apply Drawn0.step)⟩
                · rw [if_neg c15] at H
                  have c15b0 : (a0 == 56) = false := beq_eq_false_iff_ne.mpr c15
                  have c15b1 : (a0 != 56) = true := bne_iff_ne.mpr c15
                  by_cases c17 : a0 = 57
                  · rw [if_pos c17] at H
                    have c17b0 : (a0 == 57) = true := beq_iff_eq.mpr c17
                    have c17b1 : (a0 != 57) = false := bne_eq_false_iff_eq.mpr c17
                    clear c17
                    replace H := Option.bind_eq_some_iff.mp H
                    obtain ⟨t128, A180, H⟩ := H
                    replace H : (some (t128, 0)) = some (r1, r2) := H
                    have A18 := Aside0.mk A180
                    clear A180
                    simp only [Option.some.injEq, Prod.mk.injEq] at H
                    obtain ⟨rfl, rfl⟩ := H
                    go_enter Try.func14, Try.ntmps14
                    go_wp2_with (first | ((with_reducible refine gate_callee (f := 35) rfl ?_); refine goesL_ (some 54) rfl rfl Try.func35 (by kernel_rfl) rfl #[.bool (decide ((wrap32 (a1)) ≥ 0))] rfl (by (try simp only [List.map_toArray, List.map_cons, List.map_nil]); first | done | rfl | (simp only [List.length_drop, List.length_take]; rfl)) ?_; (with_reducible refine (cell_flag.calls (decide ((wrap32 (a1)) ≥ 0)) t128 _ A18.out).mono ?_); rintro e w' ⟨rfl, ⟨nd, rfl⟩⟩; refine ⟨_, rfl, ?_⟩))
                    go_ret2
                    exact ⟨by first | rfl | (simp; done) | (simp [*]; done), by repeat (first | exact Drawn0.refl _ | apply Drawn0.step)⟩
                  · rw [if_neg c17] at H
                    have c17b0 : (a0 == 57) = false := beq_eq_false_iff_ne.mpr c17
                    have c17b1 : (a0 != 57) = true := bne_iff_ne.mpr c17
                    by_cases c19 : a0 = 87
                    · rw [if_pos c19] at H
                      have c19b0 : (a0 == 87) = true := beq_iff_eq.mpr c19
                      have c19b1 : (a0 != 87) = false := bne_eq_false_iff_eq.mpr c19
                      clear c19
                      simp only [Option.some.injEq, Prod.mk.injEq] at H
                      obtain ⟨rfl, rfl⟩ := H
                      go_enter Try.func14, Try.ntmps14
                      go_wp2
                      go_ret2
                      exact ⟨by first | rfl | (simp; done) | (simp [*]; done), by repeat (first | exact Drawn0.refl _ | apply Drawn0.step)⟩
                    · rw [if_neg c19] at H
                      have c19b0 : (a0 == 87) = false := beq_eq_false_iff_ne.mpr c19
                      have c19b1 : (a0 != 87) = true := bne_iff_ne.mpr c19
                      by_cases c20 : a0 = 88
                      · rw [if_pos c20] at H
                        have c20b0 : (a0 == 88) = true := beq_iff_eq.mpr c20
                        have c20b1 : (a0 != 88) = false := bne_eq_false_iff_eq.mpr c20
                        clear c20
                        simp only [Option.some.injEq, Prod.mk.injEq] at H
                        obtain ⟨rfl, rfl⟩ := H
                        go_enter Try.func14, Try.ntmps14
                        go_wp2
                        go_ret2
                        exact ⟨by first | rfl | (simp; done) | (simp [*]; done), by repeat (first | exact Drawn0.refl _ | apply Drawn0.step)⟩
                      · rw [if_neg c20] at H
                        have c20b0 : (a0 == 88) = false := beq_eq_false_iff_ne.mpr c20
                        have c20b1 : (a0 != 88) = true := bne_iff_ne.mpr c20
                        by_cases c21 : a0 = 89
                        · rw [if_pos c21] at H
                          have c21b0 : (a0 == 89) = true := beq_iff_eq.mpr c21
                          have c21b1 : (a0 != 89) = false := bne_eq_false_iff_eq.mpr c21
                          clear c21
                          simp only [Option.some.injEq, Prod.mk.injEq] at H
                          obtain ⟨rfl, rfl⟩ := H
                          go_enter Try.func14, Try.ntmps14
                          go_wp2
                          go_ret2
                          exact ⟨by first | rfl | (simp; done) | (simp [*]; done), by repeat (first | exact Drawn0.refl _ | apply Drawn0.step)⟩
                        · rw [if_neg c21] at H
                          have c21b0 : (a0 == 89) = false := beq_eq_false_iff_ne.mpr c21
                          have c21b1 : (a0 != 89) = true := bne_iff_ne.mpr c21
                          by_cases c22 : a0 = 128
                          · rw [if_pos c22] at H
                            have c22b0 : (a0 == 128) = true := beq_iff_eq.mpr c22
                            have c22b1 : (a0 != 128) = false := bne_eq_false_iff_eq.mpr c22
                            clear c22
                            replace H := Option.bind_eq_some_iff.mp H
                            obtain ⟨t129, A230, H⟩ := H
                            replace H : (some ((t129) % 4294967296, 0)) = some (r1, r2) := H
                            have A23 := Aside0.mk A230
                            clear A230
                            simp only [Option.some.injEq, Prod.mk.injEq] at H
                            obtain ⟨rfl, rfl⟩ := H
                            go_enter Try.func14, Try.ntmps14
                            go_wp2_with (first | ((with_reducible refine gate_callee (f := 36) rfl ?_); refine goesL_ (some 72) rfl rfl Try.func36 (by kernel_rfl) rfl #[.int .u16 (IntKind.u16.wrap (a1))] rfl (by (try simp only [List.map_toArray, List.map_cons, List.map_nil]); first | done | rfl | (simp only [List.length_drop, List.length_take]; rfl)) ?_; (with_reducible refine (bits_ReverseBytes16.calls (IntKind.u16.wrap (a1)) t129 _ A23.out).mono ?_); rintro e w' ⟨rfl, ⟨nd, rfl⟩⟩; refine ⟨_, rfl, ?_⟩))
                            go_ret2
                            exact ⟨by first | rfl | (simp; done) | (simp [*]; done), by repeat (first | exact Drawn0.refl _ | apply Drawn0.step)⟩
                          · rw [if_neg c22] at H
                            have c22b0 : (a0 == 128) = false := beq_eq_false_iff_ne.mpr c22
                            have c22b1 : (a0 != 128) = true := bne_iff_ne.mpr c22
                            by_cases c24 : a0 = 129
                            · rw [if_pos c24] at H
                              have c24b0 : (a0 == 129) = true := beq_iff_eq.mpr c24
                              have c24b1 : (a0 != 129) = false := bne_eq_false_iff_eq.mpr c24
                              clear c24
                              by_cases c25 : ((a1 - 97) % 4294967296) < 26
                              · rw [if_pos c25] at H
                                have c25b0 : decide (((a1 - 97) % 4294967296) < 26) = true := decide_eq_true c25
                                clear c25
                                simp only [Option.some.injEq, Prod.mk.injEq] at H
                                obtain ⟨rfl, rfl⟩ := H
                                go_enter Try.func14, Try.ntmps14
                                go_wp2
                                go_ret2
                                exact ⟨by first | rfl | (simp; done) | (simp [*]; done), by repeat (first | exact Drawn0.refl _ | apply Drawn0.step)⟩
                              · rw [if_neg c25] at H
                                have c25b0 : decide (((a1 - 97) % 4294967296) < 26) = false := decide_eq_false c25
                                clear c25
                                simp only [Option.some.injEq, Prod.mk.injEq] at H
                                obtain ⟨rfl, rfl⟩ := H
                                go_enter Try.func14, Try.ntmps14
                                go_wp2
                                go_ret2
                                exact ⟨by first | rfl | (simp; done) | (simp [*]; done), by repeat (first | exact Drawn0.refl _ | apply Drawn0.step)⟩
                            · rw [if_neg c24] at H
                              have c24b0 : (a0 == 129) = false := beq_eq_false_iff_ne.mpr c24
                              have c24b1 : (a0 != 129) = true := bne_iff_ne.mpr c24
                              by_cases c26 : a0 = 130
                              · rw [if_pos c26] at H
                                have c26b0 : (a0 == 130) = true := beq_iff_eq.mpr c26
                                have c26b1 : (a0 != 130) = false := bne_eq_false_iff_eq.mpr c26
                                clear c26
                                by_cases c27 : ((a1 - 65) % 4294967296) < 26
                                · rw [if_pos c27] at H
                                  have c27b0 : decide (((a1 - 65) % 4294967296) < 26) = true := decide_eq_true c27
                                  clear c27
                                  simp only [Option.some.injEq, Prod.mk.injEq] at H
                                  obtain ⟨rfl, rfl⟩ := H
                                  go_enter Try.func14, Try.ntmps14
                                  go_wp2
                                  go_ret2
                                  exact ⟨by first | rfl | (simp; done) | (simp [*]; done), by repeat (first | exact Drawn0.refl _ | apply Drawn0.step)⟩
                                · rw [if_neg c27] at H
                                  have c27b0 : decide (((a1 - 65) % 4294967296) < 26) = false := decide_eq_false c27
                                  clear c27
                                  simp only [Option.some.injEq, Prod.mk.injEq] at H
                                  obtain ⟨rfl, rfl⟩ := H
                                  go_enter Try.func14, Try.ntmps14
                                  go_wp2
                                  go_ret2
                                  exact ⟨by first | rfl | (simp; done) | (simp [*]; done), by repeat (first | exact Drawn0.refl _ | apply Drawn0.step)⟩
                              · rw [if_neg c26] at H
                                have c26b0 : (a0 == 130) = false := beq_eq_false_iff_ne.mpr c26
                                have c26b1 : (a0 != 130) = true := bne_iff_ne.mpr c26
                                simp only [Option.some.injEq, Prod.mk.injEq] at H
                                obtain ⟨rfl, rfl⟩ := H
                                go_enter Try.func14, Try.ntmps14
                                go_wp2
                                go_ret2
                                exact ⟨by first | rfl | (simp; done) | (simp [*]; done), by repeat (first | exact Drawn0.refl _ | apply Drawn0.step)⟩

end Go.Proofs.Ytdjpodpibkcnaab.QCellUndoes
