-- written by a program of this session (xprint.py) out of the translation
import Derived.Test.YtdjpodpibkcnaaaQCellBinsx0
import Derived.Test.YtdjpodpibkcnaaaQCellBinsx1
namespace Go.Proofs.Ytdjpodpibkcnaaa.QCellBins
open Go.RowKit Go.Proofs.YtdjpodpibkcnaaaW.PrintWords Go.Proofs.YtdjpodpibkcnaaaW.PrintLast Go.Proofs.YtdjpodpibkcnaaaW.PrintMore
attribute [local go_sem] max2_int min2_int max_two min_two max_three min_three max_four min_four   -- for this text's walks alone
set_option linter.unusedVariables false
set_option linter.unusedSimpArgs false

/-! ### tinderref01_bits: function 25 -/
def tinderref01_bits.l0 : Nat → Int → Int → Int → Int → Int → Option (Int)
  | 0, _, _, _, _, _ => none
  | k + 1, x0, x1, x2, x7, x8 => if x8 ≥ 0 then (if 0 ≤ (IntKind.u64.wrap (x8)) then (if x0 = 35 then (if (wrap64 ((wrap64 (Int.tmod (shr .u32 x1 (IntKind.u64.wrap (x8))) 2)) + (wrap64 (Int.tmod (shr .u32 x2 (IntKind.u64.wrap (x8))) 2)))) = 2 then (tinderref01_bits.l0 k x0 x1 x2 ((((x7 * 2) % 4294967296) + 1) % 4294967296) (wrap64 (x8 - 1))) else (if x0 = 36 then (none) else (if x0 = 37 then (none) else (tinderref01_bits.l0 k x0 x1 x2 ((x7 * 2) % 4294967296) (wrap64 (x8 - 1)))))) else (if x0 = 36 then (if (wrap64 ((wrap64 (Int.tmod (shr .u32 x1 (IntKind.u64.wrap (x8))) 2)) + (wrap64 (Int.tmod (shr .u32 x2 (IntKind.u64.wrap (x8))) 2)))) > 0 then (tinderref01_bits.l0 k x0 x1 x2 ((((x7 * 2) % 4294967296) + 1) % 4294967296) (wrap64 (x8 - 1))) else (if x0 = 37 then (none) else (tinderref01_bits.l0 k x0 x1 x2 ((x7 * 2) % 4294967296) (wrap64 (x8 - 1))))) else (if x0 = 37 then (if (wrap64 ((wrap64 (Int.tmod (shr .u32 x1 (IntKind.u64.wrap (x8))) 2)) + (wrap64 (Int.tmod (shr .u32 x2 (IntKind.u64.wrap (x8))) 2)))) = 1 then (tinderref01_bits.l0 k x0 x1 x2 ((((x7 * 2) % 4294967296) + 1) % 4294967296) (wrap64 (x8 - 1))) else (tinderref01_bits.l0 k x0 x1 x2 ((x7 * 2) % 4294967296) (wrap64 (x8 - 1)))) else (tinderref01_bits.l0 k x0 x1 x2 ((x7 * 2) % 4294967296) (wrap64 (x8 - 1)))))) else (none)) else (some x7)
def tinderref01_bits.f (k : Nat) (a0 : Int) (a1 : Int) (a2 : Int) : Option (Int) := tinderref01_bits.l0 k a0 a1 a2 0 31
theorem tinderref01_bits.mono_l : ∀ k, (∀ y0 y1 y2 y3 y4, LeO (tinderref01_bits.l0 k y0 y1 y2 y3 y4) (tinderref01_bits.l0 (k + 1) y0 y1 y2 y3 y4))
  | 0 => fun _ _ _ _ _ r h => by simp [tinderref01_bits.l0] at h
  | k + 1 => by
    have ih0 := tinderref01_bits.mono_l k
    · intro y0 y1 y2 y3 y4
      unfold tinderref01_bits.l0
      repeat' first
      | (with_reducible exact ih0 _ _ _ _ _)
      | (with_reducible exact LeO.refl _)
      | (with_reducible exact LeO.none _)
      | (with_reducible refine LeO.ite ?_ ?_)
      | (with_reducible refine LeO.bind ?_ (fun _ => ?_))
      | exact ih0 _ _ _ _ _
      | exact LeO.none _
      | refine LeO.ite ?_ ?_
      | refine LeO.bind ?_ (fun _ => ?_)
theorem tinderref01_bits.mono : ∀ a0 a1 a2 k, LeO (tinderref01_bits.f k a0 a1 a2) (tinderref01_bits.f (k + 1) a0 a1 a2) := by
  intro a0 a1 a2 k
  have ih0 := tinderref01_bits.mono_l k
  unfold tinderref01_bits.f
  repeat' first
      | (with_reducible exact ih0 _ _ _ _ _)
      | (with_reducible exact LeO.refl _)
      | (with_reducible exact LeO.none _)
      | (with_reducible refine LeO.ite ?_ ?_)
      | (with_reducible refine LeO.bind ?_ (fun _ => ?_))
      | exact ih0 _ _ _ _ _
      | exact LeO.none _
      | refine LeO.ite ?_ ?_
      | refine LeO.bind ?_ (fun _ => ?_)
set_option maxHeartbeats 8000000 in
set_option maxRecDepth 100000 in
theorem tinderref01_bits.calls (k : Nat) (a0 : Int) (a1 : Int) (a2 : Int) (r : Int) (w : World) (h : tinderref01_bits.f k a0 a1 a2 = some r) :
    Calls Try.prog 25 #[.int .i64 a0, .int .u32 a1, .int .u32 a2] w fun e w' => e = .returned (.int .u32 r) ∧ Drawn0 w w' := by
  have H : (tinderref01_bits.l0 k a0 a1 a2 0 31) = some r := h
  clear h
  have H' := Aside0.mk H
  clear H
  go_enter Try.func25, Try.ntmps25
  go_wp2
  go_loopg [7, 8] k (fun kq v7 v8 w' => ∃ (x7_1 : Int) (x8_1 : Int), v7 = .int .u32 x7_1 ∧ v8 = .int .i64 x8_1 ∧ Aside0 (tinderref01_bits.l0 kq a0 a1 a2 x7_1 x8_1 = some r) ∧ Aside0 (kq ≤ k) ∧ Drawn0 w w')
  case atStart => exact ⟨(0), (31), (by first | rfl | (simp; done) | (simp [*]; done) | (simp <;> omega) | (simp [*] <;> omega)), (by first | rfl | (simp; done) | (simp [*]; done) | (simp <;> omega) | (simp [*] <;> omega)), H', ⟨Nat.le_refl _⟩, by repeat (first | exact Drawn0.refl _ | apply Drawn0.step)⟩
  case round =>
    clear H'
    try clear c2
    try clear p2
    obtain ⟨x7_1, x8_1, rfl, rfl, HA, HK1, ⟨m1, rfl⟩⟩ := hrel
    cases gk with
    | zero => exact absurd HA.out (by simp [tinderref01_bits.l0])
    | succ k1 =>
      have H := HA.out
      clear HA
      simp only [tinderref01_bits.l0] at H
      by_cases c4 : x8_1 ≥ 0
      · rw [if_pos c4] at H
        have c4b0 : decide (0 ≤ x8_1) = true := decide_eq_true c4
        clear c4
        obtain ⟨ji5, hji5⟩ : ∃ j_ : Int, (IntKind.u64.wrap (x8_1)) = j_ := ⟨_, rfl⟩
        replace H : (if 0 ≤ (ji5) then (if a0 = 35 then (if (wrap64 ((wrap64 (Int.tmod (shr .u32 a1 (ji5)) 2)) + (wrap64 (Int.tmod (shr .u32 a2 (ji5)) 2)))) = 2 then (tinderref01_bits.l0 k1 a0 a1 a2 ((((x7_1 * 2) % 4294967296) + 1) % 4294967296) (wrap64 (x8_1 - 1))) else (if a0 = 36 then (none) else (if a0 = 37 then (none) else (tinderref01_bits.l0 k1 a0 a1 a2 ((x7_1 * 2) % 4294967296) (wrap64 (x8_1 - 1)))))) else (if a0 = 36 then (if (wrap64 ((wrap64 (Int.tmod (shr .u32 a1 (ji5)) 2)) + (wrap64 (Int.tmod (shr .u32 a2 (ji5)) 2)))) > 0 then (tinderref01_bits.l0 k1 a0 a1 a2 ((((x7_1 * 2) % 4294967296) + 1) % 4294967296) (wrap64 (x8_1 - 1))) else (if a0 = 37 then (none) else (tinderref01_bits.l0 k1 a0 a1 a2 ((x7_1 * 2) % 4294967296) (wrap64 (x8_1 - 1))))) else (if a0 = 37 then (if (wrap64 ((wrap64 (Int.tmod (shr .u32 a1 (ji5)) 2)) + (wrap64 (Int.tmod (shr .u32 a2 (ji5)) 2)))) = 1 then (tinderref01_bits.l0 k1 a0 a1 a2 ((((x7_1 * 2) % 4294967296) + 1) % 4294967296) (wrap64 (x8_1 - 1))) else (tinderref01_bits.l0 k1 a0 a1 a2 ((x7_1 * 2) % 4294967296) (wrap64 (x8_1 - 1)))) else (tinderref01_bits.l0 k1 a0 a1 a2 ((x7_1 * 2) % 4294967296) (wrap64 (x8_1 - 1)))))) else (none)) = some r := by first | (rw [hji5] at H; exact H) | (simp only [hji5] at H ⊢; exact H)
        by_cases c6 : 0 ≤ (ji5)
        · rw [if_pos c6] at H
          have c6b0 := eq_true c6
          have c6b1 : decide (0 ≤ (ji5)) = true := decide_eq_true c6
          clear c6
          obtain ⟨ji7, hji7⟩ : ∃ j_ : Int, (shr .u32 a1 (ji5)) = j_ := ⟨_, rfl⟩
          replace H : (if a0 = 35 then (if (wrap64 ((wrap64 (Int.tmod (ji7) 2)) + (wrap64 (Int.tmod (shr .u32 a2 (ji5)) 2)))) = 2 then (tinderref01_bits.l0 k1 a0 a1 a2 ((((x7_1 * 2) % 4294967296) + 1) % 4294967296) (wrap64 (x8_1 - 1))) else (if a0 = 36 then (none) else (if a0 = 37 then (none) else (tinderref01_bits.l0 k1 a0 a1 a2 ((x7_1 * 2) % 4294967296) (wrap64 (x8_1 - 1)))))) else (if a0 = 36 then (if (wrap64 ((wrap64 (Int.tmod (ji7) 2)) + (wrap64 (Int.tmod (shr .u32 a2 (ji5)) 2)))) > 0 then (tinderref01_bits.l0 k1 a0 a1 a2 ((((x7_1 * 2) % 4294967296) + 1) % 4294967296) (wrap64 (x8_1 - 1))) else (if a0 = 37 then (none) else (tinderref01_bits.l0 k1 a0 a1 a2 ((x7_1 * 2) % 4294967296) (wrap64 (x8_1 - 1))))) else (if a0 = 37 then (if (wrap64 ((wrap64 (Int.tmod (ji7) 2)) + (wrap64 (Int.tmod (shr .u32 a2 (ji5)) 2)))) = 1 then (tinderref01_bits.l0 k1 a0 a1 a2 ((((x7_1 * 2) % 4294967296) + 1) % 4294967296) (wrap64 (x8_1 - 1))) else (tinderref01_bits.l0 k1 a0 a1 a2 ((x7_1 * 2) % 4294967296) (wrap64 (x8_1 - 1)))) else (tinderref01_bits.l0 k1 a0 a1 a2 ((x7_1 * 2) % 4294967296) (wrap64 (x8_1 - 1)))))) = some r := by first | (rw [hji7] at H; exact H) | (simp only [hji7] at H ⊢; exact H)
          have hji7_ : (a1 / 2 ^ min (ji5).toNat 32) = ji7 := hji7
          have hji7z : (ji5) ≤ 32 → (a1 / 2 ^ (ji5).toNat) = ji7 := shr_small hji7
          have c8b0 := eq_true (of_decide_eq_true (by first | (with_reducible assumption) | assumption) : 0 ≤ (ji5))
          obtain ⟨ji9, hji9⟩ : ∃ j_ : Int, (shr .u32 a2 (ji5)) = j_ := ⟨_, rfl⟩
          replace H : (if a0 = 35 then (if (wrap64 ((wrap64 (Int.tmod (ji7) 2)) + (wrap64 (Int.tmod (ji9) 2)))) = 2 then (tinderref01_bits.l0 k1 a0 a1 a2 ((((x7_1 * 2) % 4294967296) + 1) % 4294967296) (wrap64 (x8_1 - 1))) else (if a0 = 36 then (none) else (if a0 = 37 then (none) else (tinderref01_bits.l0 k1 a0 a1 a2 ((x7_1 * 2) % 4294967296) (wrap64 (x8_1 - 1)))))) else (if a0 = 36 then (if (wrap64 ((wrap64 (Int.tmod (ji7) 2)) + (wrap64 (Int.tmod (ji9) 2)))) > 0 then (tinderref01_bits.l0 k1 a0 a1 a2 ((((x7_1 * 2) % 4294967296) + 1) % 4294967296) (wrap64 (x8_1 - 1))) else (if a0 = 37 then (none) else (tinderref01_bits.l0 k1 a0 a1 a2 ((x7_1 * 2) % 4294967296) (wrap64 (x8_1 - 1))))) else (if a0 = 37 then (if (wrap64 ((wrap64 (Int.tmod (ji7) 2)) + (wrap64 (Int.tmod (ji9) 2)))) = 1 then (tinderref01_bits.l0 k1 a0 a1 a2 ((((x7_1 * 2) % 4294967296) + 1) % 4294967296) (wrap64 (x8_1 - 1))) else (tinderref01_bits.l0 k1 a0 a1 a2 ((x7_1 * 2) % 4294967296) (wrap64 (x8_1 - 1)))) else (tinderref01_bits.l0 k1 a0 a1 a2 ((x7_1 * 2) % 4294967296) (wrap64 (x8_1 - 1)))))) = some r := by first | (rw [hji9] at H; exact H) | (simp only [hji9] at H ⊢; exact H)
          have hji9_ : (a2 / 2 ^ min (ji5).toNat 32) = ji9 := hji9
          have hji9z : (ji5) ≤ 32 → (a2 / 2 ^ (ji5).toNat) = ji9 := shr_small hji9
          by_cases c10 : a0 = 35
          · rw [if_pos c10] at H
            have c10b0 : (a0 == 35) = true := beq_iff_eq.mpr c10
            have c10b1 : (a0 != 35) = false := bne_eq_false_iff_eq.mpr c10
            clear c10
            by_cases c11 : (wrap64 ((wrap64 (Int.tmod (ji7) 2)) + (wrap64 (Int.tmod (ji9) 2)))) = 2
            · rw [if_pos c11] at H
              have c11b0 : ((wrap64 ((wrap64 (Int.tmod (ji7) 2)) + (wrap64 (Int.tmod (ji9) 2)))) == 2) = true := beq_iff_eq.mpr c11
              have c11b1 : ((wrap64 ((wrap64 (Int.tmod (ji7) 2)) + (wrap64 (Int.tmod (ji9) 2)))) != 2) = false := bne_eq_false_iff_eq.mpr c11
              clear c11
              have H' := Aside0.mk H
              clear H
              go_wp2
              go_roundg k1
              case measure => have := HK1.out; omega
              case rel => exact ⟨((((x7_1 * 2) % 4294967296) + 1) % 4294967296), (wrap64 (x8_1 - 1)), (by first | rfl | (simp; done) | (simp [*]; done) | (simp <;> omega) | (simp [*] <;> omega)), (by first | rfl | (simp; done) | (simp [*]; done) | (simp <;> omega) | (simp [*] <;> omega)), H', ⟨by have := HK1.out; omega⟩, by repeat (first | exact Drawn0.refl _ | apply Drawn0.step)⟩
            · rw [if_neg c11] at H
              have c11b0 : ((wrap64 ((wrap64 (Int.tmod (ji7) 2)) + (wrap64 (Int.tmod (ji9) 2)))) == 2) = false := beq_eq_false_iff_ne.mpr c11
              have c11b1 : ((wrap64 ((wrap64 (Int.tmod (ji7) 2)) + (wrap64 (Int.tmod (ji9) 2)))) != 2) = true := bne_iff_ne.mpr c11
              by_cases c12 : a0 = 36
              · rw [if_pos c12] at H
                exact absurd H (by simp)
              · rw [if_neg c12] at H
                have c12b0 : (a0 == 36) = false := beq_eq_false_iff_ne.mpr c12
                have c12b1 : (a0 != 36) = true := bne_iff_ne.mpr c12
                by_cases c13 : a0 = 37
                · rw [if_pos c13] at H
                  exact absurd H (by simp)
                · rw [if_neg c13] at H
                  have c13b0 : (a0 == 37) = false := beq_eq_false_iff_ne.mpr c13
                  have c13b1 : (a0 != 37) = true := bne_iff_ne.mpr c13
                  have H' := Aside0.mk H
                  clear H
                  go_wp2
                  go_roundg k1
                  case measure => have := HK1.out; omega
                  case rel => exact ⟨((x7_1 * 2) % 4294967296), (wrap64 (x8_1 - 1)), (by first | rfl | (simp; done) | (simp [*]; done) | (simp <;> omega) | (simp [*] <;> omega)), (by first | rfl | (simp; done) | (simp [*]; done) | (simp <;> omega) | (simp [*] <;> omega)), H', ⟨by have := HK1.out; omega⟩, by repeat (first | exact Drawn0.refl _ | apply Drawn0.step)⟩
          · rw [if_neg c10] at H
            have c10b0 : (a0 == 35) = false := beq_eq_false_iff_ne.mpr c10
            have c10b1 : (a0 != 35) = true := bne_iff_ne.mpr c10
            by_cases c14 : a0 = 36
            · rw [if_pos c14] at H
              have c14b0 : (a0 == 36) = true := beq_iff_eq.mpr c14
              have c14b1 : (a0 != 36) = false := bne_eq_false_iff_eq.mpr c14
              clear c14
              by_cases c15 : (wrap64 ((wrap64 (Int.tmod (ji7) 2)) + (wrap64 (Int.tmod (ji9) 2)))) > 0
              · rw [if_pos c15] at H
                have c15b0 : decide (0 < (wrap64 ((wrap64 (Int.tmod (ji7) 2)) + (wrap64 (Int.tmod (ji9) 2))))) = true := decide_eq_true c15
                clear c15
                have H' := Aside0.mk H
                clear H
                go_wp2
                go_roundg k1
                case measure => have := HK1.out; omega
                case rel => exact ⟨((((x7_1 * 2) % 4294967296) + 1) % 4294967296), (wrap64 (x8_1 - 1)), (by first | rfl | (simp; done) | (simp [*]; done) | (simp <;> omega) | (simp [*] <;> omega)), (by first | rfl | (simp; done) | (simp [*]; done) | (simp <;> omega) | (simp [*] <;> omega)), H', ⟨by have := HK1.out; omega⟩, by repeat (first | exact Drawn0.refl _ | apply Drawn0.step)⟩
              · rw [if_neg c15] at H
                have c15b0 : decide (0 < (wrap64 ((wrap64 (Int.tmod (ji7) 2)) + (wrap64 (Int.tmod (ji9) 2))))) = false := decide_eq_false c15
                clear c15
                by_cases c16 : a0 = 37
                · rw [if_pos c16] at H
                  exact absurd H (by simp)
                · rw [if_neg c16] at H
                  have c16b0 : (a0 == 37) = false := beq_eq_false_iff_ne.mpr c16
                  have c16b1 : (a0 != 37) = true := bne_iff_ne.mpr c16
                  have H' := Aside0.mk H
                  clear H
                  go_wp2
                  go_roundg k1
                  case measure => have := HK1.out; omega
                  case rel => exact ⟨((x7_1 * 2) % 4294967296), (wrap64 (x8_1 - 1)), (by first | rfl | (simp; done) | (simp [*]; done) | (simp <;> omega) | (simp [*] <;> omega)), (by first | rfl | (simp; done) | (simp [*]; done) | (simp <;> omega) | (simp [*] <;> omega)), H', ⟨by have := HK1.out; omega⟩, by repeat (first | exact Drawn0.refl _ | apply Drawn0.step)⟩
            · rw [if_neg c14] at H
              have c14b0 : (a0 == 36) = false := beq_eq_false_iff_ne.mpr c14
              have c14b1 : (a0 != 36) = true := bne_iff_ne.mpr c14
              by_cases c17 : a0 = 37
              · rw [if_pos c17] at H
                have c17b0 : (a0 == 37) = true := beq_iff_eq.mpr c17
                have c17b1 : (a0 != 37) = false := bne_eq_false_iff_eq.mpr c17
                clear c17
                by_cases c18 : (wrap64 ((wrap64 (Int.tmod (ji7) 2)) + (wrap64 (Int.tmod (ji9) 2)))) = 1
                · rw [if_pos c18] at H
                  have c18b0 : ((wrap64 ((wrap64 (Int.tmod (ji7) 2)) + (wrap64 (Int.tmod (ji9) 2)))) == 1) = true := beq_iff_eq.mpr c18
                  have c18b1 : ((wrap64 ((wrap64 (Int.tmod (ji7) 2)) + (wrap64 (Int.tmod (ji9) 2)))) != 1) = false := bne_eq_false_iff_eq.mpr c18
                  clear c18
                  have H' := Aside0.mk H
                  clear H
                  go_wp2
                  go_roundg k1
                  case measure => have := HK1.out; omega
                  case rel => exact ⟨((((x7_1 * 2) % 4294967296) + 1) % 4294967296), (wrap64 (x8_1 - 1)), (by first | rfl | (simp; done) | (simp [*]; done) | (simp <;> omega) | (simp [*] <;> omega)), (by first | rfl | (simp; done) | (simp [*]; done) | (simp <;> omega) | (simp [*] <;> omega)), H', ⟨by have := HK1.out; omega⟩, by repeat (first | exact Drawn0.refl _ | apply Drawn0.step)⟩
                · rw [if_neg c18] at H
                  have c18b0 : ((wrap64 ((wrap64 (Int.tmod (ji7) 2)) + (wrap64 (Int.tmod (ji9) 2)))) == 1) = false := beq_eq_false_iff_ne.mpr c18
                  have c18b1 : ((wrap64 ((wrap64 (Int.tmod (ji7) 2)) + (wrap64 (Int.tmod (ji9) 2)))) != 1) = true := bne_iff_ne.mpr c18
                  have H' := Aside0.mk H
                  clear H
                  go_wp2
                  go_roundg k1
                  case measure => have := HK1.out; omega
                  case rel => exact ⟨((x7_1 * 2) % 4294967296), (wrap64 (x8_1 - 1)), (by first | rfl | (simp; done) | (simp [*]; done) | (simp <;> omega) | (simp [*] <;> omega)), (by first | rfl | (simp; done) | (simp [*]; done) | (simp <;> omega) | (simp [*] <;> omega)), H', ⟨by have := HK1.out; omega⟩, by repeat (first | exact Drawn0.refl _ | apply Drawn0.step)⟩
              · rw [if_neg c17] at H
                have c17b0 : (a0 == 37) = false := beq_eq_false_iff_ne.mpr c17
                have c17b1 : (a0 != 37) = true := bne_iff_ne.mpr c17
                have H' := Aside0.mk H
                clear H
                go_wp2
                go_roundg k1
                case measure => have := HK1.out; omega
                case rel => exact ⟨((x7_1 * 2) % 4294967296), (wrap64 (x8_1 - 1)), (by first | rfl | (simp; done) | (simp [*]; done) | (simp <;> omega) | (simp [*] <;> omega)), (by first | rfl | (simp; done) | (simp [*]; done) | (simp <;> omega) | (simp [*] <;> omega)), H', ⟨by have := HK1.out; omega⟩, by repeat (first | exact Drawn0.refl _ | apply Drawn0.step)⟩
        · rw [if_neg c6] at H
          exact absurd H (by simp)
      · rw [if_neg c4] at H
        have c4b0 : decide (0 ≤ x8_1) = false := decide_eq_false c4
        clear c4
        obtain rfl := Option.some.inj H
        go_wp2
        go_ret
        exact ⟨by first | rfl | (simp; done) | (simp [*]; done) | (simp <;> omega) | (simp [*] <;> omega), by repeat (first | exact Drawn0.refl _ | apply Drawn0.step)⟩

/-! ### tinderref01_shift: function 26 -/
def tinderref01_shift.l0 : Nat → Int → Int → Int → Int → Option (Int)
  | 0, _, _, _, _ => none
  | k + 1, x0, x1, x7, x8 => if x8 < x7 then (if x0 = 39 then ((tinderref01_Cell.f (wrap64 ((wrap64 (x1)) * 2))).bind fun t119 => (tinderref01_shift.l0 k x0 t119 x7 (wrap64 (x8 + 1)))) else (if x0 = 41 then (tinderref01_shift.l0 k x0 ((((Int.tdiv x1 2) % 4294967296) + ((((Int.tdiv x1 2147483648) % 4294967296) * 2147483648) % 4294967296)) % 4294967296) x7 (wrap64 (x8 + 1))) else (tinderref01_shift.l0 k x0 ((Int.tdiv x1 2) % 4294967296) x7 (wrap64 (x8 + 1))))) else (some x1)
def tinderref01_shift.f (k : Nat) (a0 : Int) (a1 : Int) (a2 : Int) : Option (Int) := tinderref01_shift.l0 k a0 a1 (mn (wrap64 (a2)) 32) 0
theorem tinderref01_shift.mono_l : ∀ k, (∀ y0 y1 y2 y3, LeO (tinderref01_shift.l0 k y0 y1 y2 y3) (tinderref01_shift.l0 (k + 1) y0 y1 y2 y3))
  | 0 => fun _ _ _ _ r h => by simp [tinderref01_shift.l0] at h
  | k + 1 => by
    have ih0 := tinderref01_shift.mono_l k
    · intro y0 y1 y2 y3
      unfold tinderref01_shift.l0
      repeat' first
      | (with_reducible exact ih0 _ _ _ _)
      | (with_reducible exact LeO.refl _)
      | (with_reducible exact LeO.none _)
      | (with_reducible refine LeO.ite ?_ ?_)
      | (with_reducible refine LeO.bind ?_ (fun _ => ?_))
      | exact ih0 _ _ _ _
      | exact LeO.none _
      | refine LeO.ite ?_ ?_
      | refine LeO.bind ?_ (fun _ => ?_)
theorem tinderref01_shift.mono : ∀ a0 a1 a2 k, LeO (tinderref01_shift.f k a0 a1 a2) (tinderref01_shift.f (k + 1) a0 a1 a2) := by
  intro a0 a1 a2 k
  have ih0 := tinderref01_shift.mono_l k
  unfold tinderref01_shift.f
  repeat' first
      | (with_reducible exact ih0 _ _ _ _)
      | (with_reducible exact LeO.refl _)
      | (with_reducible exact LeO.none _)
      | (with_reducible refine LeO.ite ?_ ?_)
      | (with_reducible refine LeO.bind ?_ (fun _ => ?_))
      | exact ih0 _ _ _ _
      | exact LeO.none _
      | refine LeO.ite ?_ ?_
      | refine LeO.bind ?_ (fun _ => ?_)
set_option maxHeartbeats 8000000 in
set_option maxRecDepth 100000 in
theorem tinderref01_shift.calls (k : Nat) (a0 : Int) (a1 : Int) (a2 : Int) (r : Int) (w : World) (h : tinderref01_shift.f k a0 a1 a2 = some r) :
    Calls Try.prog 26 #[.int .i64 a0, .int .u32 a1, .int .u32 a2] w fun e w' => e = .returned (.int .u32 r) ∧ Below w.heap.size w w' := by
  have HB := Aside0.mk (Below.refl w.heap.size w)
  have H : (tinderref01_shift.l0 k a0 a1 (mn (wrap64 (a2)) 32) 0) = some r := h
  clear h
  obtain ⟨ji4, hji4⟩ : ∃ j_ : Int, (mn (wrap64 (a2)) 32) = j_ := ⟨_, rfl⟩
  replace H : (tinderref01_shift.l0 k a0 a1 ji4 0) = some r := by first | (rw [hji4] at H; exact H) | (simp only [hji4] at H ⊢; exact H)
  (try (have hji4h : ji4 ≤ 32 := by (rw [← hji4]; unfold mn; (repeat' split) <;> omega)))
  (try (have hji4g : ji4 ≤ 64 := by omega))
  have hji4_ : (if 32 < (wrap64 (a2)) then 32 else (wrap64 (a2))) = ji4 := hji4
  have H' := Aside0.mk H
  clear H
  go_enter Try.func26, Try.ntmps26
  go_wp2
  go_loopg [1, 8] k (fun kq v1 v8 w' => ∃ (x1_1 : Int) (x8_1 : Int), v1 = .int .u32 x1_1 ∧ v8 = .int .i64 x8_1 ∧ Aside0 (tinderref01_shift.l0 kq a0 x1_1 ji4 x8_1 = some r) ∧ Aside0 (kq ≤ k) ∧ Aside0 (Below w.heap.size w w'))
  case atStart => exact ⟨(a1), (0), (by first | rfl | (simp; done) | (simp [*]; done) | (simp <;> omega) | (simp [*] <;> omega)), (by first | rfl | (simp; done) | (simp [*]; done) | (simp <;> omega) | (simp [*] <;> omega)), H', ⟨Nat.le_refl _⟩, ⟨by repeat (first | (with_reducible first | exact HB.out | apply below_alloc | apply pw_below_drewN | apply below_drew1) | exact HB.out)⟩⟩
  case round =>
    clear H'
    try clear c2
    try clear p2
    obtain ⟨x1_1, x8_1, rfl, rfl, HA, HK1, HB⟩ := hrel
    cases gk with
    | zero => exact absurd HA.out (by simp [tinderref01_shift.l0])
    | succ k1 =>
      have H := HA.out
      clear HA
      simp only [tinderref01_shift.l0] at H
      by_cases c5 : x8_1 < ji4
      · rw [if_pos c5] at H
        have c5b0 : decide (x8_1 < ji4) = true := decide_eq_true c5
        clear c5
        by_cases c6 : a0 = 39
        · rw [if_pos c6] at H
          have c6b0 : (a0 == 39) = true := beq_iff_eq.mpr c6
          have c6b1 : (a0 != 39) = false := bne_eq_false_iff_eq.mpr c6
          clear c6
          replace H := Option.bind_eq_some_iff.mp H
          obtain ⟨t119, A70, H⟩ := H
          replace H : (tinderref01_shift.l0 k1 a0 t119 ji4 (wrap64 (x8_1 + 1))) = some r := H
          have A7 := Aside0.mk A70
          clear A70
          have H' := Aside0.mk H
          clear H
          go_wp2_with (first | ((with_reducible refine gate_callee (f := 24) rfl ?_); refine goesL_ (some 25) rfl rfl Try.func24 (by kernel_rfl) rfl #[.int .i64 (wrap64 ((wrap64 (x1_1)) * 2))] rfl (by (try simp only [List.map_toArray, List.map_cons, List.map_nil]); first | done | rfl | (simp only [List.length_drop, List.length_take]; rfl)) ?_; (with_reducible refine (tinderref01_Cell.calls (wrap64 ((wrap64 (x1_1)) * 2)) t119 _ A7.out).mono ?_); rintro e w' ⟨rfl, ⟨nd, rfl⟩⟩; refine ⟨_, rfl, ?_⟩))
          go_roundg k1
          case measure => have := HK1.out; omega
          case rel => exact ⟨(t119), (wrap64 (x8_1 + 1)), (by first | rfl | (simp; done) | (simp [*]; done) | (simp <;> omega) | (simp [*] <;> omega)), (by first | rfl | (simp; done) | (simp [*]; done) | (simp <;> omega) | (simp [*] <;> omega)), H', ⟨by have := HK1.out; omega⟩, ⟨by repeat (first | (with_reducible first | exact HB.out | apply below_alloc | apply pw_below_drewN | apply below_drew1) | exact HB.out)⟩⟩
        · rw [if_neg c6] at H
          have c6b0 : (a0 == 39) = false := beq_eq_false_iff_ne.mpr c6
          have c6b1 : (a0 != 39) = true := bne_iff_ne.mpr c6
          by_cases c8 : a0 = 41
          · rw [if_pos c8] at H
            have c8b0 : (a0 == 41) = true := beq_iff_eq.mpr c8
            have c8b1 : (a0 != 41) = false := bne_eq_false_iff_eq.mpr c8
            clear c8
            have H' := Aside0.mk H
            clear H
            go_wp2
            go_roundg k1
            case measure => have := HK1.out; omega
            case rel => exact ⟨((((Int.tdiv x1_1 2) % 4294967296) + ((((Int.tdiv x1_1 2147483648) % 4294967296) * 2147483648) % 4294967296)) % 4294967296), (wrap64 (x8_1 + 1)), (by first | rfl | (simp; done) | (simp [*]; done) | (simp <;> omega) | (simp [*] <;> omega)), (by first | rfl | (simp; done) | (simp [*]; done) | (simp <;> omega) | (simp [*] <;> omega)), H', ⟨by have := HK1.out; omega⟩, ⟨by repeat (first | (with_reducible first | exact HB.out | apply below_alloc | apply pw_below_drewN | apply below_drew1) | exact HB.out)⟩⟩
          · rw [if_neg c8] at H
            have c8b0 : (a0 == 41) = false := beq_eq_false_iff_ne.mpr c8
            have c8b1 : (a0 != 41) = true := bne_iff_ne.mpr c8
            have H' := Aside0.mk H
            clear H
            go_wp2
            go_roundg k1
            case measure => have := HK1.out; omega
            case rel => exact ⟨((Int.tdiv x1_1 2) % 4294967296), (wrap64 (x8_1 + 1)), (by first | rfl | (simp; done) | (simp [*]; done) | (simp <;> omega) | (simp [*] <;> omega)), (by first | rfl | (simp; done) | (simp [*]; done) | (simp <;> omega) | (simp [*] <;> omega)), H', ⟨by have := HK1.out; omega⟩, ⟨by repeat (first | (with_reducible first | exact HB.out | apply below_alloc | apply pw_below_drewN | apply below_drew1) | exact HB.out)⟩⟩
      · rw [if_neg c5] at H
        have c5b0 : decide (x8_1 < ji4) = false := decide_eq_false c5
        clear c5
        obtain rfl := Option.some.inj H
        go_wp2
        go_ret
        exact ⟨by first | rfl | (simp [errW_none, errW_some] <;> rfl) | (simp only [← hji4]; first | rfl | (simp [errW_none, errW_some] <;> rfl)) | (simp [*, errW_none, errW_some] <;> rfl) | (simp [errW_none, errW_some] <;> omega) | (simp [*, errW_none, errW_some] <;> omega), by repeat (first | (with_reducible first | exact HB.out | apply below_alloc | apply pw_below_drewN | apply below_drew1) | exact HB.out)⟩

/-! ### tinderref01_Flag: function 27 -/
def tinderref01_Flag.f (a0 : Bool) : Option (Int) := if a0 = true then (some 4294967295) else (some 0)
set_option maxHeartbeats 8000000 in
set_option maxRecDepth 100000 in
theorem tinderref01_Flag.calls (a0 : Bool) (r : Int) (w : World) (h : tinderref01_Flag.f a0 = some r) :
    Calls Try.prog 27 #[.bool a0] w fun e w' => e = .returned (.int .u32 r) ∧ Drawn0 w w' := by
  have H : (if a0 = true then (some 4294967295) else (some 0)) = some r := h
  clear h
  by_cases c2 : a0 = true
  · subst c2
    have H1 : (some 4294967295) = some r := by rw [if_pos rfl] at H; exact H
    clear H
    have H := H1
    clear H1
    obtain rfl := Option.some.inj H
    go_enter Try.func27, Try.ntmps27
    go_wp2
    go_ret
    exact ⟨by first | rfl | (simp; done) | (simp [*]; done) | (simp <;> omega) | (simp [*] <;> omega), by repeat (first | exact Drawn0.refl _ | apply Drawn0.step)⟩
  · replace c2 := Bool.eq_false_iff.mpr c2
    subst c2
    have H1 : (some 0) = some r := by rw [if_neg (show ¬ (false = true) by decide)] at H; exact H
    clear H
    have H := H1
    clear H1
    obtain rfl := Option.some.inj H
    go_enter Try.func27, Try.ntmps27
    go_wp2
    go_ret
    exact ⟨by first | rfl | (simp; done) | (simp [*]; done) | (simp <;> omega) | (simp [*] <;> omega), by repeat (first | exact Drawn0.refl _ | apply Drawn0.step)⟩

/-! ### tinderref01_Floor: function 28 -/
def tinderref01_Floor.f (a0 : Int) (a1 : Int) : Option (Int × Int) := if a1 = 0 then (none) else (if (Int.tmod a0 a1) = 0 then (some (wrap64 (Int.tdiv a0 a1), Int.tmod a0 a1)) else (if ((decide ((Int.tmod a0 a1) < 0)) != (decide (a1 < 0))) = true then (some (wrap64 ((wrap64 (Int.tdiv a0 a1)) - 1), wrap64 ((Int.tmod a0 a1) + a1))) else (some (wrap64 (Int.tdiv a0 a1), Int.tmod a0 a1))))
set_option maxHeartbeats 8000000 in
set_option maxRecDepth 100000 in
theorem tinderref01_Floor.calls (a0 : Int) (a1 : Int) (r1 : Int) (r2 : Int) (w : World) (h : tinderref01_Floor.f a0 a1 = some (r1, r2)) :
    Calls Try.prog 28 #[.int .i64 a0, .int .i64 a1] w fun e w' => e = .returned (.tuple #[.int .i64 r1, .int .i64 r2]) ∧ Drawn0 w w' := by
  have H : (if a1 = 0 then (none) else (if (Int.tmod a0 a1) = 0 then (some (wrap64 (Int.tdiv a0 a1), Int.tmod a0 a1)) else (if ((decide ((Int.tmod a0 a1) < 0)) != (decide (a1 < 0))) = true then (some (wrap64 ((wrap64 (Int.tdiv a0 a1)) - 1), wrap64 ((Int.tmod a0 a1) + a1))) else (some (wrap64 (Int.tdiv a0 a1), Int.tmod a0 a1))))) = some (r1, r2) := h
  clear h
  by_cases c3 : a1 = 0
  · rw [if_pos c3] at H
    exact absurd H (by simp)
  · rw [if_neg c3] at H
    have c3b0 : (a1 == 0) = false := beq_eq_false_iff_ne.mpr c3
    have c3b1 : (a1 != 0) = true := bne_iff_ne.mpr c3
    by_cases c4 : (Int.tmod a0 a1) = 0
    · rw [if_pos c4] at H
      have c4b0 : ((Int.tmod a0 a1) == 0) = true := beq_iff_eq.mpr c4
      have c4b1 : ((Int.tmod a0 a1) != 0) = false := bne_eq_false_iff_eq.mpr c4
      clear c4
      simp only [Option.some.injEq, Prod.mk.injEq] at H
      obtain ⟨rfl, rfl⟩ := H
      go_enter Try.func28, Try.ntmps28
      go_wp2
      repeat (go_quiet (fail); try go_wp2)
      go_ret2
      exact ⟨by first | rfl | (simp; done) | (simp [*]; done) | (simp <;> omega) | (simp [*] <;> omega), by repeat (first | exact Drawn0.refl _ | apply Drawn0.step)⟩
    · rw [if_neg c4] at H
      have c4b0 : ((Int.tmod a0 a1) == 0) = false := beq_eq_false_iff_ne.mpr c4
      have c4b1 : ((Int.tmod a0 a1) != 0) = true := bne_iff_ne.mpr c4
      by_cases c5 : ((decide ((Int.tmod a0 a1) < 0)) != (decide (a1 < 0))) = true
      · rw [if_pos c5] at H
        have c5b0 : ((decide ((Int.tmod a0 a1) < 0)) != (decide (a1 < 0))) = true := c5
        (try (have c5b1 : decide ((decide ((Int.tmod a0 a1) < 0)) = (decide (a1 < 0))) = false := by simpa using c5))
        (try (have c5b2 : ((decide ((Int.tmod a0 a1) < 0)) == (decide (a1 < 0))) = false := by simpa using c5))
        (try (have c5b3 : ¬ ((decide ((Int.tmod a0 a1) < 0)) = (decide (a1 < 0))) := by simpa using c5))
        clear c5
        simp only [Option.some.injEq, Prod.mk.injEq] at H
        obtain ⟨rfl, rfl⟩ := H
        go_enter Try.func28, Try.ntmps28
        go_wp2
        repeat (go_quiet (fail); try go_wp2)
        go_ret2
        exact ⟨by first | rfl | (simp; done) | (simp [*]; done) | (simp <;> omega) | (simp [*] <;> omega), by repeat (first | exact Drawn0.refl _ | apply Drawn0.step)⟩
      · rw [if_neg c5] at H
        have c5b0 : ((decide ((Int.tmod a0 a1) < 0)) != (decide (a1 < 0))) = false := by simpa using c5
        (try (have c5b1 : decide ((decide ((Int.tmod a0 a1) < 0)) = (decide (a1 < 0))) = true := by simpa using c5))
        (try (have c5b2 : ((decide ((Int.tmod a0 a1) < 0)) == (decide (a1 < 0))) = true := by simpa using c5))
        clear c5
        simp only [Option.some.injEq, Prod.mk.injEq] at H
        obtain ⟨rfl, rfl⟩ := H
        go_enter Try.func28, Try.ntmps28
        go_wp2
        repeat (go_quiet (fail); try go_wp2)
        go_ret2
        exact ⟨by first | rfl | (simp; done) | (simp [*]; done) | (simp <;> omega) | (simp [*] <;> omega), by repeat (first | exact Drawn0.refl _ | apply Drawn0.step)⟩

end Go.Proofs.Ytdjpodpibkcnaaa.QCellBins
