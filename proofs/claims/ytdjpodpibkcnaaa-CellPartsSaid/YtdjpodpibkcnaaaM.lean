import Derived.RowKit
import Derived.Laws.BitsAllLaws
import Derived.Test.YtdjpodpibkcnaaaWMore
namespace Go.Proofs.Ytdjpodpibkcnaaa.M
open Go.RowKit Go.Proofs.YtdjpodpibkcnaaaW.PrintWords

theorem wf64 {a : Int} (h : (Lit.int .i64 a).wf = true) : -9223372036854775808 ≤ a ∧ a < 9223372036854775808 := by
  simp [Lit.wf, IntKind.min, IntKind.max, IntKind.bits, IntKind.signed] at h; omega
theorem wf32 {a : Int} (h : (Lit.int .u32 a).wf = true) : 0 ≤ a ∧ a < 4294967296 := by
  simp [Lit.wf, IntKind.min, IntKind.max, IntKind.bits, IntKind.signed] at h; omega

theorem bits_xor_i64 (x y : Int) : bits .xor .i64 x y = (BitVec.ofInt 64 x ^^^ BitVec.ofInt 64 y).toInt := by
  show IntKind.i64.wrap ((BitVec.ofInt 64 x ^^^ BitVec.ofInt 64 y).toNat : Int) = _
  rw [BitVec.toInt_eq_toNat_cond]
  have := (BitVec.ofInt 64 x ^^^ BitVec.ofInt 64 y).isLt
  generalize (BitVec.ofInt 64 x ^^^ BitVec.ofInt 64 y).toNat = n at *
  simp only [IntKind.wrap, IntKind.bits, IntKind.signed, Bool.true_and]
  by_cases h : n < 9223372036854775808
  · rw [if_neg (by simp; omega), if_pos (by omega)]; omega
  · rw [if_pos (by simp; omega), if_neg (by omega)]; omega

theorem xor_neg (x y : Int) (hx : -9223372036854775808 ≤ x) (hx' : x < 9223372036854775808) (hy : -9223372036854775808 ≤ y) (hy' : y < 9223372036854775808) :
    (bits .xor .i64 x y < 0) ↔ ((decide (x < 0) != decide (y < 0)) = true) := by
  rw [bits_xor_i64]
  have e : ∀ z : Int, -9223372036854775808 ≤ z → z < 9223372036854775808 → (BitVec.ofInt 64 z).msb = decide (z < 0) := by
    intro z h1 h2
    rw [BitVec.msb_eq_toInt, BitVec.toInt_ofInt_eq_self (by decide) (by simpa using h1) (by simpa using h2)]
  have := BitVec.msb_eq_toInt (x := BitVec.ofInt 64 x ^^^ BitVec.ofInt 64 y)
  rw [BitVec.msb_xor, e x hx hx', e y hy hy'] at this
  constructor
  · intro h; simp only [h, decide_true] at this; simpa using this
  · intro h; have h2 : (decide (x < 0) ^^ decide (y < 0)) = true := by simpa using h
    rw [h2] at this; exact of_decide_eq_true this.symm

theorem s32 {a : Int} (h0 : 0 ≤ a) (h1 : a < 4294967296) : wrap32 a = if a ≥ 2147483648 then a - 4294967296 else a := by
  unfold wrap32; split <;> omega
theorem s32_bd (a : Int) : -2147483648 ≤ wrap32 a ∧ wrap32 a ≤ 2147483647 := by unfold wrap32; omega
theorem s32_mod (a : Int) : wrap32 a % 4294967296 = a % 4294967296 := by unfold wrap32; omega
theorem w64 {a : Int} (h0 : -9223372036854775808 ≤ a) (h1 : a < 9223372036854775808) : wrap64 a = a := by unfold wrap64; omega
theorem w64_mod (a : Int) : wrap64 a % 4294967296 = a % 4294967296 := by unfold wrap64; omega
/-- The reference's Cell, of any number. -/
theorem cell_mod (n : Int) : (Int.tmod (IntKind.u64.wrap n) 4294967296) % 4294967296 = n % 4294967296 := by
  rw [IntKind.wrap_u64, Int.tmod_eq_emod_of_nonneg (by omega)]; omega
theorem mul_mod32 (a b : Int) : (wrap32 a * wrap32 b) % 4294967296 = (a * b) % 4294967296 := by
  rw [Int.mul_emod, s32_mod, s32_mod, ← Int.mul_emod]

/-- one round of bits -/
theorem bit_round {A B C : Nat} {i : Nat} (f : Bool → Bool → Bool) (h : ∀ i, C.testBit i = f (A.testBit i) (B.testBit i)) :
    C / 2 ^ i = 2 * (C / 2 ^ (i + 1)) + (if f (decide (A / 2 ^ i % 2 = 1)) (decide (B / 2 ^ i % 2 = 1)) = true then 1 else 0) := by
  have := h i
  rw [Nat.testBit_eq_decide_div_mod_eq, Nat.testBit_eq_decide_div_mod_eq, Nat.testBit_eq_decide_div_mod_eq] at this
  rw [← this, Nat.pow_succ, ← Nat.div_div_eq_div_mul]
  simp only [decide_eq_true_eq]
  generalize C / 2 ^ i = c
  split <;> omega

/-- the rounds of a shift to the right, with the sign -/
theorem half_sign {a : Int} (h0 : 0 ≤ a) (h1 : a < 4294967296) : ((((Int.tdiv a 2) % 4294967296) + ((((Int.tdiv a 2147483648) % 4294967296) * 2147483648) % 4294967296)) % 4294967296) = (wrap32 a / 2) % 4294967296 := by
  rw [Int.tdiv_eq_ediv_of_nonneg h0, Int.tdiv_eq_ediv_of_nonneg h0]; unfold wrap32; omega

/-- The floored quotient and the rest. -/
def flr (x y : Int) : Int × Int := if Int.tmod x y = 0 then (Int.tdiv x y, Int.tmod x y) else if (decide (Int.tmod x y < 0) != decide (y < 0)) = true then (Int.tdiv x y - 1, Int.tmod x y + y) else (Int.tdiv x y, Int.tmod x y)
theorem tdiv_bd {x y B : Int} (h0 : -B ≤ x) (h1 : x ≤ B) : -B ≤ Int.tdiv x y ∧ Int.tdiv x y ≤ B := by
  have h := Int.natAbs_tdiv_le_natAbs x y
  omega
theorem tmod_bd {x y B : Int} (hy : y ≠ 0) (h0 : -B ≤ y) (h1 : y ≤ B) : -B < Int.tmod x y ∧ Int.tmod x y < B := by
  have h := Int.natAbs_tmod x y
  have h2 := Nat.mod_lt x.natAbs (show 0 < y.natAbs by omega)
  omega

theorem flr_tells (x y : Int) (hn : y ≠ 0) : (flr x y).1 * y + (flr x y).2 = x ∧ ((flr x y).2 = 0 ∨ ((flr x y).2 < 0 ↔ y < 0)) ∧ (flr x y).2.natAbs < y.natAbs := by
  have e := Int.mul_tdiv_add_tmod x y
  have hm := Int.natAbs_tmod x y
  have hl := Nat.mod_lt x.natAbs (show 0 < y.natAbs by omega)
  have e2 : Int.tdiv x y * y = y * Int.tdiv x y := Int.mul_comm _ _
  have e3 : (Int.tdiv x y - 1) * y = y * Int.tdiv x y - y := by rw [Int.sub_mul, e2]; omega
  unfold flr
  by_cases hz : Int.tmod x y = 0
  · rw [if_pos hz]; simp only; refine ⟨by omega, Or.inl hz, by omega⟩
  · rw [if_neg hz]
    by_cases hs : (decide (Int.tmod x y < 0) != decide (y < 0)) = true
    · rw [if_pos hs]
      simp only [bne_iff_ne, ne_eq, decide_eq_decide] at hs
      simp only; refine ⟨by omega, Or.inr (by omega), by omega⟩
    · rw [if_neg hs]
      simp only [bne_iff_ne, ne_eq, decide_eq_decide, Classical.not_not] at hs
      simp only; refine ⟨by omega, Or.inr (by omega), by omega⟩
theorem flr_fits (x y : Int) (hn : y ≠ 0) (h0 : -2147483648 ≤ x) (h1 : x ≤ 2147483647) (hx : ¬ (x = -2147483648 ∧ y = -1)) : -2147483648 ≤ (flr x y).1 ∧ (flr x y).1 ≤ 2147483647 := by
  have hq : (Int.tdiv x y).natAbs = x.natAbs / y.natAbs := Int.natAbs_tdiv x y
  have hm := Int.natAbs_tmod x y
  by_cases h2 : y.natAbs = 1
  · rw [h2, Nat.mod_one] at hm
    rw [h2, Nat.div_one] at hq
    have : flr x y = (Int.tdiv x y, Int.tmod x y) := by unfold flr; rw [if_pos (by omega)]
    rw [this]; simp only
    rcases (show y = 1 ∨ y = -1 by omega) with rfl | rfl
    · rw [Int.tdiv_one]; omega
    · omega
  · have h3 := Nat.div_le_div_left (show 2 ≤ y.natAbs by omega) (by decide) (a := x.natAbs)
    unfold flr
    split
    · simp only; omega
    · split <;> (simp only; omega)
end Go.Proofs.Ytdjpodpibkcnaaa.M
