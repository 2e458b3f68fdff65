/- CellDoubles, the plain part: sums and differences of doubles by cells with a carry or a borrow are those of the whole numbers. -/
import Derived.Test.YtdjpodpibkcnaaaQCellDoublesx1
import Derived.Test.YtdjpodpibkcnaaaM
namespace Go.Proofs.Ytdjpodpibkcnaaa.DblPure
open Go.RowKit Go.Proofs.Ytdjpodpibkcnaaa.QCellDoubles Go.Proofs.YtdjpodpibkcnaaaW.PrintWords Go.Proofs.YtdjpodpibkcnaaaW.PrintLast
open Go.Proofs.Ytdjpodpibkcnaaa.M
theorem alive (k : Nat) : tinderlaw01_alive.f (k + 2) = some true := by
  have : cell_Bin.f (k + 2) 41 2147483648 4 = some (4160749568, 0) := by
    simp [cell_Bin.f, cell_Bin.j0]; decide +kernel
  unfold tinderlaw01_alive.f
  rw [this]; decide +kernel
theorem add32 (a b c : Int) (h0 : 0 ≤ a) (h1 : a < 4294967296) (h2 : 0 ≤ b) (h3 : b < 4294967296) (h4 : 0 ≤ c) (h5 : c ≤ 1) : bits_Add32.f a b c = some ((a + b + c) % 4294967296, (a + b + c) / 4294967296) := by
  unfold bits_Add32.f
  simp only [IntKind.wrap_u64]
  congr 2 <;> omega
theorem top (X : Nat) (h : X < 4294967296) : X.testBit 31 = decide (2147483648 ≤ X) := by
  rw [Nat.testBit_eq_decide_div_mod_eq]
  have : X / 2 ^ 31 % 2 = X / 2147483648 := by omega
  rw [this, decide_eq_decide]; omega
theorem top_div (X : Nat) (h : X < 4294967296) : X / 2147483648 = if X.testBit 31 = true then 1 else 0 := by
  rw [top X h]; split <;> simp at * <;> omega
theorem borrow (X Y D : Nat) (hX : X < 4294967296) (hY : Y < 4294967296) (hD : D < 4294967296) :
    ((bits .or .u32 (bits .and .u32 (bits .xor .u32 4294967295 (X : Int)) (Y : Int)) (bits .and .u32 (bits .xor .u32 4294967295 (bits .xor .u32 (X : Int) (Y : Int))) (D : Int))) / 2147483648 : Int)
      = if (X < 2147483648 ∧ 2147483648 ≤ Y) ∨ ((2147483648 ≤ X ↔ 2147483648 ≤ Y) ∧ 2147483648 ≤ D) then 1 else 0 := by
  have m : ((4294967295 : Nat) : Int) = 4294967295 := rfl
  have l1 : 4294967295 ^^^ X < 4294967296 := Nat.xor_lt_two_pow (n := 32) (by decide) hX
  have l2 : X ^^^ Y < 4294967296 := Nat.xor_lt_two_pow (n := 32) hX hY
  have l3 : 4294967295 ^^^ (X ^^^ Y) < 4294967296 := Nat.xor_lt_two_pow (n := 32) (by decide) l2
  have l4 : (4294967295 ^^^ X) &&& Y < 4294967296 := Nat.lt_of_le_of_lt Nat.and_le_right hY
  have l5 : (4294967295 ^^^ (X ^^^ Y)) &&& D < 4294967296 := Nat.lt_of_le_of_lt Nat.and_le_right hD
  have l6 : ((4294967295 ^^^ X) &&& Y) ||| ((4294967295 ^^^ (X ^^^ Y)) &&& D) < 4294967296 := Nat.or_lt_two_pow (n := 32) l4 l5
  rw [← m, u32_xor_nat _ _ (by decide) hX, u32_xor_nat _ _ hX hY, u32_xor_nat _ _ (by decide) l2, u32_and_nat _ _ l1 hY, u32_and_nat _ _ l3 hD, u32_or_nat _ _ l4 l5]
  have e : (((((4294967295 ^^^ X) &&& Y) ||| ((4294967295 ^^^ (X ^^^ Y)) &&& D) : Nat) : Int) / 2147483648) = (((((4294967295 ^^^ X) &&& Y) ||| ((4294967295 ^^^ (X ^^^ Y)) &&& D)) / 2147483648 : Nat) : Int) := by simp
  rw [e, top_div _ l6]
  have tm : Nat.testBit 4294967295 31 = true := by decide
  rw [Nat.testBit_or, Nat.testBit_and, Nat.testBit_and, Nat.testBit_xor, Nat.testBit_xor, Nat.testBit_xor, tm, top X hX, top Y hY, top D hD]
  by_cases a : 2147483648 ≤ X <;> by_cases b : 2147483648 ≤ Y <;> by_cases c : 2147483648 ≤ D <;> simp [a, b, c] <;> omega
theorem sub32 (a b c : Int) (h0 : 0 ≤ a) (h1 : a < 4294967296) (h2 : 0 ≤ b) (h3 : b < 4294967296) (h4 : 0 ≤ c) (h5 : c ≤ 1) : bits_Sub32.f a b c = some ((a - b - c) % 4294967296, if a < b + c then 1 else 0) := by
  obtain ⟨X, rfl⟩ := Int.eq_ofNat_of_zero_le h0
  obtain ⟨Y, rfl⟩ := Int.eq_ofNat_of_zero_le h2
  obtain ⟨D, hD⟩ : ∃ D : Nat, (((X : Int) - Y) % 4294967296 - c) % 4294967296 = (D : Int) := ⟨((((X : Int) - Y) % 4294967296 - c) % 4294967296).toNat, by omega⟩
  unfold bits_Sub32.f
  rw [hD, borrow X Y D (by omega) (by omega) (by omega)]
  congr 2
  · omega
  · rcases (show c = 0 ∨ c = 1 by omega) with rfl | rfl <;> (split <;> split <;> omega)

/-- what the reference's double is -/
theorem ref_double (a0 a1 : Int) (h0 : 0 ≤ a0) (h1 : a0 < 4294967296) (h2 : 0 ≤ a1) (h3 : a1 < 4294967296) : IntKind.u64.wrap (IntKind.u64.wrap (IntKind.u64.wrap a1 * 4294967296) + IntKind.u64.wrap a0) = a1 * 4294967296 + a0 := by
  simp only [IntKind.wrap_u64]; omega
theorem ref_parts (n : Int) : Int.tmod (IntKind.u64.wrap n) 4294967296 % 4294967296 = n % 4294967296 ∧ IntKind.u64.wrap (Int.tdiv (IntKind.u64.wrap n) 4294967296) % 4294967296 = n / 4294967296 % 4294967296 := by
  have h : 0 ≤ IntKind.u64.wrap n := by rw [IntKind.wrap_u64]; omega
  rw [Int.tmod_eq_emod_of_nonneg h, Int.tdiv_eq_ediv_of_nonneg h]
  simp only [IntKind.wrap_u64]; omega

theorem adds (a0 a1 b0 b1 : Int) (ha0 : 0 ≤ a0) (ha0' : a0 < 4294967296) (ha1 : 0 ≤ a1) (ha1' : a1 < 4294967296) (hb0 : 0 ≤ b0) (hb0' : b0 < 4294967296) (hb1 : 0 ≤ b1) (hb1' : b1 < 4294967296) :
    ∃ k k1, bits_Add32.f a0 b0 0 = some ((a1 * 4294967296 + a0 + (b1 * 4294967296 + b0)) % 4294967296, k) ∧ bits_Add32.f a1 b1 k = some ((a1 * 4294967296 + a0 + (b1 * 4294967296 + b0)) / 4294967296 % 4294967296, k1) := by
  refine ⟨(a0 + b0 + 0) / 4294967296, (a1 + b1 + (a0 + b0 + 0) / 4294967296) / 4294967296, ?_, ?_⟩
  · rw [add32 a0 b0 0 ha0 ha0' hb0 hb0' (by decide) (by decide)]; congr 2; omega
  · rw [add32 a1 b1 _ ha1 ha1' hb1 hb1' (by omega) (by omega)]; congr 2; omega
theorem subs (a0 a1 b0 b1 : Int) (ha0 : 0 ≤ a0) (ha0' : a0 < 4294967296) (ha1 : 0 ≤ a1) (ha1' : a1 < 4294967296) (hb0 : 0 ≤ b0) (hb0' : b0 < 4294967296) (hb1 : 0 ≤ b1) (hb1' : b1 < 4294967296) :
    ∃ k k1, bits_Sub32.f a0 b0 0 = some ((a1 * 4294967296 + a0 - (b1 * 4294967296 + b0)) % 4294967296, k) ∧ bits_Sub32.f a1 b1 k = some ((a1 * 4294967296 + a0 - (b1 * 4294967296 + b0)) / 4294967296 % 4294967296, k1) := by
  refine ⟨if a0 < b0 + 0 then 1 else 0, if a1 < b1 + (if a0 < b0 + 0 then 1 else 0) then 1 else 0, ?_, ?_⟩
  · rw [sub32 a0 b0 0 ha0 ha0' hb0 hb0' (by decide) (by decide)]; congr 2; omega
  · rw [sub32 a1 b1 _ ha1 ha1' hb1 hb1' (by split <;> omega) (by split <;> omega)]; congr 2; by_cases h : a0 < b0 + 0 <;> simp only [h, if_true, if_false] <;> omega
end Go.Proofs.Ytdjpodpibkcnaaa.DblPure
