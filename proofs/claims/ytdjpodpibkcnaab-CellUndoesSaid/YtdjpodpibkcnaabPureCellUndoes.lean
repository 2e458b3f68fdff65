/- CellUndoes: a product divided by a factor is the other one; sums, exclusive ors and signs are undone. No condition. -/
import Derived.Test.YtdjpodpibkcnaabQCellUndoesx3
import Derived.Test.YtdjpodpibkcnaabM
namespace Go.Proofs.Ytdjpodpibkcnaab.Pure
open Go.RowKit Go.Proofs.Ytdjpodpibkcnaab.QCellUndoes Go.Proofs.YtdjpodpibkcnaabW.PrintWords Go.Proofs.YtdjpodpibkcnaabW.PrintLast
open Go.Proofs.Ytdjpodpibkcnaab.M
theorem alive (k : Nat) : tinderlaw01_alive.f (k + 2) = some true := by
  have : cell_Bin.f (k + 2) 41 2147483648 4 = some (4160749568, 0) := by
    simp [cell_Bin.f, cell_Bin.j0]; decide +kernel
  unfold tinderlaw01_alive.f
  rw [this]; decide +kernel
theorem join64 (H L : Nat) (hH : H < 4294967296) (hL : L < 4294967296) :
    bits .or .u64 (IntKind.u64.wrap (IntKind.u64.wrap (H : Int) * 4294967296)) (IntKind.u64.wrap (L : Int)) = ((H * 4294967296 + L : Nat) : Int) := by
  have e1 : IntKind.u64.wrap (IntKind.u64.wrap (H : Int) * 4294967296) = ((H * 4294967296 : Nat) : Int) := by rw [IntKind.wrap_u64, IntKind.wrap_u64]; omega
  have e2 : IntKind.u64.wrap (L : Int) = (L : Int) := by rw [IntKind.wrap_u64]; omega
  rw [e1, e2, u64_or_nat _ _ (by omega) (by omega)]
  have := Nat.shiftLeft_add_eq_or_of_lt (i := 32) (b := L) (by simpa using hL) H
  rw [Nat.shiftLeft_eq] at this
  rw [show (2 : Nat) ^ 32 = 4294967296 by decide] at this
  rw [← this]
theorem times (A B : Nat) (hA : A < 4294967296) (hB : B < 4294967296) : cell_Times.f (A : Int) (B : Int) = some (((A * B % 4294967296 : Nat) : Int), ((A * B / 4294967296 : Nat) : Int)) := by
  have h : A * B < 18446744073709551616 := Nat.lt_of_le_of_lt (Nat.mul_le_mul (Nat.le_of_lt_succ hA) (Nat.le_of_lt_succ hB)) (by decide)
  have e1 : IntKind.u64.wrap (A : Int) = (A : Int) := by rw [IntKind.wrap_u64]; omega
  have e2 : IntKind.u64.wrap (B : Int) = (B : Int) := by rw [IntKind.wrap_u64]; omega
  have e3 : IntKind.u64.wrap ((A : Int) * (B : Int)) = ((A * B : Nat) : Int) := by rw [IntKind.wrap_u64, ← Int.natCast_mul]; omega
  unfold cell_Times.f bits_Mul32.f
  rw [e1, e2, e3]
  simp only [Option.bind_some]
  generalize A * B = p at *
  congr 2; omega

theorem div32 (A B : Nat) (hA : A < 4294967296) (hB : B < 4294967296) (hz : B ≠ 0) : bits_Div32.f ((A * B / 4294967296 : Nat) : Int) ((A * B % 4294967296 : Nat) : Int) (B : Int) = some ((A : Int), 0) := by
  have hlt : A * B / 4294967296 < B := by
    apply Nat.div_lt_of_lt_mul
    exact (Nat.mul_lt_mul_right (Nat.pos_of_ne_zero hz)).2 hA
  have hj := join64 (A * B / 4294967296) (A * B % 4294967296) (by omega) (by omega)
  have e2 : IntKind.u64.wrap (B : Int) = (B : Int) := by rw [IntKind.wrap_u64]; clear hj; omega
  have e3 : A * B / 4294967296 * 4294967296 + A * B % 4294967296 = A * B := by clear hj; omega
  rw [e3] at hj
  have e4 : ((A * B : Nat) : Int).tdiv (B : Int) = (A : Int) := by
    rw [Int.natCast_mul, Int.mul_tdiv_cancel _ (by clear hj; omega)]
  have e5 : ((A * B : Nat) : Int).tmod (B : Int) = 0 := by
    rw [Int.natCast_mul, Int.mul_tmod_left]
  have e6 : IntKind.u64.wrap (A : Int) = (A : Int) := by rw [IntKind.wrap_u64]; clear hj; omega
  have c1 : ((B : Int) = 0) = False := eq_false (by clear hj; omega)
  have c2 : ((B : Int) ≤ ((A * B / 4294967296 : Nat) : Int)) = False := eq_false (by clear hj; omega)
  have e7 : (A : Int) % 4294967296 = (A : Int) := by clear hj; omega
  unfold bits_Div32.f
  rw [hj, e2, e4, e5, e6, e7]
  simp only [c1, c2, if_false]; rfl

theorem CellUndoes : tinderlaw01_CellUndoes.Pure := by
  intro a b c wa wb wc
  have ha := wf32 wa
  have hb := wf32 wb
  have hc := wf32 wc
  obtain ⟨A, rfl⟩ := Int.eq_ofNat_of_zero_le ha.1
  obtain ⟨B, rfl⟩ := Int.eq_ofNat_of_zero_le hb.1
  obtain ⟨C, rfl⟩ := Int.eq_ofNat_of_zero_le hc.1
  have tail : tinderlaw01_CellUndoes.j0 4 A C false = some true := by
    simp only [tinderlaw01_CellUndoes.j0]
    have x1 := u32_xor_nat A C (by omega) (by omega)
    have l1 : A ^^^ C < 4294967296 := Nat.xor_lt_two_pow (n := 32) (by omega) (by omega)
    have x2 := u32_xor_nat (A ^^^ C) C l1 (by omega)
    rw [Nat.xor_assoc, Nat.xor_self, Nat.xor_zero] at x2
    have b1 : cell_Bin.f 3 30 A C = some (((A : Int) + C) % 4294967296, 0) := rfl
    have b2 : cell_Bin.f 3 31 (((A : Int) + C) % 4294967296) C = some ((A : Int), 0) := by
      show some (((((A : Int) + C) % 4294967296) - C) % 4294967296, 0) = _
      congr 2; clear x1 x2; omega
    have b3 : cell_Bin.f 3 37 A C = some (((A ^^^ C : Nat) : Int), 0) := by simp [cell_Bin.f, cell_Bin.j0, x1]
    have b4 : cell_Bin.f 3 37 ((A ^^^ C : Nat) : Int) C = some ((A : Int), 0) := by simp only [cell_Bin.f, cell_Bin.j0, x2]; rfl
    have b5 : cell_Un.f 44 A = some ((-(A : Int)) % 4294967296, 0) := rfl
    have b6 : cell_Bin.f 3 30 ((-(A : Int)) % 4294967296) A = some (0, 0) := by
      show some (((((-(A : Int)) % 4294967296)) + A) % 4294967296, 0) = _
      congr 2; clear x1 x2 b1 b2 b3 b4 b5; omega
    rw [b1]; simp only [Option.bind_some]; rw [b2]; simp only [Option.bind_some]; rw [b3]; simp only [Option.bind_some]; rw [b4]; simp only [Option.bind_some]; rw [b5]; simp only [Option.bind_some]; rw [b6]
    simp
  refine ⟨4, ?_⟩
  unfold tinderlaw01_CellUndoes.f
  rw [alive 2, times A B (by omega) (by omega)]
  simp only [Option.bind_some, if_true]
  by_cases hz : B = 0
  · subst hz
    have w0 : ∀ l h, cell_Wide.f 4 213 l h ((0 : Nat) : Int) = some (0, 0, 7) := by
      intro l h
      unfold cell_Wide.f
      rw [if_pos rfl]
      simp only [cell_Wide.j0]
      rw [if_neg (by decide)]; rfl
    rw [w0]; simp only [Option.bind_some]
    exact tail
  · have hd := div32 A B (by omega) (by omega) hz
    have hlt : A * B / 4294967296 < B := by
      apply Nat.div_lt_of_lt_mul
      exact (Nat.mul_lt_mul_right (Nat.pos_of_ne_zero hz)).2 (by omega)
    have c1 : ((B : Int) = 0) = False := eq_false (by clear hd; omega)
    have c2 : (((A * B / 4294967296 : Nat) : Int) ≥ (B : Int)) = False := eq_false (by clear hd; omega)
    have hw : cell_Wide.f 4 213 ((A * B % 4294967296 : Nat) : Int) ((A * B / 4294967296 : Nat) : Int) B = some ((A : Int), 0, 0) := by
      unfold cell_Wide.f
      rw [if_pos rfl]
      simp only [cell_Wide.j0, c1, c2, if_false, hd]; rfl
    rw [hw]; simp only [Option.bind_some, c1, if_false]
    exact tail
end Go.Proofs.Ytdjpodpibkcnaab.Pure
