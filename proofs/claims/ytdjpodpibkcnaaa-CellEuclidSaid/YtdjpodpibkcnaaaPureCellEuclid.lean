/- CellEuclid: a floored quotient times the divisor, and the rest, are the number, and the rest is 0 or has the divisor's sign. No condition. -/
import Derived.Test.YtdjpodpibkcnaaaPCellEuclidx2
import Derived.Test.YtdjpodpibkcnaaaM
namespace Go.Proofs.Ytdjpodpibkcnaaa.Pure
open Go.RowKit Go.Proofs.Ytdjpodpibkcnaaa.PCellEuclid Go.Proofs.YtdjpodpibkcnaaaW.PrintWords Go.Proofs.YtdjpodpibkcnaaaW.PrintLast
open Go.Proofs.Ytdjpodpibkcnaaa.M
theorem alive (k : Nat) : tinderlaw01_alive.f (k + 2) = some true := by
  have : cell_Bin.f (k + 2) 41 2147483648 4 = some (4160749568, 0) := by
    simp [cell_Bin.f, cell_Bin.j0]; decide +kernel
  unfold tinderlaw01_alive.f
  rw [this]; decide +kernel
theorem wrap64_s (a : Int) : wrap64 (wrap32 a) = wrap32 a := by unfold wrap64 wrap32; omega
theorem s_ne {b : Int} (h0 : 0 ≤ b) (h1 : b < 4294967296) (hb : b ≠ 0) : wrap32 b ≠ 0 := by unfold wrap32; omega
theorem divide_floor (k : Nat) (a b : Int) (h0 : 0 ≤ b) (h1 : b < 4294967296) (hb : b ≠ 0) :
    cell_Divide.f (k + 1) 42 a b = some ((flr (wrap32 a) (wrap32 b)).1 % 4294967296, (flr (wrap32 a) (wrap32 b)).2 % 4294967296, 0) := by
  have ha := s32_bd a
  have hb' := s32_bd b
  have hn := s_ne h0 h1 hb
  unfold cell_Divide.f
  rw [if_pos rfl]
  simp only [cell_Divide.j0]
  rw [if_neg (by decide), if_neg hb, if_neg (by decide), wrap64_s, wrap64_s, if_neg hn]
  generalize wrap32 a = x at *
  generalize wrap32 b = y at *
  have hq := tdiv_bd (x := x) (y := y) (B := 2147483648) (by omega) (by omega)
  have hm := tmod_bd (x := x) (y := y) (B := 2147483648) hn (by omega) (by omega)
  unfold flr
  by_cases hz : Int.tmod x y = 0
  · rw [if_pos hz, if_pos hz, w64 (by omega) (by omega)]
  · rw [if_neg hz, if_neg hz]
    by_cases hs : (decide (Int.tmod x y < 0) != decide (y < 0)) = true
    · rw [if_pos ((xor_neg _ _ (by omega) (by omega) (by omega) (by omega)).2 hs), if_pos hs, w64 (a := Int.tdiv x y) (by omega) (by omega), w64 (by omega) (by omega), w64 (by omega) (by omega)]
    · rw [if_neg (fun h => hs ((xor_neg _ _ (by omega) (by omega) (by omega) (by omega)).1 h)), if_neg hs, w64 (by omega) (by omega)]
theorem divide_zero (k : Nat) (a : Int) : cell_Divide.f (k + 1) 42 a 0 = some (0, 0, 7) := by
  unfold cell_Divide.f
  rw [if_pos rfl]
  simp only [cell_Divide.j0]
  rw [if_neg (by decide)]; rfl
theorem signed (a : Int) : cell_Signed.f a = some (wrap32 a) := by unfold cell_Signed.f; rw [wrap64_s]
theorem s_back {q : Int} (h0 : -2147483648 ≤ q) (h1 : q ≤ 2147483647) : wrap32 (q % 4294967296) = q := by unfold wrap32; omega
theorem mx_abs {t : Int} (h0 : -2147483648 ≤ t) (h1 : t ≤ 2147483648) : mx t (wrap64 (-t)) = (t.natAbs : Int) := by
  unfold mx; rw [w64 (by omega) (by omega)]; split <;> omega

theorem CellEuclid : tinderlaw01_CellEuclid.Pure := by
  intro a b wa wb
  have ha := wf32 wa
  have hb := wf32 wb
  refine ⟨2, ?_⟩
  unfold tinderlaw01_CellEuclid.f
  rw [alive 0]
  simp only [Option.bind_some, if_true]
  by_cases hz : b = 0
  · subst hz
    rw [divide_zero 1 a]; rfl
  · rw [divide_floor 1 a b hb.1 hb.2 hz]
    simp only [Option.bind_some]
    rw [if_neg hz]
    have hn := s_ne hb.1 hb.2 hz
    have ht := flr_tells (wrap32 a) (wrap32 b) hn
    have ba := s32_bd a
    have bb := s32_bd b
    by_cases hs : a = 2147483648 ∧ b = 4294967295
    · obtain ⟨rfl, rfl⟩ := hs
      decide +kernel
    · have hx : ¬ (wrap32 a = -2147483648 ∧ wrap32 b = -1) := by
        intro h; apply hs
        rw [s32 ha.1 ha.2, s32 hb.1 hb.2] at h
        split at h <;> split at h <;> omega
      have hf := flr_fits (wrap32 a) (wrap32 b) hn ba.1 ba.2 hx
      have core : tinderlaw01_CellEuclid.j0 2 a b ((flr (wrap32 a) (wrap32 b)).1 % 4294967296) ((flr (wrap32 a) (wrap32 b)).2 % 4294967296) 0 false = some true := by
        simp only [tinderlaw01_CellEuclid.j0]
        rw [if_neg (by decide), signed, signed, signed, signed]
        simp only [Option.bind_some]
        generalize (flr (wrap32 a) (wrap32 b)).1 = q at *
        generalize (flr (wrap32 a) (wrap32 b)).2 = m at *
        rw [s_back hf.1 hf.2, s_back (q := m) (by omega) (by omega), if_pos trivial]
        have e : q * wrap32 b = wrap32 a - m := by omega
        rw [e, w64 (a := wrap32 a - m) (by omega) (by omega), w64 (a := wrap32 a - m + m) (by omega) (by omega), if_pos (by omega), mx_abs (by omega) (by omega), mx_abs (by omega) (by omega)]
        have hlt : decide ((m.natAbs : Int) < ((wrap32 b).natAbs : Int)) = true := by simp; omega
        rw [hlt]
        by_cases hm : m = 0
        · rw [if_pos hm]
        · rw [if_neg hm, if_pos (by simp; omega)]
      by_cases h1 : a = 2147483648
      · rw [if_pos h1]
        have : (b == 4294967295) = false := by simp; omega
        rw [this]; exact core
      · rw [if_neg h1]; exact core
end Go.Proofs.Ytdjpodpibkcnaaa.Pure
