/- CellDivides: the quotient and the rest that the program's Divide answers are the reference's, for every operation and all cells. No condition. -/
import Derived.Test.YtdjpodpibkcnaaaPCellDividesx2
import Derived.Test.YtdjpodpibkcnaaaM
namespace Go.Proofs.Ytdjpodpibkcnaaa.Pure
open Go.RowKit Go.Proofs.Ytdjpodpibkcnaaa.PCellDivides Go.Proofs.YtdjpodpibkcnaaaW.PrintWords Go.Proofs.YtdjpodpibkcnaaaW.PrintLast
open Go.Proofs.Ytdjpodpibkcnaaa.M
theorem alive (k : Nat) : tinderlaw01_alive.f (k + 2) = some true := by
  have : cell_Bin.f (k + 2) 41 2147483648 4 = some (4160749568, 0) := by
    simp [cell_Bin.f, cell_Bin.j0]; decide +kernel
  unfold tinderlaw01_alive.f
  rw [this]; decide +kernel
theorem wrap64_s (a : Int) : wrap64 (wrap32 a) = wrap32 a := by unfold wrap64 wrap32; omega
theorem s_ne {b : Int} (h0 : 0 ≤ b) (h1 : b < 4294967296) (hb : b ≠ 0) : wrap32 b ≠ 0 := by unfold wrap32; omega
theorem divide_floor (k : Nat) (a b : Int) (h0 : 0 ≤ b) (h1 : b < 4294967296) (hb : b ≠ 0) :
    cell_Divide.f (k + 1) 42 a b = some ((flr (wrap32 a) (wrap32 b)).1 % 4294967296, (flr (wrap32 a) (wrap32 b)).2 % 4294967296, 0) := by
  have ha := s32_bd a
  have hb' := s32_bd b
  have hn := s_ne h0 h1 hb
  unfold cell_Divide.f
  rw [if_pos rfl]
  simp only [cell_Divide.j0]
  rw [if_neg (by decide), if_neg hb, if_neg (by decide), wrap64_s, wrap64_s, if_neg hn]
  generalize wrap32 a = x at *
  generalize wrap32 b = y at *
  have hq := tdiv_bd (x := x) (y := y) (B := 2147483648) (by omega) (by omega)
  have hm := tmod_bd (x := x) (y := y) (B := 2147483648) hn (by omega) (by omega)
  unfold flr
  by_cases hz : Int.tmod x y = 0
  · rw [if_pos hz, if_pos hz, w64 (by omega) (by omega)]
  · rw [if_neg hz, if_neg hz]
    by_cases hs : (decide (Int.tmod x y < 0) != decide (y < 0)) = true
    · rw [if_pos ((xor_neg _ _ (by omega) (by omega) (by omega) (by omega)).2 hs), if_pos hs, w64 (a := Int.tdiv x y) (by omega) (by omega), w64 (by omega) (by omega), w64 (by omega) (by omega)]
    · rw [if_neg (fun h => hs ((xor_neg _ _ (by omega) (by omega) (by omega) (by omega)).1 h)), if_neg hs, w64 (by omega) (by omega)]
theorem divide_zero (k : Nat) (a : Int) : cell_Divide.f (k + 1) 42 a 0 = some (0, 0, 7) := by
  unfold cell_Divide.f
  rw [if_pos rfl]
  simp only [cell_Divide.j0]
  rw [if_neg (by decide)]; rfl
theorem rsigned {a : Int} (h0 : 0 ≤ a) (h1 : a < 4294967296) : tinderref01_Signed.f a = some (wrap32 a) := by
  unfold tinderref01_Signed.f
  rw [s32 h0 h1]
  split <;> (congr 1; unfold wrap64; omega)
theorem rcell (n : Int) : tinderref01_Cell.f n = some (n % 4294967296) := by
  unfold tinderref01_Cell.f; rw [cell_mod]
theorem rfloor (x y : Int) (hx : -2147483648 ≤ x) (hx' : x ≤ 2147483648) (hy : -2147483648 ≤ y) (hy' : y ≤ 2147483648) (hn : y ≠ 0) : tinderref01_Floor.f x y = some (flr x y) := by
  have hq := tdiv_bd (x := x) (y := y) (B := 2147483648) (by omega) (by omega)
  have hm := tmod_bd (x := x) (y := y) (B := 2147483648) hn (by omega) (by omega)
  unfold tinderref01_Floor.f flr
  rw [if_neg hn]
  by_cases hz : Int.tmod x y = 0
  · rw [if_pos hz, if_pos hz, w64 (by omega) (by omega)]
  · rw [if_neg hz, if_neg hz]
    by_cases hs : (decide (Int.tmod x y < 0) != decide (y < 0)) = true
    · rw [if_pos hs, if_pos hs, w64 (a := Int.tdiv x y) (by omega) (by omega), w64 (by omega) (by omega), w64 (by omega) (by omega)]
    · rw [if_neg hs, if_neg hs, w64 (by omega) (by omega)]
theorem same (k : Nat) (op a b : Int) (ha : 0 ≤ a) (ha' : a < 4294967296) (hb : 0 ≤ b) (hb' : b < 4294967296) :
    ∃ q r e, cell_Divide.f (k + 1) op a b = some (q, r, e) ∧ tinderref01_Divide.f (k + 1) op a b = some (q, r, e) := by
  by_cases h42 : op = 42
  · subst h42
    by_cases hz : b = 0
    · subst hz
      exact ⟨_, _, _, divide_zero k a, by unfold tinderref01_Divide.f; rw [if_pos rfl]; simp only [tinderref01_Divide.j0]; rw [if_neg (by decide)]; rfl⟩
    · refine ⟨_, _, _, divide_floor k a b hb hb' hz, ?_⟩
      have h1 := s32_bd a
      have h2 := s32_bd b
      unfold tinderref01_Divide.f
      rw [if_pos rfl]
      simp only [tinderref01_Divide.j0]
      rw [if_neg (by decide), if_neg hz, if_neg (by decide), rsigned ha ha', rsigned hb hb']
      simp only [Option.bind_some]
      rw [rfloor _ _ (by omega) (by omega) (by omega) (by omega) (s_ne hb hb' hz)]
      simp only [Option.bind_some, rcell]
  · unfold cell_Divide.f tinderref01_Divide.f
    rw [if_neg h42, if_neg h42]
    simp only [cell_Divide.j0, tinderref01_Divide.j0]
    by_cases h43 : op = 43
    · subst h43
      by_cases hz : b = 0
      · subst hz; exact ⟨_, _, _, rfl, rfl⟩
      · exact ⟨a.tdiv b % 4294967296, a.tmod b, 0, by simp [hz], by simp [hz]⟩
    · rw [if_pos (by simpa using h43), if_pos (by simpa using h43)]; exact ⟨_, _, _, rfl, rfl⟩

theorem CellDivides : tinderlaw01_CellDivides.Pure := by
  intro op a b _ wa wb
  have ha := wf32 wa
  have hb := wf32 wb
  obtain ⟨q, r, e, h1, h2⟩ := same 1 op a b ha.1 ha.2 hb.1 hb.2
  refine ⟨2, ?_⟩
  unfold tinderlaw01_CellDivides.f
  rw [alive 0, h1, h2]
  simp

end Go.Proofs.Ytdjpodpibkcnaaa.Pure
