/- CellSymmetric: a symmetric quotient times the divisor, and the rest, are the number, the rest is 0 or has the number's sign, and it is refused just where it is too great. No condition. -/
import Derived.Test.YtdjpodpibkcnaaaQCellSymmetricx2
import Derived.Test.YtdjpodpibkcnaaaM
namespace Go.Proofs.Ytdjpodpibkcnaaa.Pure
open Go.RowKit Go.Proofs.Ytdjpodpibkcnaaa.QCellSymmetric Go.Proofs.YtdjpodpibkcnaaaW.PrintWords Go.Proofs.YtdjpodpibkcnaaaW.PrintLast
open Go.Proofs.Ytdjpodpibkcnaaa.M
theorem alive (k : Nat) : tinderlaw01_alive.f (k + 2) = some true := by
  have : cell_Bin.f (k + 2) 41 2147483648 4 = some (4160749568, 0) := by
    simp [cell_Bin.f, cell_Bin.j0]; decide +kernel
  unfold tinderlaw01_alive.f
  rw [this]; decide +kernel
theorem wrap64_s (a : Int) : wrap64 (wrap32 a) = wrap32 a := by unfold wrap64 wrap32; omega
theorem s_ne {b : Int} (h0 : 0 ≤ b) (h1 : b < 4294967296) (hb : b ≠ 0) : wrap32 b ≠ 0 := by unfold wrap32; omega
theorem join64 (H L : Nat) (hH : H < 4294967296) (hL : L < 4294967296) :
    bits .or .u64 (IntKind.u64.wrap (IntKind.u64.wrap (H : Int) * 4294967296)) (IntKind.u64.wrap (L : Int)) = ((H * 4294967296 + L : Nat) : Int) := by
  have e1 : IntKind.u64.wrap (IntKind.u64.wrap (H : Int) * 4294967296) = ((H * 4294967296 : Nat) : Int) := by rw [IntKind.wrap_u64, IntKind.wrap_u64]; omega
  have e2 : IntKind.u64.wrap (L : Int) = (L : Int) := by rw [IntKind.wrap_u64]; omega
  rw [e1, e2, u64_or_nat _ _ (by omega) (by omega)]
  have := Nat.shiftLeft_add_eq_or_of_lt (i := 32) (b := L) (by simpa using hL) H
  rw [Nat.shiftLeft_eq] at this
  rw [show (2 : Nat) ^ 32 = 4294967296 by decide] at this
  rw [← this]
theorem tmod_sign (x y : Int) (h : Int.tmod x y ≠ 0) : Int.tmod x y < 0 ↔ x < 0 := by
  have h1 := Int.tmod_nonneg (a := x) y
  have h2 := Int.tmod_nonneg (a := -x) y
  rw [Int.neg_tmod] at h2
  omega
theorem s_back {q : Int} (h0 : -2147483648 ≤ q) (h1 : q ≤ 2147483647) : wrap32 (q % 4294967296) = q := by unfold wrap32; omega

theorem core (k : Nat) (n d x : Int) (H : Nat) (hH : H < 4294967296) (hn : 0 ≤ n) (hn' : n < 4294967296) (hd : 0 ≤ d) (hd' : d < 4294967296)
    (hx : wrap64 (H * 4294967296 + n) = x) (hx0 : -4294967296 ≤ x) (hx1 : x < 4294967296) (hz : d ≠ 0) :
    ∃ q r e, cell_Wide.f (k + 3) 469 n H d = some (q, r, e) ∧ tinderlaw01_CellSymmetric.j1 (k + 3) d q r e x = some true := by
  obtain ⟨L, rfl⟩ := Int.eq_ofNat_of_zero_le hn
  have hs := s_ne hd hd' hz
  have bd := s32_bd d
  have hq : (Int.tdiv x (wrap32 d)).natAbs ≤ x.natAbs := Int.natAbs_tdiv_le_natAbs x (wrap32 d)
  have hm := tmod_bd (x := x) (y := wrap32 d) (B := 2147483648) hs (by omega) (by omega)
  have e := Int.mul_tdiv_add_tmod x (wrap32 d)
  have sg := tmod_sign x (wrap32 d)
  have hc : (x = -9223372036854775808) = False := eq_false (by clear hx; omega)
  have hqw := w64 (a := Int.tdiv x (wrap32 d)) (by clear hx; omega) (by clear hx; omega)
  have h1 : cell_Wide.f (k + 3) 469 L H d = cell_Wide.j2 (k + 1) (wrap32 d) (Int.tdiv x (wrap32 d)) (Int.tmod x (wrap32 d)) false := by
    have hj := join64 H L hH (by omega)
    have hx2 : wrap64 (((H * 4294967296 + L : Nat) : Int)) = x := by
      have e0 : ((H * 4294967296 + L : Nat) : Int) = (H : Int) * 4294967296 + (L : Int) := by omega
      rw [e0]; exact hx
    unfold cell_Wide.f
    rw [if_neg (by decide), if_pos rfl]
    simp only [cell_Wide.j0]
    rw [if_neg (by decide), if_neg hz, if_neg (by decide), hj, hx2, wrap64_s]
    simp only [hc, if_false]
    simp only [cell_Wide.j1]
    rw [if_neg (by decide), if_neg hs, if_neg (by decide), hqw]
  rw [h1]
  clear h1 hx hqw
  simp only [cell_Wide.j2]
  rw [if_neg (by decide)]
  have sd : cell_Signed.f d = some (wrap32 d) := by unfold cell_Signed.f; rw [wrap64_s]
  generalize hqe : Int.tdiv x (wrap32 d) = q at *
  generalize Int.tmod x (wrap32 d) = t at *
  generalize wrap32 d = y at *
  by_cases hr : q = wrap32 q
  · have bq := s32_bd q
    rw [wrap64_s, if_pos hr]
    refine ⟨_, _, _, rfl, ?_⟩
    simp only [tinderlaw01_CellSymmetric.j1]
    rw [if_pos trivial, sd]
    simp only [cell_Signed.f, wrap64_s, Option.bind_some]
    rw [s_back (q := q) (by omega) (by omega), s_back (q := t) (by omega) (by omega)]
    have e2 : q * y = x - t := by rw [Int.mul_comm]; omega
    rw [e2, w64 (a := x - t) (by omega) (by omega), w64 (a := x - t + t) (by omega) (by omega), if_pos (by omega)]
    by_cases ht : t = 0
    · rw [if_pos ht]
    · rw [if_neg ht]
      have := sg ht
      simp [this]
  · rw [wrap64_s, if_neg hr]
    refine ⟨_, _, _, rfl, ?_⟩
    simp only [tinderlaw01_CellSymmetric.j1]
    rw [if_neg (by decide), sd]
    simp only [Option.bind_some]
    rw [if_neg hs, if_pos trivial]
    have ho : q ≥ 2147483648 ∨ q < -2147483648 := by unfold wrap32 at hr; omega
    rw [hqe, w64 (a := q) (by omega) (by omega)]
    rcases ho with ho | ho
    · rw [if_pos ho]
    · rw [if_neg (by omega)]; simp [ho]

theorem CellSymmetric : tinderlaw01_CellSymmetric.Pure := by
  intro a b high wa wb
  have ha := wf32 wa
  have hb := wf32 wb
  refine ⟨5, ?_⟩
  unfold tinderlaw01_CellSymmetric.f
  rw [alive 3]
  simp only [Option.bind_some, if_true]
  by_cases hz : b = 0
  · subst hz
    have h0 : ∀ h, cell_Wide.f 4 469 a h 0 = some (0, 0, 7) := by
      intro h
      unfold cell_Wide.f
      rw [if_neg (by decide), if_pos rfl]
      simp only [cell_Wide.j0]
      rw [if_neg (by decide)]; rfl
    cases high <;> simp [tinderlaw01_CellSymmetric.j0, h0]
  · cases high with
    | true =>
      have e : wrap64 (wrap64 a - 4294967296) = a - 4294967296 := by rw [w64 (a := a) (by omega) (by omega)]; exact w64 (by omega) (by omega)
      obtain ⟨q, r, e', h1, h2⟩ := core 1 a b (a - 4294967296) 4294967295 (by decide) ha.1 ha.2 hb.1 hb.2 (by unfold wrap64; omega) (by omega) (by omega) hz
      have h1' : cell_Wide.f 4 469 a 4294967295 b = some (q, r, e') := h1
      have h3 : tinderlaw01_CellSymmetric.j1 4 b q r e' (a - 4294967296) = some true := h2
      simp only [tinderlaw01_CellSymmetric.j0]
      rw [if_pos trivial, h1', e]
      simp only [Option.bind_some]
      rw [if_neg hz, if_pos trivial]
      exact h3
    | false =>
      have e : wrap64 a = a := w64 (by omega) (by omega)
      obtain ⟨q, r, e', h1, h2⟩ := core 1 a b a 0 (by decide) ha.1 ha.2 hb.1 hb.2 (by unfold wrap64; omega) (by omega) (by omega) hz
      have h1' : cell_Wide.f 4 469 a 0 b = some (q, r, e') := h1
      have h3 : tinderlaw01_CellSymmetric.j1 4 b q r e' a = some true := h2
      simp only [tinderlaw01_CellSymmetric.j0]
      rw [if_neg (by decide), h1', e]
      simp only [Option.bind_some]
      rw [if_neg hz, if_neg (by decide)]
      exact h3
end Go.Proofs.Ytdjpodpibkcnaaa.Pure
