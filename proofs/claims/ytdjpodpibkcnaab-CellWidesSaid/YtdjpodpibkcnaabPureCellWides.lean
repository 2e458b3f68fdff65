/- CellWides, the plain part: the program's Wide and Times answer what the reference's answer, for every operation and all cells. -/
import Derived.Test.YtdjpodpibkcnaabQCellWidesx1
import Derived.Test.YtdjpodpibkcnaabQCellWidesx2
import Derived.Test.YtdjpodpibkcnaabQCellWidesx3
import Derived.Test.YtdjpodpibkcnaabQCellWidesx4
import Derived.Test.YtdjpodpibkcnaabM
namespace Go.Proofs.Ytdjpodpibkcnaab.Wides
open Go.RowKit Go.Proofs.Ytdjpodpibkcnaab.QCellWides Go.Proofs.YtdjpodpibkcnaabW.PrintWords Go.Proofs.YtdjpodpibkcnaabW.PrintLast Go.Proofs.YtdjpodpibkcnaabW.PrintMore
open Go.Proofs.Ytdjpodpibkcnaab.M
theorem alive (k : Nat) : tinderlaw01_alive.f (k + 2) = some true := by
  have : cell_Bin.f (k + 2) 41 2147483648 4 = some (4160749568, 0) := by
    simp [cell_Bin.f, cell_Bin.j0]; decide +kernel
  unfold tinderlaw01_alive.f
  rw [this]; decide +kernel
theorem wrap64_s (a : Int) : wrap64 (wrap32 a) = wrap32 a := by unfold wrap64 wrap32; omega
theorem s_ne {b : Int} (h0 : 0 ≤ b) (h1 : b < 4294967296) (hb : b ≠ 0) : wrap32 b ≠ 0 := by unfold wrap32; omega
theorem rsigned {a : Int} (h0 : 0 ≤ a) (h1 : a < 4294967296) : tinderref01_Signed.f a = some (wrap32 a) := by
  unfold tinderref01_Signed.f
  rw [s32 h0 h1]
  split <;> (congr 1; unfold wrap64; omega)
theorem rcell (n : Int) : tinderref01_Cell.f n = some (n % 4294967296) := by
  unfold tinderref01_Cell.f; rw [cell_mod]
theorem join64 (H L : Nat) (hH : H < 4294967296) (hL : L < 4294967296) :
    bits .or .u64 (IntKind.u64.wrap (IntKind.u64.wrap (H : Int) * 4294967296)) (IntKind.u64.wrap (L : Int)) = ((H * 4294967296 + L : Nat) : Int) := by
  have e1 : IntKind.u64.wrap (IntKind.u64.wrap (H : Int) * 4294967296) = ((H * 4294967296 : Nat) : Int) := by rw [IntKind.wrap_u64, IntKind.wrap_u64]; omega
  have e2 : IntKind.u64.wrap (L : Int) = (L : Int) := by rw [IntKind.wrap_u64]; omega
  rw [e1, e2, u64_or_nat _ _ (by omega) (by omega)]
  have := Nat.shiftLeft_add_eq_or_of_lt (i := 32) (b := L) (by simpa using hL) H
  rw [Nat.shiftLeft_eq] at this
  rw [show (2 : Nat) ^ 32 = 4294967296 by decide] at this
  rw [← this]
def fin (s t : Int) : Option (Int × Int × Int) := if s < -2147483648 ∨ s ≥ 2147483648 then some (0, 0, 4) else some (s % 4294967296, t % 4294967296, 0)
def adj (op y s t : Int) : Option (Int × Int × Int) := if op = 725 ∧ t ≠ 0 ∧ (t < 0) ≠ (y < 0) then fin (s - 1) (t + y) else fin s t

theorem fin3 (k : Nat) (s t : Int) : tinderref01_Wide.j3 (k + 2) s t = fin s t := by
  simp only [tinderref01_Wide.j3, fin]
  by_cases h1 : s < -2147483648
  · rw [if_pos h1, if_pos (Or.inl h1)]; simp [tinderref01_Wide.j4]
  · rw [if_neg h1]
    by_cases h2 : s ≥ 2147483648
    · rw [if_pos (Or.inr h2)]; simp [tinderref01_Wide.j4, h2]
    · rw [if_neg (by omega)]; simp [tinderref01_Wide.j4, h2, rcell]
theorem fin7 (k : Nat) (s t : Int) : tinderref01_Wide.j7 (k + 2) s t = fin s t := by
  simp only [tinderref01_Wide.j7, fin]
  by_cases h1 : s < -2147483648
  · rw [if_pos h1, if_pos (Or.inl h1)]; simp [tinderref01_Wide.j8]
  · rw [if_neg h1]
    by_cases h2 : s ≥ 2147483648
    · rw [if_pos (Or.inr h2)]; simp [tinderref01_Wide.j8, h2]
    · rw [if_neg (by omega)]; simp [tinderref01_Wide.j8, h2, rcell]
theorem adj1 (k : Nat) (op y s t : Int) (hs : -4294967296 ≤ s) (hs' : s ≤ 4294967296) (ht : -2147483648 ≤ t) (ht' : t ≤ 2147483648) (hy : -2147483648 ≤ y) (hy' : y ≤ 2147483648) :
    tinderref01_Wide.j1 (k + 4) op y s t = adj op y s t := by
  have e1 := w64 (a := s - 1) (by omega) (by omega)
  have e2 := w64 (a := t + y) (by omega) (by omega)
  unfold adj
  by_cases h : op = 725
  · by_cases h0 : t = 0
    · rw [if_neg (by simp [h0])]; simp [tinderref01_Wide.j1, tinderref01_Wide.j2, h, h0, fin3]
    · by_cases h2 : (t < 0) = (y < 0)
      · rw [if_neg (fun z => z.2.2 h2)]
        have : (decide (t < 0) != decide (y < 0)) = false := by simp [h2]
        simp [tinderref01_Wide.j1, tinderref01_Wide.j2, h, h0, this, fin3]
      · rw [if_pos ⟨h, h0, h2⟩]
        have : (decide (t < 0) != decide (y < 0)) = true := by
          simp only [bne_iff_ne, ne_eq, decide_eq_decide]; intro z; exact h2 (propext z)
        simp [tinderref01_Wide.j1, tinderref01_Wide.j2, h, h0, this, e1, e2, fin3]
  · rw [if_neg (fun z => h z.1)]; simp [tinderref01_Wide.j1, tinderref01_Wide.j2, h, fin3]
theorem adj5 (k : Nat) (op y s t : Int) (hs : -4294967296 ≤ s) (hs' : s ≤ 4294967296) (ht : -2147483648 ≤ t) (ht' : t ≤ 2147483648) (hy : -2147483648 ≤ y) (hy' : y ≤ 2147483648) :
    tinderref01_Wide.j5 (k + 4) op y s t = adj op y s t := by
  have e1 := w64 (a := s - 1) (by omega) (by omega)
  have e2 := w64 (a := t + y) (by omega) (by omega)
  unfold adj
  by_cases h : op = 725
  · by_cases h0 : t = 0
    · rw [if_neg (by simp [h0])]; simp [tinderref01_Wide.j5, tinderref01_Wide.j6, h, h0, fin7]
    · by_cases h2 : (t < 0) = (y < 0)
      · rw [if_neg (fun z => z.2.2 h2)]
        have : (decide (t < 0) != decide (y < 0)) = false := by simp [h2]
        simp [tinderref01_Wide.j5, tinderref01_Wide.j6, h, h0, this, fin7]
      · rw [if_pos ⟨h, h0, h2⟩]
        have : (decide (t < 0) != decide (y < 0)) = true := by
          simp only [bne_iff_ne, ne_eq, decide_eq_decide]; intro z; exact h2 (propext z)
        simp [tinderref01_Wide.j5, tinderref01_Wide.j6, h, h0, this, e1, e2, fin7]
  · rw [if_neg (fun z => h z.1)]; simp [tinderref01_Wide.j5, tinderref01_Wide.j6, h, fin7]

theorem in32 (z : Int) : (z = wrap32 z) ↔ ¬ (z < -2147483648 ∨ z ≥ 2147483648) := by unfold wrap32; omega
theorem cell2f (k : Nat) (y s t : Int) : cell_Wide.j2 (k + 1) y s t false = fin s t := by
  simp only [cell_Wide.j2, wrap64_s, fin]
  rw [if_neg (by decide)]
  by_cases h : s = wrap32 s
  · rw [if_pos h, if_neg ((in32 s).1 h)]
  · rw [if_neg h, if_pos (Classical.byContradiction fun z => h ((in32 s).2 z))]
theorem cell2t (k : Nat) (y s t : Int) (hs : -9223372036854775807 ≤ s) (hs' : s ≤ 9223372036854775807) (ht : -2147483648 ≤ t) (ht' : t ≤ 2147483648) (hy : -2147483648 ≤ y) (hy' : y ≤ 2147483648) :
    cell_Wide.j2 (k + 1) y s t true = fin (s - 1) (t + y) := by
  have e1 := w64 (a := s - 1) (by omega) (by omega)
  have e2 := w64 (a := t + y) (by omega) (by omega)
  simp only [cell_Wide.j2, e1, e2, wrap64_s, fin]
  rw [if_pos trivial]
  by_cases h : s - 1 = wrap32 (s - 1)
  · rw [if_pos h, if_neg ((in32 (s - 1)).1 h)]
  · rw [if_neg h, if_pos (Classical.byContradiction fun z => h ((in32 (s - 1)).2 z))]
theorem tdiv_big (x y : Int) (hx : -9223372036854775808 ≤ x) (hx' : x ≤ 9223372036854775807) (hn : y ≠ 0) (hno : ¬ (x = -9223372036854775808 ∧ y = -1)) :
    -9223372036854775808 ≤ Int.tdiv x y ∧ Int.tdiv x y ≤ 9223372036854775807 ∧ (Int.tmod x y ≠ 0 → -9223372036854775807 ≤ Int.tdiv x y) := by
  have hq : (Int.tdiv x y).natAbs = x.natAbs / y.natAbs := Int.natAbs_tdiv x y
  have hm := Int.natAbs_tmod x y
  by_cases h1 : y.natAbs = 1
  · rw [h1, Nat.mod_one] at hm
    rcases (show y = 1 ∨ y = -1 by omega) with rfl | rfl
    · rw [Int.tdiv_one]; omega
    · have : Int.tdiv x (-1) = -x := by rw [Int.tdiv_neg, Int.tdiv_one]
      omega
  · have h3 := Nat.div_le_div_left (show 2 ≤ y.natAbs by omega) (by decide) (a := x.natAbs)
    omega
theorem cell1 (k : Nat) (op x y : Int) (hx : -9223372036854775808 ≤ x) (hx' : x ≤ 9223372036854775807) (hy : -2147483648 ≤ y) (hy' : y ≤ 2147483647) (hn : y ≠ 0) (hno : ¬ (x = -9223372036854775808 ∧ y = -1)) :
    cell_Wide.j1 (k + 2) op x y false = adj op y (Int.tdiv x y) (Int.tmod x y) := by
  have hb := tdiv_big x y hx hx' hn hno
  have hm := tmod_bd (x := x) (y := y) (B := 2147483648) hn (by omega) (by omega)
  simp only [cell_Wide.j1]
  rw [if_neg (by decide), if_neg hn, w64 (a := Int.tdiv x y) (by omega) (by omega)]
  generalize Int.tdiv x y = s at *
  generalize Int.tmod x y = t at *
  unfold adj
  by_cases h : op = 725
  · rw [if_pos h]
    by_cases h0 : t = 0
    · rw [if_pos h0, cell2f, if_neg (by simp [h0])]
    · rw [if_neg h0]
      have hx := xor_neg t y (by omega) (by omega) (by omega) (by omega)
      by_cases h2 : (t < 0) = (y < 0)
      · have : decide (bits .xor .i64 t y < 0) = false := by
          rw [decide_eq_false_iff_not, hx]; simp [h2]
        rw [this, cell2f, if_neg (fun z => z.2.2 h2)]
      · have : decide (bits .xor .i64 t y < 0) = true := by
          rw [decide_eq_true_iff, hx]; simp only [bne_iff_ne, ne_eq, decide_eq_decide]; intro z; exact h2 (propext z)
        rw [this, cell2t k y s t (hb.2.2 h0) (by omega) (by omega) (by omega) (by omega) (by omega), if_pos ⟨h, h0, h2⟩]
  · rw [if_neg h, cell2f, if_neg (fun z => h z.1)]

theorem mx_abs (y : Int) (hy : -2147483648 ≤ y) (hy' : y ≤ 2147483647) : IntKind.u64.wrap (mx y (wrap64 (-y))) = (y.natAbs : Int) := by
  rw [IntKind.wrap_u64]; unfold mx; rw [w64 (by omega) (by omega)]; split <;> omega

/-- sizes and signs -/
theorem tdiv_pos (N : Nat) (y : Int) : Int.tdiv (N : Int) y = (if y < 0 then -((N / y.natAbs : Nat) : Int) else ((N / y.natAbs : Nat) : Int)) ∧ Int.tmod (N : Int) y = ((N % y.natAbs : Nat) : Int) := by
  have hm := Int.natAbs_tmod (N : Int) y
  have hp := Int.tmod_nonneg (a := (N : Int)) y (by omega)
  have hn : (N : Int).natAbs = N := rfl
  rw [hn] at hm
  refine ⟨?_, by omega⟩
  by_cases h : y < 0
  · rw [if_pos h]
    have e : y = -((y.natAbs : Nat) : Int) := by omega
    generalize y.natAbs = M at *
    rw [e, Int.tdiv_neg, Int.ofNat_tdiv]
  · rw [if_neg h]
    have e : y = ((y.natAbs : Nat) : Int) := by omega
    generalize y.natAbs = M at *
    rw [e, Int.ofNat_tdiv]
theorem tdiv_neg' (N : Nat) (y : Int) : Int.tdiv (-(N : Int)) y = (if y < 0 then ((N / y.natAbs : Nat) : Int) else -((N / y.natAbs : Nat) : Int)) ∧ Int.tmod (-(N : Int)) y = -((N % y.natAbs : Nat) : Int) := by
  have h := tdiv_pos N y
  rw [Int.neg_tdiv, Int.neg_tmod, h.1, h.2]
  refine ⟨?_, rfl⟩
  split <;> omega

theorem s32n (d : Int) (h0 : 0 ≤ d) (h1 : d < 4294967296) (hz : d ≠ 0) : wrap32 d ≠ 0 := by unfold wrap32; omega
theorem cast64 (H L : Nat) (hH : H < 4294967296) (hL : L < 4294967296) : IntKind.u64.wrap (IntKind.u64.wrap (IntKind.u64.wrap (H : Int) * 4294967296) + IntKind.u64.wrap (L : Int)) = ((H * 4294967296 + L : Nat) : Int) := by
  simp only [IntKind.wrap_u64]; omega
theorem refused (s t : Int) (op y : Int) (h : s ≥ 4294967297 ∨ s ≤ -4294967297) : adj op y s t = some (0, 0, 4) := by
  unfold adj fin
  split
  · rw [if_pos (by omega)]
  · rw [if_pos (by omega)]

theorem divcast (N D : Nat) (h : N < 18446744073709551616) : IntKind.u64.wrap (Int.tdiv (N : Int) (D : Int)) = ((N / D : Nat) : Int) := by
  have := Nat.div_le_self N D
  rw [← Int.ofNat_tdiv, IntKind.wrap_u64]
  generalize N / D = q at *
  omega
theorem modcast (N D : Nat) : Int.tmod (N : Int) (D : Int) = ((N % D : Nat) : Int) := (Int.ofNat_tmod _ _).symm
theorem neg64 (N M : Nat) (h : N < 18446744073709551616) (hM : M = 18446744073709551616 - N) (h0 : 9223372036854775808 ≤ N) : wrap64 (N : Int) = -(M : Int) := by unfold wrap64; omega
theorem negu64 (N M : Nat) (h : N < 18446744073709551616) (hM : M = 18446744073709551616 - N) (h0 : 9223372036854775808 ≤ N) : IntKind.u64.wrap (-(N : Int)) = (M : Int) := by rw [IntKind.wrap_u64]; omega
theorem pos64 (N : Nat) (h : N < 9223372036854775808) : wrap64 (N : Int) = (N : Int) := by unfold wrap64; omega
theorem u64id (q : Nat) (h : q < 18446744073709551616) : IntKind.u64.wrap (q : Int) = (q : Int) := by rw [IntKind.wrap_u64]; omega
theorem topbig (q : Nat) (h : q < 4294967297) : wrap64 (q : Int) = (q : Int) ∧ wrap64 (-(q : Int)) = -(q : Int) := by unfold wrap64; omega
theorem quoge (H L D : Nat) (hL : L < 4294967296) (hD : 0 < D) : (((H * 4294967296 + L) / D : Nat) : Int) ≥ 4294967296 ↔ (H : Int) ≥ (D : Int) := by
  have : 4294967296 ≤ (H * 4294967296 + L) / D ↔ D ≤ H := by
    rw [Nat.le_div_iff_mul_le hD]; omega
  generalize (H * 4294967296 + L) / D = q at *
  omega
theorem refNeg (op y : Int) (q r : Nat) (hy : -2147483648 ≤ y) (hy' : y ≤ 2147483647) (hr : (r : Int) < 2147483649) :
    (if (q : Int) > 4294967296 then some (0, 0, 4) else (if y < 0 then tinderref01_Wide.j1 6 op y (wrap64 (q : Int)) (wrap64 (-(wrap64 (r : Int)))) else tinderref01_Wide.j1 6 op y (wrap64 (-(wrap64 (q : Int)))) (wrap64 (-(wrap64 (r : Int)))))) =
      if (q : Int) > 4294967296 then some (0, 0, 4) else adj op y (if y < 0 then (q : Int) else -(q : Int)) (-(r : Int)) := by
  by_cases hbig : (q : Int) > 4294967296
  · rw [if_pos hbig, if_pos hbig]
  · rw [if_neg hbig, if_neg hbig]
    have w2 := topbig q (by omega)
    have w3 := topbig r (by omega)
    rw [w2.1, w3.1, w2.2, w3.2]
    clear w2 w3
    by_cases hys : y < 0
    · rw [if_pos hys, if_pos hys]; exact adj1 2 _ _ _ _ (by omega) (by omega) (by omega) (by omega) (by omega) (by omega)
    · rw [if_neg hys, if_neg hys]; exact adj1 2 _ _ _ _ (by omega) (by omega) (by omega) (by omega) (by omega) (by omega)
theorem refPos (op y : Int) (q r : Nat) (hy : -2147483648 ≤ y) (hy' : y ≤ 2147483647) (hr : (r : Int) < 2147483649) :
    (if (q : Int) > 4294967296 then some (0, 0, 4) else (if y < 0 then tinderref01_Wide.j5 6 op y (wrap64 (-(wrap64 (q : Int)))) (wrap64 (r : Int)) else tinderref01_Wide.j5 6 op y (wrap64 (q : Int)) (wrap64 (r : Int)))) =
      if (q : Int) > 4294967296 then some (0, 0, 4) else adj op y (if y < 0 then -(q : Int) else (q : Int)) (r : Int) := by
  by_cases hbig : (q : Int) > 4294967296
  · rw [if_pos hbig, if_pos hbig]
  · rw [if_neg hbig, if_neg hbig]
    have w2 := topbig q (by omega)
    have w3 := topbig r (by omega)
    rw [w2.1, w3.1, w2.2]
    clear w2 w3
    by_cases hys : y < 0
    · rw [if_pos hys, if_pos hys]; exact adj5 2 _ _ _ _ (by omega) (by omega) (by omega) (by omega) (by omega) (by omega)
    · rw [if_neg hys, if_neg hys]; exact adj5 2 _ _ _ _ (by omega) (by omega) (by omega) (by omega) (by omega) (by omega)
theorem adj_some (op y s t : Int) : ∃ r, adj op y s t = some r := by unfold adj fin; split <;> split <;> exact ⟨_, rfl⟩
theorem out (op y s t : Int) (q : Nat) (c : Bool) (hs : s = if c = true then (q : Int) else -(q : Int)) : ∃ r, adj op y s t = some r ∧ (if (q : Int) > 4294967296 then some (0, 0, 4) else adj op y s t) = some r := by
  by_cases hbig : (q : Int) > 4294967296
  · rw [if_pos hbig, refused _ _ _ _ (by cases c <;> simp at hs <;> omega)]; exact ⟨_, rfl, rfl⟩
  · rw [if_neg hbig]; obtain ⟨r, h⟩ := adj_some op y s t; exact ⟨r, h, h⟩

/-- the program's side -/
theorem progSide (op : Int) (h213 : ¬ op = 213) (H L : Nat) (d x : Int) (hH : H < 4294967296) (hL : L < 4294967296) (hz : d ≠ 0) (hy : wrap32 d ≠ 0) (hx : wrap64 ((H * 4294967296 + L : Nat) : Int) = x)
    (hx0 : -9223372036854775808 ≤ x) (hx1 : x ≤ 9223372036854775807) (hno : ¬ (x = -9223372036854775808 ∧ wrap32 d = -1)) :
    cell_Wide.j0 7 op L H d false = adj op (wrap32 d) (Int.tdiv x (wrap32 d)) (Int.tmod x (wrap32 d)) := by
  have hc := cell1 4 op x (wrap32 d) hx0 hx1 (s32_bd d).1 (s32_bd d).2 hy hno
  simp only [cell_Wide.j0, join64 H L hH hL, hx, wrap64_s]
  rw [if_neg (by decide), if_neg hz, if_neg h213]
  by_cases h63 : x = -9223372036854775808
  · rw [if_pos h63]
    have : (wrap32 d == -1) = false := by
      rw [beq_eq_false_iff_ne]; intro z; exact hno ⟨h63, z⟩
    rw [this]; exact hc
  · rw [if_neg h63]; exact hc
theorem refSideNeg (op : Int) (h213 : ¬ op = 213) (H L M : Nat) (d : Int) (hH : H < 4294967296) (hL : L < 4294967296) (hz : d ≠ 0) (hd : 0 ≤ d) (hd' : d < 4294967296) (hy : ¬ (((wrap32 d).natAbs : Nat) : Int) = 0)
    (hneg : (H : Int) ≥ 2147483648) (hu : IntKind.u64.wrap (-((H * 4294967296 + L : Nat) : Int)) = (M : Int)) (hM : M < 18446744073709551616) (hr : ((M % (wrap32 d).natAbs : Nat) : Int) < 2147483649) :
    tinderref01_Wide.j0 7 op L H d false = if ((M / (wrap32 d).natAbs : Nat) : Int) > 4294967296 then some (0, 0, 4) else adj op (wrap32 d) (Int.tdiv (-(M : Int)) (wrap32 d)) (Int.tmod (-(M : Int)) (wrap32 d)) := by
  have h1 := refNeg op (wrap32 d) (M / (wrap32 d).natAbs) (M % (wrap32 d).natAbs) (s32_bd d).1 (s32_bd d).2 hr
  have hT := tdiv_neg' M (wrap32 d)
  have ud := divcast M (wrap32 d).natAbs hM
  have um := modcast M (wrap32 d).natAbs
  rw [hT.1, hT.2, ← h1]
  simp only [tinderref01_Wide.j0, cast64 H L hH hL, hu, rsigned hd hd', Option.bind_some, mx_abs (wrap32 d) (s32_bd d).1 (s32_bd d).2, ud, um]
  rw [if_neg (by decide), if_neg hz, if_neg h213, if_pos hneg, if_neg hy]
theorem refSidePos (op : Int) (h213 : ¬ op = 213) (H L M : Nat) (d : Int) (hH : H < 4294967296) (hL : L < 4294967296) (hz : d ≠ 0) (hd : 0 ≤ d) (hd' : d < 4294967296) (hy : ¬ (((wrap32 d).natAbs : Nat) : Int) = 0)
    (hneg : ¬ (H : Int) ≥ 2147483648) (hMe : H * 4294967296 + L = M) (hM : M < 18446744073709551616) (hr : ((M % (wrap32 d).natAbs : Nat) : Int) < 2147483649) :
    tinderref01_Wide.j0 7 op L H d false = if ((M / (wrap32 d).natAbs : Nat) : Int) > 4294967296 then some (0, 0, 4) else adj op (wrap32 d) (Int.tdiv (M : Int) (wrap32 d)) (Int.tmod (M : Int) (wrap32 d)) := by
  have h1 := refPos op (wrap32 d) (M / (wrap32 d).natAbs) (M % (wrap32 d).natAbs) (s32_bd d).1 (s32_bd d).2 hr
  have hT := tdiv_pos M (wrap32 d)
  have ud := divcast M (wrap32 d).natAbs hM
  have um := modcast M (wrap32 d).natAbs
  have hc := cast64 H L hH hL
  rw [hMe] at hc
  rw [hT.1, hT.2, ← h1]
  simp only [tinderref01_Wide.j0, hc, rsigned hd hd', Option.bind_some, mx_abs (wrap32 d) (s32_bd d).1 (s32_bd d).2, ud, um]
  rw [if_neg (by decide), if_neg hz, if_neg h213, if_neg hneg, if_neg hy]

theorem cell1t (k : Nat) (op x y : Int) : cell_Wide.j1 (k + 1) op x y ((-1 : Int) == -1) = some (0, 0, 4) := by
  have e : ((-1 : Int) == -1) = true := by decide
  simp only [cell_Wide.j1, e]
  rw [if_pos trivial]
/-- The signed words: both sides. -/
theorem sides (op : Int) (hop : op = 469 ∨ op = 725) (H L : Nat) (d : Int) (hH : H < 4294967296) (hL : L < 4294967296) (hd : 0 ≤ d) (hd' : d < 4294967296) (hz : d ≠ 0) :
    ∃ r, cell_Wide.j0 7 op L H d false = some r ∧ tinderref01_Wide.j0 7 op L H d false = some r := by
  have h213 : ¬ op = 213 := by omega
  have hy := s32n d hd hd' hz
  have by_ := s32_bd d
  have hyn : ¬ (((wrap32 d).natAbs : Nat) : Int) = 0 := by omega
  have hN : H * 4294967296 + L < 18446744073709551616 := by omega
  by_cases hneg : (H : Int) ≥ 2147483648
  · obtain ⟨M, hM⟩ : ∃ M : Nat, M = 18446744073709551616 - (H * 4294967296 + L) := ⟨_, rfl⟩
    have hM0 : 0 < M ∧ M ≤ 9223372036854775808 := by omega
    have hlM := Nat.mod_lt M (show 0 < (wrap32 d).natAbs by omega)
    have hr2 : ((M % (wrap32 d).natAbs : Nat) : Int) < 2147483649 := by clear hM; omega
    have hge : 9223372036854775808 ≤ H * 4294967296 + L := by clear hM hlM hr2; omega
    have b0 : -9223372036854775808 ≤ -(M : Int) := by clear hM hlM hr2 hge; omega
    have b1 : -(M : Int) ≤ 9223372036854775807 := by clear hM hlM hr2 hge; omega
    have b2 : M < 18446744073709551616 := by clear hM hlM hr2 hge; omega
    have hs := refSideNeg op h213 H L M d hH hL hz hd hd' hyn hneg (negu64 _ M hN hM hge) b2 hr2
    by_cases hno : -(M : Int) = -9223372036854775808 ∧ wrap32 d = -1
    · refine ⟨(0, 0, 4), ?_, ?_⟩
      · simp only [cell_Wide.j0, join64 H L hH hL, neg64 _ M hN hM hge, wrap64_s]
        rw [if_neg (by decide), if_neg hz, if_neg h213, if_pos hno.1, hno.2]
        exact cell1t 5 op _ _
      · rw [hs, if_pos]
        rw [hno.2]
        have e : M = 9223372036854775808 := by have := hno.1; clear hM hlM hr2 hge hs hno; omega
        rw [e, show (-1 : Int).natAbs = 1 by rfl, Nat.div_one]; clear e hM hlM hr2 hge hs hno; omega
    · rw [progSide op h213 H L d (-(M : Int)) hH hL hz hy (neg64 _ M hN hM hge) b0 b1 hno, hs]
      exact out op _ _ _ _ (decide (wrap32 d < 0)) (by rw [(tdiv_neg' M (wrap32 d)).1]; simp)
  · have hM0 : H * 4294967296 + L < 9223372036854775808 := by omega
    obtain ⟨M, hM⟩ : ∃ M : Nat, H * 4294967296 + L = M := ⟨_, rfl⟩
    have hlM := Nat.mod_lt M (show 0 < (wrap32 d).natAbs by omega)
    have hr2 : ((M % (wrap32 d).natAbs : Nat) : Int) < 2147483649 := by clear hM; omega
    rw [hM] at hM0 hN
    have b0 : -9223372036854775808 ≤ (M : Int) := by clear hM hlM hr2; omega
    have b1 : (M : Int) ≤ 9223372036854775807 := by clear hM hlM hr2; omega
    have hs := refSidePos op h213 H L M d hH hL hz hd hd' hyn hneg hM hN hr2
    have hno : ¬ ((M : Int) = -9223372036854775808 ∧ wrap32 d = -1) := by clear hM hlM hr2 hs; omega
    rw [progSide op h213 H L d (M : Int) hH hL hz hy (by rw [hM]; exact pos64 M hM0) b0 b1 hno, hs]
    exact out op _ _ _ _ (!decide (wrap32 d < 0)) (by rw [(tdiv_pos M (wrap32 d)).1]; by_cases z : wrap32 d < 0 <;> simp [z])

theorem sameWide (op low high d : Int) (h0 : 0 ≤ low) (h1 : low < 4294967296) (h2 : 0 ≤ high) (h3 : high < 4294967296) (h4 : 0 ≤ d) (h5 : d < 4294967296) :
    ∃ q r e, cell_Wide.f 7 op low high d = some (q, r, e) ∧ tinderref01_Wide.f 7 op low high d = some (q, r, e) := by
  obtain ⟨L, rfl⟩ := Int.eq_ofNat_of_zero_le h0
  obtain ⟨H, rfl⟩ := Int.eq_ofNat_of_zero_le h2
  by_cases hz : d = 0
  · subst hz
    have j7 : ∀ o, cell_Wide.j0 7 o L H 0 false = some (0, 0, 7) := by intro o; simp [cell_Wide.j0]
    have r7 : ∀ o, tinderref01_Wide.j0 7 o L H 0 false = some (0, 0, 7) := by intro o; simp [tinderref01_Wide.j0]
    unfold cell_Wide.f tinderref01_Wide.f
    by_cases a1 : op = 213
    · subst a1; exact ⟨0, 0, 7, by rw [if_pos rfl, j7], by rw [if_pos rfl, r7]⟩
    by_cases a2 : op = 469
    · subst a2; exact ⟨0, 0, 7, by rw [if_neg (by decide), if_pos rfl, j7], by rw [if_neg (by decide), if_pos rfl, r7]⟩
    by_cases a3 : op = 725
    · subst a3; exact ⟨0, 0, 7, by rw [if_neg (by decide), if_neg (by decide), show ((725 : Int) != 725) = false by decide, j7], by rw [if_neg (by decide), if_neg (by decide), show ((725 : Int) != 725) = false by decide, r7]⟩
    rw [if_neg a1, if_neg a2, if_neg a1, if_neg a2, show (op != 725) = true by simpa using a3]
    exact ⟨0, 0, 2, by simp [cell_Wide.j0], by simp [tinderref01_Wide.j0]⟩
  · by_cases a2 : op = 469 ∨ op = 725
    · obtain ⟨⟨q, r, e⟩, e1, e2⟩ := sides op a2 H L d (by omega) (by omega) h4 h5 hz
      refine ⟨q, r, e, ?_, ?_⟩
      · unfold cell_Wide.f; rcases a2 with rfl | rfl
        · rw [if_neg (by decide), if_pos rfl, e1]
        · rw [if_neg (by decide), if_neg (by decide), show ((725 : Int) != 725) = false by decide, e1]
      · unfold tinderref01_Wide.f; rcases a2 with rfl | rfl
        · rw [if_neg (by decide), if_pos rfl, e2]
        · rw [if_neg (by decide), if_neg (by decide), show ((725 : Int) != 725) = false by decide, e2]
    · by_cases a1 : op = 213
      · subst a1
        obtain ⟨D, rfl⟩ := Int.eq_ofNat_of_zero_le h4
        have hj := join64 H L (by omega) (by omega)
        have hD : IntKind.u64.wrap (D : Int) = (D : Int) := by rw [IntKind.wrap_u64]; clear hj; omega
        have hc := cast64 H L (by omega) (by omega)
        have ud : IntKind.u64.wrap (Int.tdiv ((H * 4294967296 + L : Nat) : Int) (D : Int)) = (((H * 4294967296 + L) / D : Nat) : Int) := divcast _ _ (by clear hj hc hD; omega)
        have um : Int.tmod ((H * 4294967296 + L : Nat) : Int) (D : Int) = (((H * 4294967296 + L) % D : Nat) : Int) := (Int.ofNat_tmod _ _).symm
        have hq := quoge H L D (by clear hj hc hD ud um; omega) (by clear hj hc hD ud um; omega)
        have hqb : (H * 4294967296 + L) / D < 18446744073709551616 := Nat.lt_of_le_of_lt (Nat.div_le_self _ _) (by clear hj hc hD ud um hq; omega)
        by_cases hb : (H : Int) ≥ (D : Int)
        · refine ⟨0, 0, 4, ?_, ?_⟩
          · unfold cell_Wide.f; rw [if_pos rfl]; simp only [cell_Wide.j0]
            rw [if_neg (by decide), if_neg hz, if_pos trivial, if_pos hb]
          · unfold tinderref01_Wide.f; rw [if_pos rfl]; simp only [tinderref01_Wide.j0, hc, hD, ud]
            rw [if_neg (by decide), if_neg hz, if_pos trivial, if_neg hz, if_pos (hq.2 hb)]
        · refine ⟨(((H * 4294967296 + L) / D : Nat) : Int) % 4294967296, (((H * 4294967296 + L) % D : Nat) : Int) % 4294967296, 0, ?_, ?_⟩
          · unfold cell_Wide.f; rw [if_pos rfl]; simp only [cell_Wide.j0]
            rw [if_neg (by decide), if_neg hz, if_pos trivial, if_neg hb]
            unfold bits_Div32.f
            rw [hj, hD, ud, um, if_neg hz, if_neg (fun z => hb z), if_neg hz, Option.bind_some]
          · unfold tinderref01_Wide.f; rw [if_pos rfl]; simp only [tinderref01_Wide.j0, hc, hD, ud, um]
            rw [if_neg (by decide), if_neg hz, if_pos trivial, if_neg hz, if_neg (fun z => hb (hq.1 z))]
      · have a3 : ¬ op = 469 := by omega
        have a4 : ¬ op = 725 := by omega
        unfold cell_Wide.f tinderref01_Wide.f
        rw [if_neg a1, if_neg a3, if_neg a1, if_neg a3, show (op != 725) = true by simpa using a4]
        exact ⟨0, 0, 2, by simp [cell_Wide.j0], by simp [tinderref01_Wide.j0]⟩

theorem sameTimes (a b : Int) (_ : 0 ≤ a) (_ : a < 4294967296) (_ : 0 ≤ b) (_ : b < 4294967296) :
    ∃ l h, cell_Times.f a b = some (l, h) ∧ tinderref01_Times.f a b = some (l, h) := by
  refine ⟨_, _, rfl, ?_⟩
  unfold tinderref01_Times.f
  generalize IntKind.u64.wrap (a) * IntKind.u64.wrap (b) = z
  have hz : 0 ≤ IntKind.u64.wrap z ∧ IntKind.u64.wrap z < 18446744073709551616 := by rw [IntKind.wrap_u64]; omega
  generalize IntKind.u64.wrap z = y at *
  rw [Int.tmod_eq_emod_of_nonneg hz.1, Int.tdiv_eq_ediv_of_nonneg hz.1, IntKind.wrap_u64]
  congr 2 <;> omega
end Go.Proofs.Ytdjpodpibkcnaab.Wides
