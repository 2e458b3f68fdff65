-- written by a program of this session (xprint.py) out of the translation
import Derived.Test.YtdjpodpibkcnaabQCellWidesx0
import Derived.Test.YtdjpodpibkcnaabQCellWidesx2
namespace Go.Proofs.Ytdjpodpibkcnaab.QCellWides
open Go.RowKit Go.Proofs.YtdjpodpibkcnaabW.PrintWords Go.Proofs.YtdjpodpibkcnaabW.PrintLast Go.Proofs.YtdjpodpibkcnaabW.PrintMore
attribute [local go_sem] max2_int min2_int max_two min_two max_three min_three max_four min_four   -- for this text's walks alone
set_option linter.unusedVariables false
set_option linter.unusedSimpArgs false

/-! ### tinderref01_Wide: function 11 -/
mutual
def tinderref01_Wide.j0 : Nat → Int → Int → Int → Int → Bool → Option (Int × Int × Int)
  | 0, _, _, _, _, _ => none
  | k + 1, x0, x1, x2, x3, x29 => if x29 = true then (some (0, 0, 2)) else (if x3 = 0 then (some (0, 0, 7)) else (if x0 = 213 then (if (IntKind.u64.wrap (x3)) = 0 then (none) else (if (IntKind.u64.wrap (Int.tdiv (IntKind.u64.wrap ((IntKind.u64.wrap ((IntKind.u64.wrap (x2)) * 4294967296)) + (IntKind.u64.wrap (x1)))) (IntKind.u64.wrap (x3)))) ≥ 4294967296 then (some (0, 0, 4)) else (some ((IntKind.u64.wrap (Int.tdiv (IntKind.u64.wrap ((IntKind.u64.wrap ((IntKind.u64.wrap (x2)) * 4294967296)) + (IntKind.u64.wrap (x1)))) (IntKind.u64.wrap (x3)))) % 4294967296, (Int.tmod (IntKind.u64.wrap ((IntKind.u64.wrap ((IntKind.u64.wrap (x2)) * 4294967296)) + (IntKind.u64.wrap (x1)))) (IntKind.u64.wrap (x3))) % 4294967296, 0)))) else (if x2 ≥ 2147483648 then ((tinderref01_Signed.f x3).bind fun t121 => (if (IntKind.u64.wrap (mx t121 (wrap64 (-t121)))) = 0 then (none) else (if (IntKind.u64.wrap (Int.tdiv (IntKind.u64.wrap (-(IntKind.u64.wrap ((IntKind.u64.wrap ((IntKind.u64.wrap (x2)) * 4294967296)) + (IntKind.u64.wrap (x1)))))) (IntKind.u64.wrap (mx t121 (wrap64 (-t121)))))) > 4294967296 then (some (0, 0, 4)) else (if t121 < 0 then (tinderref01_Wide.j1 k x0 t121 (wrap64 (IntKind.u64.wrap (Int.tdiv (IntKind.u64.wrap (-(IntKind.u64.wrap ((IntKind.u64.wrap ((IntKind.u64.wrap (x2)) * 4294967296)) + (IntKind.u64.wrap (x1)))))) (IntKind.u64.wrap (mx t121 (wrap64 (-t121))))))) (wrap64 (-(wrap64 (Int.tmod (IntKind.u64.wrap (-(IntKind.u64.wrap ((IntKind.u64.wrap ((IntKind.u64.wrap (x2)) * 4294967296)) + (IntKind.u64.wrap (x1)))))) (IntKind.u64.wrap (mx t121 (wrap64 (-t121))))))))) else (tinderref01_Wide.j1 k x0 t121 (wrap64 (-(wrap64 (IntKind.u64.wrap (Int.tdiv (IntKind.u64.wrap (-(IntKind.u64.wrap ((IntKind.u64.wrap ((IntKind.u64.wrap (x2)) * 4294967296)) + (IntKind.u64.wrap (x1)))))) (IntKind.u64.wrap (mx t121 (wrap64 (-t121))))))))) (wrap64 (-(wrap64 (Int.tmod (IntKind.u64.wrap (-(IntKind.u64.wrap ((IntKind.u64.wrap ((IntKind.u64.wrap (x2)) * 4294967296)) + (IntKind.u64.wrap (x1)))))) (IntKind.u64.wrap (mx t121 (wrap64 (-t121))))))))))))) else ((tinderref01_Signed.f x3).bind fun t124 => (if (IntKind.u64.wrap (mx t124 (wrap64 (-t124)))) = 0 then (none) else (if (IntKind.u64.wrap (Int.tdiv (IntKind.u64.wrap ((IntKind.u64.wrap ((IntKind.u64.wrap (x2)) * 4294967296)) + (IntKind.u64.wrap (x1)))) (IntKind.u64.wrap (mx t124 (wrap64 (-t124)))))) > 4294967296 then (some (0, 0, 4)) else (if t124 < 0 then (tinderref01_Wide.j5 k x0 t124 (wrap64 (-(wrap64 (IntKind.u64.wrap (Int.tdiv (IntKind.u64.wrap ((IntKind.u64.wrap ((IntKind.u64.wrap (x2)) * 4294967296)) + (IntKind.u64.wrap (x1)))) (IntKind.u64.wrap (mx t124 (wrap64 (-t124))))))))) (wrap64 (Int.tmod (IntKind.u64.wrap ((IntKind.u64.wrap ((IntKind.u64.wrap (x2)) * 4294967296)) + (IntKind.u64.wrap (x1)))) (IntKind.u64.wrap (mx t124 (wrap64 (-t124))))))) else (tinderref01_Wide.j5 k x0 t124 (wrap64 (IntKind.u64.wrap (Int.tdiv (IntKind.u64.wrap ((IntKind.u64.wrap ((IntKind.u64.wrap (x2)) * 4294967296)) + (IntKind.u64.wrap (x1)))) (IntKind.u64.wrap (mx t124 (wrap64 (-t124))))))) (wrap64 (Int.tmod (IntKind.u64.wrap ((IntKind.u64.wrap ((IntKind.u64.wrap (x2)) * 4294967296)) + (IntKind.u64.wrap (x1)))) (IntKind.u64.wrap (mx t124 (wrap64 (-t124))))))))))))))
def tinderref01_Wide.j1 : Nat → Int → Int → Int → Int → Option (Int × Int × Int)
  | 0, _, _, _, _ => none
  | k + 1, x0, x15, x18, x19 => if x0 = 725 then (if x19 = 0 then (tinderref01_Wide.j2 k x15 x18 x19 false) else (tinderref01_Wide.j2 k x15 x18 x19 ((decide (x19 < 0)) != (decide (x15 < 0))))) else (tinderref01_Wide.j2 k x15 x18 x19 false)
def tinderref01_Wide.j2 : Nat → Int → Int → Int → Bool → Option (Int × Int × Int)
  | 0, _, _, _, _ => none
  | k + 1, x15, x18, x19, x102 => if x102 = true then (tinderref01_Wide.j3 k (wrap64 (x18 - 1)) (wrap64 (x19 + x15))) else (tinderref01_Wide.j3 k x18 x19)
def tinderref01_Wide.j3 : Nat → Int → Int → Option (Int × Int × Int)
  | 0, _, _ => none
  | k + 1, x18, x19 => if x18 < (-2147483648) then (tinderref01_Wide.j4 k x18 x19 true) else (tinderref01_Wide.j4 k x18 x19 (decide (x18 ≥ 2147483648)))
def tinderref01_Wide.j4 : Nat → Int → Int → Bool → Option (Int × Int × Int)
  | 0, _, _, _ => none
  | k + 1, x18, x19, x113 => if x113 = true then (some (0, 0, 4)) else ((tinderref01_Cell.f x18).bind fun t122 => ((tinderref01_Cell.f x19).bind fun t123 => (some (t122, t123, 0))))
def tinderref01_Wide.j5 : Nat → Int → Int → Int → Int → Option (Int × Int × Int)
  | 0, _, _, _, _ => none
  | k + 1, x0, x15, x18, x19 => if x0 = 725 then (if x19 = 0 then (tinderref01_Wide.j6 k x15 x18 x19 false) else (tinderref01_Wide.j6 k x15 x18 x19 ((decide (x19 < 0)) != (decide (x15 < 0))))) else (tinderref01_Wide.j6 k x15 x18 x19 false)
def tinderref01_Wide.j6 : Nat → Int → Int → Int → Bool → Option (Int × Int × Int)
  | 0, _, _, _, _ => none
  | k + 1, x15, x18, x19, x102 => if x102 = true then (tinderref01_Wide.j7 k (wrap64 (x18 - 1)) (wrap64 (x19 + x15))) else (tinderref01_Wide.j7 k x18 x19)
def tinderref01_Wide.j7 : Nat → Int → Int → Option (Int × Int × Int)
  | 0, _, _ => none
  | k + 1, x18, x19 => if x18 < (-2147483648) then (tinderref01_Wide.j8 k x18 x19 true) else (tinderref01_Wide.j8 k x18 x19 (decide (x18 ≥ 2147483648)))
def tinderref01_Wide.j8 : Nat → Int → Int → Bool → Option (Int × Int × Int)
  | 0, _, _, _ => none
  | k + 1, x18, x19, x113 => if x113 = true then (some (0, 0, 4)) else ((tinderref01_Cell.f x18).bind fun t125 => ((tinderref01_Cell.f x19).bind fun t126 => (some (t125, t126, 0))))
end
def tinderref01_Wide.f (k : Nat) (a0 : Int) (a1 : Int) (a2 : Int) (a3 : Int) : Option (Int × Int × Int) := if a0 = 213 then (tinderref01_Wide.j0 k a0 a1 a2 a3 false) else (if a0 = 469 then (tinderref01_Wide.j0 k a0 a1 a2 a3 false) else (tinderref01_Wide.j0 k a0 a1 a2 a3 (a0 != 725)))
theorem tinderref01_Wide.mono_l : ∀ k, (∀ y0 y1 y2 y3 y4, LeO (tinderref01_Wide.j0 k y0 y1 y2 y3 y4) (tinderref01_Wide.j0 (k + 1) y0 y1 y2 y3 y4)) ∧ (∀ y0 y1 y2 y3, LeO (tinderref01_Wide.j1 k y0 y1 y2 y3) (tinderref01_Wide.j1 (k + 1) y0 y1 y2 y3)) ∧ (∀ y0 y1 y2 y3, LeO (tinderref01_Wide.j2 k y0 y1 y2 y3) (tinderref01_Wide.j2 (k + 1) y0 y1 y2 y3)) ∧ (∀ y0 y1, LeO (tinderref01_Wide.j3 k y0 y1) (tinderref01_Wide.j3 (k + 1) y0 y1)) ∧ (∀ y0 y1 y2, LeO (tinderref01_Wide.j4 k y0 y1 y2) (tinderref01_Wide.j4 (k + 1) y0 y1 y2)) ∧ (∀ y0 y1 y2 y3, LeO (tinderref01_Wide.j5 k y0 y1 y2 y3) (tinderref01_Wide.j5 (k + 1) y0 y1 y2 y3)) ∧ (∀ y0 y1 y2 y3, LeO (tinderref01_Wide.j6 k y0 y1 y2 y3) (tinderref01_Wide.j6 (k + 1) y0 y1 y2 y3)) ∧ (∀ y0 y1, LeO (tinderref01_Wide.j7 k y0 y1) (tinderref01_Wide.j7 (k + 1) y0 y1)) ∧ (∀ y0 y1 y2, LeO (tinderref01_Wide.j8 k y0 y1 y2) (tinderref01_Wide.j8 (k + 1) y0 y1 y2))
  | 0 => ⟨fun _ _ _ _ _ r h => by simp [tinderref01_Wide.j0] at h, fun _ _ _ _ r h => by simp [tinderref01_Wide.j1] at h, fun _ _ _ _ r h => by simp [tinderref01_Wide.j2] at h, fun _ _ r h => by simp [tinderref01_Wide.j3] at h, fun _ _ _ r h => by simp [tinderref01_Wide.j4] at h, fun _ _ _ _ r h => by simp [tinderref01_Wide.j5] at h, fun _ _ _ _ r h => by simp [tinderref01_Wide.j6] at h, fun _ _ r h => by simp [tinderref01_Wide.j7] at h, fun _ _ _ r h => by simp [tinderref01_Wide.j8] at h⟩
  | k + 1 => by
    obtain ⟨ih0, ih1, ih2, ih3, ih4, ih5, ih6, ih7, ih8⟩ := tinderref01_Wide.mono_l k
    refine ⟨?_, ?_, ?_, ?_, ?_, ?_, ?_, ?_, ?_⟩
    · intro y0 y1 y2 y3 y4
      unfold tinderref01_Wide.j0
      repeat' first
      | (with_reducible exact ih0 _ _ _ _ _)
      | (with_reducible exact ih1 _ _ _ _)
      | (with_reducible exact ih2 _ _ _ _)
      | (with_reducible exact ih3 _ _)
      | (with_reducible exact ih4 _ _ _)
      | (with_reducible exact ih5 _ _ _ _)
      | (with_reducible exact ih6 _ _ _ _)
      | (with_reducible exact ih7 _ _)
      | (with_reducible exact ih8 _ _ _)
      | (with_reducible exact LeO.refl _)
      | (with_reducible exact LeO.none _)
      | (with_reducible refine LeO.ite ?_ ?_)
      | (with_reducible refine LeO.bind ?_ (fun _ => ?_))
      | exact ih0 _ _ _ _ _
      | exact ih1 _ _ _ _
      | exact ih2 _ _ _ _
      | exact ih3 _ _
      | exact ih4 _ _ _
      | exact ih5 _ _ _ _
      | exact ih6 _ _ _ _
      | exact ih7 _ _
      | exact ih8 _ _ _
      | exact LeO.none _
      | refine LeO.ite ?_ ?_
      | refine LeO.bind ?_ (fun _ => ?_)
    · intro y0 y1 y2 y3
      unfold tinderref01_Wide.j1
      repeat' first
      | (with_reducible exact ih0 _ _ _ _ _)
      | (with_reducible exact ih1 _ _ _ _)
      | (with_reducible exact ih2 _ _ _ _)
      | (with_reducible exact ih3 _ _)
      | (with_reducible exact ih4 _ _ _)
      | (with_reducible exact ih5 _ _ _ _)
      | (with_reducible exact ih6 _ _ _ _)
      | (with_reducible exact ih7 _ _)
      | (with_reducible exact ih8 _ _ _)
      | (with_reducible exact LeO.refl _)
      | (with_reducible exact LeO.none _)
      | (with_reducible refine LeO.ite ?_ ?_)
      | (with_reducible refine LeO.bind ?_ (fun _ => ?_))
      | exact ih0 _ _ _ _ _
      | exact ih1 _ _ _ _
      | exact ih2 _ _ _ _
      | exact ih3 _ _
      | exact ih4 _ _ _
      | exact ih5 _ _ _ _
      | exact ih6 _ _ _ _
      | exact ih7 _ _
      | exact ih8 _ _ _
      | exact LeO.none _
      | refine LeO.ite ?_ ?_
      | refine LeO.bind ?_ (fun _ => ?_)
    · intro y0 y1 y2 y3
      unfold tinderref01_Wide.j2
      repeat' first
      | (with_reducible exact ih0 _ _ _ _ _)
      | (with_reducible exact ih1 _ _ _ _)
      | (with_reducible exact ih2 _ _ _ _)
      | (with_reducible exact ih3 _ _)
      | (with_reducible exact ih4 _ _ _)
      | (with_reducible exact ih5 _ _ _ _)
      | (with_reducible exact ih6 _ _ _ _)
      | (with_reducible exact ih7 _ _)
      | (with_reducible exact ih8 _ _ _)
      | (with_reducible exact LeO.refl _)
      | (with_reducible exact LeO.none _)
      | (with_reducible refine LeO.ite ?_ ?_)
      | (with_reducible refine LeO.bind ?_ (fun _ => ?_))
      | exact ih0 _ _ _ _ _
      | exact ih1 _ _ _ _
      | exact ih2 _ _ _ _
      | exact ih3 _ _
      | exact ih4 _ _ _
      | exact ih5 _ _ _ _
      | exact ih6 _ _ _ _
      | exact ih7 _ _
      | exact ih8 _ _ _
      | exact LeO.none _
      | refine LeO.ite ?_ ?_
      | refine LeO.bind ?_ (fun _ => ?_)
    · intro y0 y1
      unfold tinderref01_Wide.j3
      repeat' first
      | (with_reducible exact ih0 _ _ _ _ _)
      | (with_reducible exact ih1 _ _ _ _)
      | (with_reducible exact ih2 _ _ _ _)
      | (with_reducible exact ih3 _ _)
      | (with_reducible exact ih4 _ _ _)
      | (with_reducible exact ih5 _ _ _ _)
      | (with_reducible exact ih6 _ _ _ _)
      | (with_reducible exact ih7 _ _)
      | (with_reducible exact ih8 _ _ _)
      | (with_reducible exact LeO.refl _)
      | (with_reducible exact LeO.none _)
      | (with_reducible refine LeO.ite ?_ ?_)
      | (with_reducible refine LeO.bind ?_ (fun _ => ?_))
      | exact ih0 _ _ _ _ _
      | exact ih1 _ _ _ _
      | exact ih2 _ _ _ _
      | exact ih3 _ _
      | exact ih4 _ _ _
      | exact ih5 _ _ _ _
      | exact ih6 _ _ _ _
      | exact ih7 _ _
      | exact ih8 _ _ _
      | exact LeO.none _
      | refine LeO.ite ?_ ?_
      | refine LeO.bind ?_ (fun _ => ?_)
    · intro y0 y1 y2
      unfold tinderref01_Wide.j4
      repeat' first
      | (with_reducible exact ih0 _ _ _ _ _)
      | (with_reducible exact ih1 _ _ _ _)
      | (with_reducible exact ih2 _ _ _ _)
      | (with_reducible exact ih3 _ _)
      | (with_reducible exact ih4 _ _ _)
      | (with_reducible exact ih5 _ _ _ _)
      | (with_reducible exact ih6 _ _ _ _)
      | (with_reducible exact ih7 _ _)
      | (with_reducible exact ih8 _ _ _)
      | (with_reducible exact LeO.refl _)
      | (with_reducible exact LeO.none _)
      | (with_reducible refine LeO.ite ?_ ?_)
      | (with_reducible refine LeO.bind ?_ (fun _ => ?_))
      | exact ih0 _ _ _ _ _
      | exact ih1 _ _ _ _
      | exact ih2 _ _ _ _
      | exact ih3 _ _
      | exact ih4 _ _ _
      | exact ih5 _ _ _ _
      | exact ih6 _ _ _ _
      | exact ih7 _ _
      | exact ih8 _ _ _
      | exact LeO.none _
      | refine LeO.ite ?_ ?_
      | refine LeO.bind ?_ (fun _ => ?_)
    · intro y0 y1 y2 y3
      unfold tinderref01_Wide.j5
      repeat' first
      | (with_reducible exact ih0 _ _ _ _ _)
      | (with_reducible exact ih1 _ _ _ _)
      | (with_reducible exact ih2 _ _ _ _)
      | (with_reducible exact ih3 _ _)
      | (with_reducible exact ih4 _ _ _)
      | (with_reducible exact ih5 _ _ _ _)
      | (with_reducible exact ih6 _ _ _ _)
      | (with_reducible exact ih7 _ _)
      | (with_reducible exact ih8 _ _ _)
      | (with_reducible exact LeO.refl _)
      | (with_reducible exact LeO.none _)
      | (with_reducible refine LeO.ite ?_ ?_)
      | (with_reducible refine LeO.bind ?_ (fun _ => ?_))
      | exact ih0 _ _ _ _ _
      | exact ih1 _ _ _ _
      | exact ih2 _ _ _ _
      | exact ih3 _ _
      | exact ih4 _ _ _
      | exact ih5 _ _ _ _
      | exact ih6 _ _ _ _
      | exact ih7 _ _
      | exact ih8 _ _ _
      | exact LeO.none _
      | refine LeO.ite ?_ ?_
      | refine LeO.bind ?_ (fun _ => ?_)
    · intro y0 y1 y2 y3
      unfold tinderref01_Wide.j6
      repeat' first
      | (with_reducible exact ih0 _ _ _ _ _)
      | (with_reducible exact ih1 _ _ _ _)
      | (with_reducible exact ih2 _ _ _ _)
      | (with_reducible exact ih3 _ _)
      | (with_reducible exact ih4 _ _ _)
      | (with_reducible exact ih5 _ _ _ _)
      | (with_reducible exact ih6 _ _ _ _)
      | (with_reducible exact ih7 _ _)
      | (with_reducible exact ih8 _ _ _)
      | (with_reducible exact LeO.refl _)
      | (with_reducible exact LeO.none _)
      | (with_reducible refine LeO.ite ?_ ?_)
      | (with_reducible refine LeO.bind ?_ (fun _ => ?_))
      | exact ih0 _ _ _ _ _
      | exact ih1 _ _ _ _
      | exact ih2 _ _ _ _
      | exact ih3 _ _
      | exact ih4 _ _ _
      | exact ih5 _ _ _ _
      | exact ih6 _ _ _ _
      | exact ih7 _ _
      | exact ih8 _ _ _
      | exact LeO.none _
      | refine LeO.ite ?_ ?_
      | refine LeO.bind ?_ (fun _ => ?_)
    · intro y0 y1
      unfold tinderref01_Wide.j7
      repeat' first
      | (with_reducible exact ih0 _ _ _ _ _)
      | (with_reducible exact ih1 _ _ _ _)
      | (with_reducible exact ih2 _ _ _ _)
      | (with_reducible exact ih3 _ _)
      | (with_reducible exact ih4 _ _ _)
      | (with_reducible exact ih5 _ _ _ _)
      | (with_reducible exact ih6 _ _ _ _)
      | (with_reducible exact ih7 _ _)
      | (with_reducible exact ih8 _ _ _)
      | (with_reducible exact LeO.refl _)
      | (with_reducible exact LeO.none _)
      | (with_reducible refine LeO.ite ?_ ?_)
      | (with_reducible refine LeO.bind ?_ (fun _ => ?_))
      | exact ih0 _ _ _ _ _
      | exact ih1 _ _ _ _
      | exact ih2 _ _ _ _
      | exact ih3 _ _
      | exact ih4 _ _ _
      | exact ih5 _ _ _ _
      | exact ih6 _ _ _ _
      | exact ih7 _ _
      | exact ih8 _ _ _
      | exact LeO.none _
      | refine LeO.ite ?_ ?_
      | refine LeO.bind ?_ (fun _ => ?_)
    · intro y0 y1 y2
      unfold tinderref01_Wide.j8
      repeat' first
      | (with_reducible exact ih0 _ _ _ _ _)
      | (with_reducible exact ih1 _ _ _ _)
      | (with_reducible exact ih2 _ _ _ _)
      | (with_reducible exact ih3 _ _)
      | (with_reducible exact ih4 _ _ _)
      | (with_reducible exact ih5 _ _ _ _)
      | (with_reducible exact ih6 _ _ _ _)
      | (with_reducible exact ih7 _ _)
      | (with_reducible exact ih8 _ _ _)
      | (with_reducible exact LeO.refl _)
      | (with_reducible exact LeO.none _)
      | (with_reducible refine LeO.ite ?_ ?_)
      | (with_reducible refine LeO.bind ?_ (fun _ => ?_))
      | exact ih0 _ _ _ _ _
      | exact ih1 _ _ _ _
      | exact ih2 _ _ _ _
      | exact ih3 _ _
      | exact ih4 _ _ _
      | exact ih5 _ _ _ _
      | exact ih6 _ _ _ _
      | exact ih7 _ _
      | exact ih8 _ _ _
      | exact LeO.none _
      | refine LeO.ite ?_ ?_
      | refine LeO.bind ?_ (fun _ => ?_)
theorem tinderref01_Wide.mono : ∀ a0 a1 a2 a3 k, LeO (tinderref01_Wide.f k a0 a1 a2 a3) (tinderref01_Wide.f (k + 1) a0 a1 a2 a3) := by
  intro a0 a1 a2 a3 k
  obtain ⟨ih0, ih1, ih2, ih3, ih4, ih5, ih6, ih7, ih8⟩ := tinderref01_Wide.mono_l k
  unfold tinderref01_Wide.f
  repeat' first
      | (with_reducible exact ih0 _ _ _ _ _)
      | (with_reducible exact ih1 _ _ _ _)
      | (with_reducible exact ih2 _ _ _ _)
      | (with_reducible exact ih3 _ _)
      | (with_reducible exact ih4 _ _ _)
      | (with_reducible exact ih5 _ _ _ _)
      | (with_reducible exact ih6 _ _ _ _)
      | (with_reducible exact ih7 _ _)
      | (with_reducible exact ih8 _ _ _)
      | (with_reducible exact LeO.refl _)
      | (with_reducible exact LeO.none _)
      | (with_reducible refine LeO.ite ?_ ?_)
      | (with_reducible refine LeO.bind ?_ (fun _ => ?_))
      | exact ih0 _ _ _ _ _
      | exact ih1 _ _ _ _
      | exact ih2 _ _ _ _
      | exact ih3 _ _
      | exact ih4 _ _ _
      | exact ih5 _ _ _ _
      | exact ih6 _ _ _ _
      | exact ih7 _ _
      | exact ih8 _ _ _
      | exact LeO.none _
      | refine LeO.ite ?_ ?_
      | refine LeO.bind ?_ (fun _ => ?_)
set_option maxHeartbeats 8000000 in
set_option maxRecDepth 100000 in
theorem tinderref01_Wide.calls (k : Nat) (a0 : Int) (a1 : Int) (a2 : Int) (a3 : Int) (r1 : Int) (r2 : Int) (r3 : Int) (w : World) (h : tinderref01_Wide.f k a0 a1 a2 a3 = some (r1, r2, r3)) :
    Calls Try.prog 11 #[.int .i64 a0, .int .u32 a1, .int .u32 a2, .int .u32 a3] w fun e w' => e = .returned (.tuple #[.int .u32 r1, .int .u32 r2, .int .i64 r3]) ∧ Below w.heap.size w w' := by
  have HB := Aside0.mk (Below.refl w.heap.size w)
  have H : (if a0 = 213 then (tinderref01_Wide.j0 k a0 a1 a2 a3 false) else (if a0 = 469 then (tinderref01_Wide.j0 k a0 a1 a2 a3 false) else (tinderref01_Wide.j0 k a0 a1 a2 a3 (a0 != 725)))) = some (r1, r2, r3) := h
  clear h
  have HC5 := Aside0.mk H
  clear H
  go_enter Try.func11, Try.ntmps11
  go_upto_region 1 with (fail)
  repeat (go_quiet (fail); go_upto_region 1 with (fail))
  go_cut [29] (fun v29 wc => ∃ (kq : Nat) (x29_4 : Bool), v29 = .bool x29_4 ∧ Aside0 (tinderref01_Wide.j0 kq a0 a1 a2 a3 x29_4 = some (r1, r2, r3)) ∧ Aside0 (kq ≤ k) ∧ Aside0 (Below w.heap.size w wc))
  case first =>
    have H := HC5.out
    clear HC5
    by_cases c6 : a0 = 213
    · rw [if_pos c6] at H
      have c6b0 : (a0 == 213) = true := beq_iff_eq.mpr c6
      have c6b1 : (a0 != 213) = false := bne_eq_false_iff_eq.mpr c6
      clear c6
      (first | rw [c6b0] | (simp only [i64_w, i32_w]; rw [c6b0]) | skip)
      have H' := Aside0.mk H
      clear H
      go_wp2
      repeat (go_quiet (fail); try go_wp2)
      go_meet
      case rel => exact ⟨_, (false), (by first | rfl | (simp; done) | (simp [*]; done) | (simp <;> omega) | (simp [*] <;> omega)), H', ⟨by first | omega | exact Nat.le_refl _⟩, ⟨by repeat (first | (with_reducible first | exact HB.out | apply below_alloc | apply pw_below_drewN | apply below_drew1) | exact HB.out)⟩⟩
    · rw [if_neg c6] at H
      have c6b0 : (a0 == 213) = false := beq_eq_false_iff_ne.mpr c6
      have c6b1 : (a0 != 213) = true := bne_iff_ne.mpr c6
      (first | rw [c6b0] | (simp only [i64_w, i32_w]; rw [c6b0]) | skip)
      by_cases c7 : a0 = 469
      · rw [if_pos c7] at H
        have c7b0 : (a0 == 469) = true := beq_iff_eq.mpr c7
        have c7b1 : (a0 != 469) = false := bne_eq_false_iff_eq.mpr c7
        clear c7
        have H' := Aside0.mk H
        clear H
        go_wp2
        repeat (go_quiet (fail); try go_wp2)
        go_meet
        case rel => exact ⟨_, (false), (by first | rfl | (simp; done) | (simp [*]; done) | (simp <;> omega) | (simp [*] <;> omega)), H', ⟨by first | omega | exact Nat.le_refl _⟩, ⟨by repeat (first | (with_reducible first | exact HB.out | apply below_alloc | apply pw_below_drewN | apply below_drew1) | exact HB.out)⟩⟩
      · rw [if_neg c7] at H
        have c7b0 : (a0 == 469) = false := beq_eq_false_iff_ne.mpr c7
        have c7b1 : (a0 != 469) = true := bne_iff_ne.mpr c7
        have H' := Aside0.mk H
        clear H
        go_wp2
        repeat (go_quiet (fail); try go_wp2)
        go_meet
        case rel => exact ⟨_, ((a0 != 725)), (by first | rfl | (simp; done) | (simp [*]; done) | (simp <;> omega) | (simp [*] <;> omega)), H', ⟨by first | omega | exact Nat.le_refl _⟩, ⟨by repeat (first | (with_reducible first | exact HB.out | apply below_alloc | apply pw_below_drewN | apply below_drew1) | exact HB.out)⟩⟩
  case rest =>
    clear HC5
    try clear c1
    try clear p2
    try clear c6
    try clear c6b0
    try clear c6b1
    try clear c7
    try clear c7b0
    try clear c7b1
    obtain ⟨kq, x29_4, rfl, HA, HJ4, HB⟩ := hcut
    cases kq with
    | zero => exact absurd HA.out (by simp [tinderref01_Wide.j0])
    | succ kj4 =>
      have H := HA.out
      clear HA
      simp only [tinderref01_Wide.j0] at H
      by_cases c8 : x29_4 = true
      · subst c8
        have H1 : (some (0, 0, 2)) = some (r1, r2, r3) := by rw [if_pos rfl] at H; exact H
        clear H
        have H := H1
        clear H1
        simp only [Option.some.injEq, Prod.mk.injEq] at H
        obtain ⟨rfl, rfl, rfl⟩ := H
        go_wp2
        repeat (go_quiet (fail); try go_wp2)
        go_ret3
        exact ⟨by first | rfl | (simp [errW_none, errW_some] <;> rfl) | (simp [*, errW_none, errW_some] <;> rfl) | (simp [errW_none, errW_some] <;> omega) | (simp [*, errW_none, errW_some] <;> omega), by repeat (first | (with_reducible first | exact HB.out | apply below_alloc | apply pw_below_drewN | apply below_drew1) | exact HB.out)⟩
      · replace c8 := Bool.eq_false_iff.mpr c8
        subst c8
        have H1 : (if a3 = 0 then (some (0, 0, 7)) else (if a0 = 213 then (if (IntKind.u64.wrap (a3)) = 0 then (none) else (if (IntKind.u64.wrap (Int.tdiv (IntKind.u64.wrap ((IntKind.u64.wrap ((IntKind.u64.wrap (a2)) * 4294967296)) + (IntKind.u64.wrap (a1)))) (IntKind.u64.wrap (a3)))) ≥ 4294967296 then (some (0, 0, 4)) else (some ((IntKind.u64.wrap (Int.tdiv (IntKind.u64.wrap ((IntKind.u64.wrap ((IntKind.u64.wrap (a2)) * 4294967296)) + (IntKind.u64.wrap (a1)))) (IntKind.u64.wrap (a3)))) % 4294967296, (Int.tmod (IntKind.u64.wrap ((IntKind.u64.wrap ((IntKind.u64.wrap (a2)) * 4294967296)) + (IntKind.u64.wrap (a1)))) (IntKind.u64.wrap (a3))) % 4294967296, 0)))) else (if a2 ≥ 2147483648 then ((tinderref01_Signed.f a3).bind fun t121 => (if (IntKind.u64.wrap (mx t121 (wrap64 (-t121)))) = 0 then (none) else (if (IntKind.u64.wrap (Int.tdiv (IntKind.u64.wrap (-(IntKind.u64.wrap ((IntKind.u64.wrap ((IntKind.u64.wrap (a2)) * 4294967296)) + (IntKind.u64.wrap (a1)))))) (IntKind.u64.wrap (mx t121 (wrap64 (-t121)))))) > 4294967296 then (some (0, 0, 4)) else (if t121 < 0 then (tinderref01_Wide.j1 kj4 a0 t121 (wrap64 (IntKind.u64.wrap (Int.tdiv (IntKind.u64.wrap (-(IntKind.u64.wrap ((IntKind.u64.wrap ((IntKind.u64.wrap (a2)) * 4294967296)) + (IntKind.u64.wrap (a1)))))) (IntKind.u64.wrap (mx t121 (wrap64 (-t121))))))) (wrap64 (-(wrap64 (Int.tmod (IntKind.u64.wrap (-(IntKind.u64.wrap ((IntKind.u64.wrap ((IntKind.u64.wrap (a2)) * 4294967296)) + (IntKind.u64.wrap (a1)))))) (IntKind.u64.wrap (mx t121 (wrap64 (-t121))))))))) else (tinderref01_Wide.j1 kj4 a0 t121 (wrap64 (-(wrap64 (IntKind.u64.wrap (Int.tdiv (IntKind.u64.wrap (-(IntKind.u64.wrap ((IntKind.u64.wrap ((IntKind.u64.wrap (a2)) * 4294967296)) + (IntKind.u64.wrap (a1)))))) (IntKind.u64.wrap (mx t121 (wrap64 (-t121))))))))) (wrap64 (-(wrap64 (Int.tmod (IntKind.u64.wrap (-(IntKind.u64.wrap ((IntKind.u64.wrap ((IntKind.u64.wrap (a2)) * 4294967296)) + (IntKind.u64.wrap (a1)))))) (IntKind.u64.wrap (mx t121 (wrap64 (-t121))))))))))))) else ((tinderref01_Signed.f a3).bind fun t124 => (if (IntKind.u64.wrap (mx t124 (wrap64 (-t124)))) = 0 then (none) else (if (IntKind.u64.wrap (Int.tdiv (IntKind.u64.wrap ((IntKind.u64.wrap ((IntKind.u64.wrap (a2)) * 4294967296)) + (IntKind.u64.wrap (a1)))) (IntKind.u64.wrap (mx t124 (wrap64 (-t124)))))) > 4294967296 then (some (0, 0, 4)) else (if t124 < 0 then (tinderref01_Wide.j5 kj4 a0 t124 (wrap64 (-(wrap64 (IntKind.u64.wrap (Int.tdiv (IntKind.u64.wrap ((IntKind.u64.wrap ((IntKind.u64.wrap (a2)) * 4294967296)) + (IntKind.u64.wrap (a1)))) (IntKind.u64.wrap (mx t124 (wrap64 (-t124))))))))) (wrap64 (Int.tmod (IntKind.u64.wrap ((IntKind.u64.wrap ((IntKind.u64.wrap (a2)) * 4294967296)) + (IntKind.u64.wrap (a1)))) (IntKind.u64.wrap (mx t124 (wrap64 (-t124))))))) else (tinderref01_Wide.j5 kj4 a0 t124 (wrap64 (IntKind.u64.wrap (Int.tdiv (IntKind.u64.wrap ((IntKind.u64.wrap ((IntKind.u64.wrap (a2)) * 4294967296)) + (IntKind.u64.wrap (a1)))) (IntKind.u64.wrap (mx t124 (wrap64 (-t124))))))) (wrap64 (Int.tmod (IntKind.u64.wrap ((IntKind.u64.wrap ((IntKind.u64.wrap (a2)) * 4294967296)) + (IntKind.u64.wrap (a1)))) (IntKind.u64.wrap (mx t124 (wrap64 (-t124)))))))))))))) = some (r1, r2, r3) := by rw [if_neg (show ¬ (false = true) by decide)] at H; exact H
        clear H
        have H := H1
        clear H1
        by_cases c9 : a3 = 0
        · rw [if_pos c9] at H
          have c9b0 : (a3 == 0) = true := beq_iff_eq.mpr c9
          have c9b1 : (a3 != 0) = false := bne_eq_false_iff_eq.mpr c9
          clear c9
          simp only [Option.some.injEq, Prod.mk.injEq] at H
          obtain ⟨rfl, rfl, rfl⟩ := H
          go_wp2
          repeat (go_quiet (fail); try go_wp2)
          go_ret3
          exact ⟨by first | rfl | (simp [errW_none, errW_some] <;> rfl) | (simp [*, errW_none, errW_some] <;> rfl) | (simp [errW_none, errW_some] <;> omega) | (simp [*, errW_none, errW_some] <;> omega), by repeat (first | (with_reducible first | exact HB.out | apply below_alloc | apply pw_below_drewN | apply below_drew1) | exact HB.out)⟩
        · rw [if_neg c9] at H
          have c9b0 : (a3 == 0) = false := beq_eq_false_iff_ne.mpr c9
          have c9b1 : (a3 != 0) = true := bne_iff_ne.mpr c9
          by_cases c10 : a0 = 213
          · rw [if_pos c10] at H
            have c10b0 : (a0 == 213) = true := beq_iff_eq.mpr c10
            have c10b1 : (a0 != 213) = false := bne_eq_false_iff_eq.mpr c10
            clear c10
            by_cases c11 : (IntKind.u64.wrap (a3)) = 0
            · rw [if_pos c11] at H
              exact absurd H (by simp)
            · rw [if_neg c11] at H
              have c11b0 : ((IntKind.u64.wrap (a3)) == 0) = false := beq_eq_false_iff_ne.mpr c11
              have c11b1 : ((IntKind.u64.wrap (a3)) != 0) = true := bne_iff_ne.mpr c11
              by_cases c12 : (IntKind.u64.wrap (Int.tdiv (IntKind.u64.wrap ((IntKind.u64.wrap ((IntKind.u64.wrap (a2)) * 4294967296)) + (IntKind.u64.wrap (a1)))) (IntKind.u64.wrap (a3)))) ≥ 4294967296
              · rw [if_pos c12] at H
                have c12b0 : decide (4294967296 ≤ (IntKind.u64.wrap (Int.tdiv (IntKind.u64.wrap ((IntKind.u64.wrap ((IntKind.u64.wrap (a2)) * 4294967296)) + (IntKind.u64.wrap (a1)))) (IntKind.u64.wrap (a3))))) = true := decide_eq_true c12
                clear c12
                simp only [Option.some.injEq, Prod.mk.injEq] at H
                obtain ⟨rfl, rfl, rfl⟩ := H
                go_wp2
                repeat (go_quiet (fail); try go_wp2)
                go_ret3
                exact ⟨by first | rfl | (simp [errW_none, errW_some] <;> rfl) | (simp [*, errW_none, errW_some] <;> rfl) | (simp [errW_none, errW_some] <;> omega) | (simp [*, errW_none, errW_some] <;> omega), by repeat (first | (with_reducible first | exact HB.out | apply below_alloc | apply pw_below_drewN | apply below_drew1) | exact HB.out)⟩
              · rw [if_neg c12] at H
                have c12b0 : decide (4294967296 ≤ (IntKind.u64.wrap (Int.tdiv (IntKind.u64.wrap ((IntKind.u64.wrap ((IntKind.u64.wrap (a2)) * 4294967296)) + (IntKind.u64.wrap (a1)))) (IntKind.u64.wrap (a3))))) = false := decide_eq_false c12
                clear c12
                simp only [Option.some.injEq, Prod.mk.injEq] at H
                obtain ⟨rfl, rfl, rfl⟩ := H
                go_wp2
                repeat (go_quiet (fail); try go_wp2)
                go_ret3
                exact ⟨by first | rfl | (simp [errW_none, errW_some] <;> rfl) | (simp [*, errW_none, errW_some] <;> rfl) | (simp [errW_none, errW_some] <;> omega) | (simp [*, errW_none, errW_some] <;> omega), by repeat (first | (with_reducible first | exact HB.out | apply below_alloc | apply pw_below_drewN | apply below_drew1) | exact HB.out)⟩
          · rw [if_neg c10] at H
            have c10b0 : (a0 == 213) = false := beq_eq_false_iff_ne.mpr c10
            have c10b1 : (a0 != 213) = true := bne_iff_ne.mpr c10
            by_cases c13 : a2 ≥ 2147483648
            · rw [if_pos c13] at H
              have c13b0 : decide (2147483648 ≤ a2) = true := decide_eq_true c13
              clear c13
              replace H := Option.bind_eq_some_iff.mp H
              obtain ⟨t121, A140, H⟩ := H
              replace H : (if (IntKind.u64.wrap (mx t121 (wrap64 (-t121)))) = 0 then (none) else (if (IntKind.u64.wrap (Int.tdiv (IntKind.u64.wrap (-(IntKind.u64.wrap ((IntKind.u64.wrap ((IntKind.u64.wrap (a2)) * 4294967296)) + (IntKind.u64.wrap (a1)))))) (IntKind.u64.wrap (mx t121 (wrap64 (-t121)))))) > 4294967296 then (some (0, 0, 4)) else (if t121 < 0 then (tinderref01_Wide.j1 kj4 a0 t121 (wrap64 (IntKind.u64.wrap (Int.tdiv (IntKind.u64.wrap (-(IntKind.u64.wrap ((IntKind.u64.wrap ((IntKind.u64.wrap (a2)) * 4294967296)) + (IntKind.u64.wrap (a1)))))) (IntKind.u64.wrap (mx t121 (wrap64 (-t121))))))) (wrap64 (-(wrap64 (Int.tmod (IntKind.u64.wrap (-(IntKind.u64.wrap ((IntKind.u64.wrap ((IntKind.u64.wrap (a2)) * 4294967296)) + (IntKind.u64.wrap (a1)))))) (IntKind.u64.wrap (mx t121 (wrap64 (-t121))))))))) else (tinderref01_Wide.j1 kj4 a0 t121 (wrap64 (-(wrap64 (IntKind.u64.wrap (Int.tdiv (IntKind.u64.wrap (-(IntKind.u64.wrap ((IntKind.u64.wrap ((IntKind.u64.wrap (a2)) * 4294967296)) + (IntKind.u64.wrap (a1)))))) (IntKind.u64.wrap (mx t121 (wrap64 (-t121))))))))) (wrap64 (-(wrap64 (Int.tmod (IntKind.u64.wrap (-(IntKind.u64.wrap ((IntKind.u64.wrap ((IntKind.u64.wrap (a2)) * 4294967296)) + (IntKind.u64.wrap (a1)))))) (IntKind.u64.wrap (mx t121 (wrap64 (-t121)))))))))))) = some (r1, r2, r3) := H
              have A14 := Aside0.mk A140
              clear A140
              obtain ⟨ji15, hji15⟩ : ∃ j_ : Int, (mx t121 (wrap64 (-t121))) = j_ := ⟨_, rfl⟩
              replace H : (if (IntKind.u64.wrap (ji15)) = 0 then (none) else (if (IntKind.u64.wrap (Int.tdiv (IntKind.u64.wrap (-(IntKind.u64.wrap ((IntKind.u64.wrap ((IntKind.u64.wrap (a2)) * 4294967296)) + (IntKind.u64.wrap (a1)))))) (IntKind.u64.wrap (ji15)))) > 4294967296 then (some (0, 0, 4)) else (if t121 < 0 then (tinderref01_Wide.j1 kj4 a0 t121 (wrap64 (IntKind.u64.wrap (Int.tdiv (IntKind.u64.wrap (-(IntKind.u64.wrap ((IntKind.u64.wrap ((IntKind.u64.wrap (a2)) * 4294967296)) + (IntKind.u64.wrap (a1)))))) (IntKind.u64.wrap (ji15))))) (wrap64 (-(wrap64 (Int.tmod (IntKind.u64.wrap (-(IntKind.u64.wrap ((IntKind.u64.wrap ((IntKind.u64.wrap (a2)) * 4294967296)) + (IntKind.u64.wrap (a1)))))) (IntKind.u64.wrap (ji15))))))) else (tinderref01_Wide.j1 kj4 a0 t121 (wrap64 (-(wrap64 (IntKind.u64.wrap (Int.tdiv (IntKind.u64.wrap (-(IntKind.u64.wrap ((IntKind.u64.wrap ((IntKind.u64.wrap (a2)) * 4294967296)) + (IntKind.u64.wrap (a1)))))) (IntKind.u64.wrap (ji15))))))) (wrap64 (-(wrap64 (Int.tmod (IntKind.u64.wrap (-(IntKind.u64.wrap ((IntKind.u64.wrap ((IntKind.u64.wrap (a2)) * 4294967296)) + (IntKind.u64.wrap (a1)))))) (IntKind.u64.wrap (ji15)))))))))) = some (r1, r2, r3) := by first | (rw [hji15] at H; exact H) | (simp only [hji15] at H ⊢; exact H)
              (try rw [hji15] at A14)
              have hji15_ : (if t121 < (wrap64 (-t121)) then (wrap64 (-t121)) else t121) = ji15 := hji15
              by_cases c16 : (IntKind.u64.wrap (ji15)) = 0
              · rw [if_pos c16] at H
                exact absurd H (by simp)
              · rw [if_neg c16] at H
                have c16b0 : ((IntKind.u64.wrap (ji15)) == 0) = false := beq_eq_false_iff_ne.mpr c16
                have c16b1 : ((IntKind.u64.wrap (ji15)) != 0) = true := bne_iff_ne.mpr c16
                by_cases c17 : (IntKind.u64.wrap (Int.tdiv (IntKind.u64.wrap (-(IntKind.u64.wrap ((IntKind.u64.wrap ((IntKind.u64.wrap (a2)) * 4294967296)) + (IntKind.u64.wrap (a1)))))) (IntKind.u64.wrap (ji15)))) > 4294967296
                · rw [if_pos c17] at H
                  have c17b0 : decide (4294967296 < (IntKind.u64.wrap (Int.tdiv (IntKind.u64.wrap (-(IntKind.u64.wrap ((IntKind.u64.wrap ((IntKind.u64.wrap (a2)) * 4294967296)) + (IntKind.u64.wrap (a1)))))) (IntKind.u64.wrap (ji15))))) = true := decide_eq_true c17
                  clear c17
                  simp only [Option.some.injEq, Prod.mk.injEq] at H
                  obtain ⟨rfl, rfl, rfl⟩ := H
                  go_wp2_with (first | (go_at_call 17; (with_reducible refine (tinderref01_Signed.calls a3 t121 _ A14.out).mono ?_); rintro e w' ⟨rfl, ⟨nd, rfl⟩⟩; (try first | exact ⟨rfl, _, World.drewN_drewN _ _ _⟩ | exact ⟨rfl, _, Eq.trans (World.drewN_drewN _ _ _) (congrArg (World.drewN _) (Nat.add_assoc _ _ _))⟩)))
                  repeat (go_quiet (first | (go_at_call 17; (with_reducible refine (tinderref01_Signed.calls a3 t121 _ A14.out).mono ?_); rintro e w' ⟨rfl, ⟨nd, rfl⟩⟩; (try first | exact ⟨rfl, _, World.drewN_drewN _ _ _⟩ | exact ⟨rfl, _, Eq.trans (World.drewN_drewN _ _ _) (congrArg (World.drewN _) (Nat.add_assoc _ _ _))⟩))); try go_wp2_with (first | (go_at_call 17; (with_reducible refine (tinderref01_Signed.calls a3 t121 _ A14.out).mono ?_); rintro e w' ⟨rfl, ⟨nd, rfl⟩⟩; (try first | exact ⟨rfl, _, World.drewN_drewN _ _ _⟩ | exact ⟨rfl, _, Eq.trans (World.drewN_drewN _ _ _) (congrArg (World.drewN _) (Nat.add_assoc _ _ _))⟩))))
                  go_ret3
                  exact ⟨by first | rfl | (simp [errW_none, errW_some] <;> rfl) | (simp only [← hji15]; first | rfl | (simp [errW_none, errW_some] <;> rfl)) | (simp [*, errW_none, errW_some] <;> rfl) | (simp [errW_none, errW_some] <;> omega) | (simp [*, errW_none, errW_some] <;> omega), by repeat (first | (with_reducible first | exact HB.out | apply below_alloc | apply pw_below_drewN | apply below_drew1) | exact HB.out)⟩
                · rw [if_neg c17] at H
                  have c17b0 : decide (4294967296 < (IntKind.u64.wrap (Int.tdiv (IntKind.u64.wrap (-(IntKind.u64.wrap ((IntKind.u64.wrap ((IntKind.u64.wrap (a2)) * 4294967296)) + (IntKind.u64.wrap (a1)))))) (IntKind.u64.wrap (ji15))))) = false := decide_eq_false c17
                  clear c17
                  have HC18 := Aside0.mk H
                  clear H
                  go_upto_if 87 with (first | (go_at_call 17; (with_reducible refine (tinderref01_Signed.calls a3 t121 _ A14.out).mono ?_); rintro e w' ⟨rfl, ⟨nd, rfl⟩⟩; (try first | exact ⟨rfl, _, World.drewN_drewN _ _ _⟩ | exact ⟨rfl, _, Eq.trans (World.drewN_drewN _ _ _) (congrArg (World.drewN _) (Nat.add_assoc _ _ _))⟩)))
                  repeat (go_quiet (first | (go_at_call 17; (with_reducible refine (tinderref01_Signed.calls a3 t121 _ A14.out).mono ?_); rintro e w' ⟨rfl, ⟨nd, rfl⟩⟩; (try first | exact ⟨rfl, _, World.drewN_drewN _ _ _⟩ | exact ⟨rfl, _, Eq.trans (World.drewN_drewN _ _ _) (congrArg (World.drewN _) (Nat.add_assoc _ _ _))⟩))); go_upto_if 87 with (first | (go_at_call 17; (with_reducible refine (tinderref01_Signed.calls a3 t121 _ A14.out).mono ?_); rintro e w' ⟨rfl, ⟨nd, rfl⟩⟩; (try first | exact ⟨rfl, _, World.drewN_drewN _ _ _⟩ | exact ⟨rfl, _, Eq.trans (World.drewN_drewN _ _ _) (congrArg (World.drewN _) (Nat.add_assoc _ _ _))⟩))))
                  (try simp only [Act.put, List.setIfInBounds_toArray, List.set_cons_zero, List.set_cons_succ])
                  go_cut [18] (fun v18 wc => ∃ (kq : Nat) (x18_17 : Int), v18 = .int .i64 x18_17 ∧ Aside0 (tinderref01_Wide.j1 kq a0 t121 x18_17 (wrap64 (-(wrap64 (Int.tmod (IntKind.u64.wrap (-(IntKind.u64.wrap ((IntKind.u64.wrap ((IntKind.u64.wrap (a2)) * 4294967296)) + (IntKind.u64.wrap (a1)))))) (IntKind.u64.wrap (ji15)))))) = some (r1, r2, r3)) ∧ Aside0 (kq ≤ kj4) ∧ Aside0 (Below w.heap.size w wc))
                  case first =>
                    have H := HC18.out
                    clear HC18
                    by_cases c19 : t121 < 0
                    · rw [if_pos c19] at H
                      have c19b0 : decide (t121 < 0) = true := decide_eq_true c19
                      clear c19
                      (first | rw [c19b0] | (simp only [i64_w, i32_w]; rw [c19b0]) | skip)
                      have H' := Aside0.mk H
                      clear H
                      go_wp2
                      repeat (go_quiet (fail); try go_wp2)
                      go_meet
                      case rel => exact ⟨_, (wrap64 (IntKind.u64.wrap (Int.tdiv (IntKind.u64.wrap (-(IntKind.u64.wrap ((IntKind.u64.wrap ((IntKind.u64.wrap (a2)) * 4294967296)) + (IntKind.u64.wrap (a1)))))) (IntKind.u64.wrap (ji15))))), (by first | rfl | (simp; done) | (simp only [← hji15] <;> (first | rfl | simp)) | (simp [*]; done) | (simp <;> omega) | (simp [*] <;> omega)), H', ⟨by have := HJ4.out; first | omega | exact Nat.le_refl _⟩, ⟨by repeat (first | (with_reducible first | exact HB.out | apply below_alloc | apply pw_below_drewN | apply below_drew1) | exact HB.out)⟩⟩
                    · rw [if_neg c19] at H
                      have c19b0 : decide (t121 < 0) = false := decide_eq_false c19
                      clear c19
                      (first | rw [c19b0] | (simp only [i64_w, i32_w]; rw [c19b0]) | skip)
                      have H' := Aside0.mk H
                      clear H
                      go_wp2
                      repeat (go_quiet (fail); try go_wp2)
                      go_meet
                      case rel => exact ⟨_, (wrap64 (-(wrap64 (IntKind.u64.wrap (Int.tdiv (IntKind.u64.wrap (-(IntKind.u64.wrap ((IntKind.u64.wrap ((IntKind.u64.wrap (a2)) * 4294967296)) + (IntKind.u64.wrap (a1)))))) (IntKind.u64.wrap (ji15))))))), (by first | rfl | (simp; done) | (simp only [← hji15] <;> (first | rfl | simp)) | (simp [*]; done) | (simp <;> omega) | (simp [*] <;> omega)), H', ⟨by have := HJ4.out; first | omega | exact Nat.le_refl _⟩, ⟨by repeat (first | (with_reducible first | exact HB.out | apply below_alloc | apply pw_below_drewN | apply below_drew1) | exact HB.out)⟩⟩
                  case rest =>
                    clear HC18
                    try clear c1
                    try clear p2
                    try clear c6
                    try clear c6b0
                    try clear c6b1
                    try clear p6
                    try clear c7
                    try clear c7b0
                    try clear c7b1
                    try clear c8
                    try clear c9
                    try clear c9b0
                    try clear c9b1
                    try clear c10
                    try clear c10b0
                    try clear c10b1
                    try clear c11
                    try clear c11b0
                    try clear c11b1
                    try clear c12
                    try clear c12b0
                    try clear c13
                    try clear c13b0
                    try clear c16
                    try clear c16b0
                    try clear c16b1
                    try clear c17
                    try clear c17b0
                    try clear c19
                    try clear c19b0
                    try clear p2
                    obtain ⟨kq, x18_17, rfl, HA, HJ17, HB⟩ := hcut
                    cases kq with
                    | zero => exact absurd HA.out (by simp [tinderref01_Wide.j1])
                    | succ kj17 =>
                      have H := HA.out
                      clear HA
                      simp only [tinderref01_Wide.j1] at H
                      have HC20 := Aside0.mk H
                      clear H
                      go_upto_region 24 with (fail)
                      repeat (go_quiet (fail); go_upto_region 24 with (fail))
                      go_cut [102] (fun v102 wc => ∃ (kq : Nat) (x102_19 : Bool), v102 = .bool x102_19 ∧ Aside0 (tinderref01_Wide.j2 kq t121 x18_17 (wrap64 (-(wrap64 (Int.tmod (IntKind.u64.wrap (-(IntKind.u64.wrap ((IntKind.u64.wrap ((IntKind.u64.wrap (a2)) * 4294967296)) + (IntKind.u64.wrap (a1)))))) (IntKind.u64.wrap (ji15)))))) x102_19 = some (r1, r2, r3)) ∧ Aside0 (kq ≤ kj17) ∧ Aside0 (Below w.heap.size w wc))
                      case first =>
                        have H := HC20.out
                        clear HC20
                        by_cases c21 : a0 = 725
                        · rw [if_pos c21] at H
                          have c21b0 : (a0 == 725) = true := beq_iff_eq.mpr c21
                          have c21b1 : (a0 != 725) = false := bne_eq_false_iff_eq.mpr c21
                          clear c21
                          (first | rw [c21b0] | (simp only [i64_w, i32_w]; rw [c21b0]) | skip)
                          by_cases c22 : (wrap64 (-(wrap64 (Int.tmod (IntKind.u64.wrap (-(IntKind.u64.wrap ((IntKind.u64.wrap ((IntKind.u64.wrap (a2)) * 4294967296)) + (IntKind.u64.wrap (a1)))))) (IntKind.u64.wrap (ji15)))))) = 0
                          · rw [if_pos c22] at H
                            have c22b0 : ((wrap64 (-(wrap64 (Int.tmod (IntKind.u64.wrap (-(IntKind.u64.wrap ((IntKind.u64.wrap ((IntKind.u64.wrap (a2)) * 4294967296)) + (IntKind.u64.wrap (a1)))))) (IntKind.u64.wrap (ji15)))))) == 0) = true := beq_iff_eq.mpr c22
                            have c22b1 : ((wrap64 (-(wrap64 (Int.tmod (IntKind.u64.wrap (-(IntKind.u64.wrap ((IntKind.u64.wrap ((IntKind.u64.wrap (a2)) * 4294967296)) + (IntKind.u64.wrap (a1)))))) (IntKind.u64.wrap (ji15)))))) != 0) = false := bne_eq_false_iff_eq.mpr c22
                            clear c22
                            have H' := Aside0.mk H
                            clear H
                            go_wp2
                            repeat (go_quiet (fail); try go_wp2)
                            go_meet
                            case rel => exact ⟨_, (false), (by first | rfl | (simp; done) | (simp [*]; done) | (simp <;> omega) | (simp [*] <;> omega)), H', ⟨by have := HJ4.out; have := HJ17.out; first | omega | exact Nat.le_refl _⟩, ⟨by repeat (first | (with_reducible first | exact HB.out | apply below_alloc | apply pw_below_drewN | apply below_drew1) | exact HB.out)⟩⟩
                          · rw [if_neg c22] at H
                            have c22b0 : ((wrap64 (-(wrap64 (Int.tmod (IntKind.u64.wrap (-(IntKind.u64.wrap ((IntKind.u64.wrap ((IntKind.u64.wrap (a2)) * 4294967296)) + (IntKind.u64.wrap (a1)))))) (IntKind.u64.wrap (ji15)))))) == 0) = false := beq_eq_false_iff_ne.mpr c22
                            have c22b1 : ((wrap64 (-(wrap64 (Int.tmod (IntKind.u64.wrap (-(IntKind.u64.wrap ((IntKind.u64.wrap ((IntKind.u64.wrap (a2)) * 4294967296)) + (IntKind.u64.wrap (a1)))))) (IntKind.u64.wrap (ji15)))))) != 0) = true := bne_iff_ne.mpr c22
                            have H' := Aside0.mk H
                            clear H
                            go_wp2
                            repeat (go_quiet (fail); try go_wp2)
                            go_meet
                            case rel => exact ⟨_, (((decide ((wrap64 (-(wrap64 (Int.tmod (IntKind.u64.wrap (-(IntKind.u64.wrap ((IntKind.u64.wrap ((IntKind.u64.wrap (a2)) * 4294967296)) + (IntKind.u64.wrap (a1)))))) (IntKind.u64.wrap (ji15)))))) < 0)) != (decide (t121 < 0)))), (by first | rfl | (simp; done) | (simp only [← hji15] <;> (first | rfl | simp)) | (simp [*]; done) | (simp <;> omega) | (simp [*] <;> omega)), H', ⟨by have := HJ4.out; have := HJ17.out; first | omega | exact Nat.le_refl _⟩, ⟨by repeat (first | (with_reducible first | exact HB.out | apply below_alloc | apply pw_below_drewN | apply below_drew1) | exact HB.out)⟩⟩
                        · rw [if_neg c21] at H
                          have c21b0 : (a0 == 725) = false := beq_eq_false_iff_ne.mpr c21
                          have c21b1 : (a0 != 725) = true := bne_iff_ne.mpr c21
                          (first | rw [c21b0] | (simp only [i64_w, i32_w]; rw [c21b0]) | skip)
                          have H' := Aside0.mk H
                          clear H
                          go_wp2
                          repeat (go_quiet (fail); try go_wp2)
                          go_meet
                          case rel => exact ⟨_, (false), (by first | rfl | (simp; done) | (simp [*]; done) | (simp <;> omega) | (simp [*] <;> omega)), H', ⟨by have := HJ4.out; have := HJ17.out; first | omega | exact Nat.le_refl _⟩, ⟨by repeat (first | (with_reducible first | exact HB.out | apply below_alloc | apply pw_below_drewN | apply below_drew1) | exact HB.out)⟩⟩
                      case rest =>
                        clear HC20
                        try clear c1
                        try clear c2
                        try clear p2
                        try clear c6
                        try clear c6b0
                        try clear c6b1
                        try clear p6
                        try clear c7
                        try clear c7b0
                        try clear c7b1
                        try clear c8
                        try clear c9
                        try clear c9b0
                        try clear c9b1
                        try clear c10
                        try clear c10b0
                        try clear c10b1
                        try clear c11
                        try clear c11b0
                        try clear c11b1
                        try clear c12
                        try clear c12b0
                        try clear c13
                        try clear c13b0
                        try clear c16
                        try clear c16b0
                        try clear c16b1
                        try clear c17
                        try clear c17b0
                        try clear c19
                        try clear c19b0
                        try clear c21
                        try clear c21b0
                        try clear c21b1
                        try clear c22
                        try clear c22b0
                        try clear c22b1
                        try clear p2
                        try clear p6
                        obtain ⟨kq, x102_19, rfl, HA, HJ19, HB⟩ := hcut
                        cases kq with
                        | zero => exact absurd HA.out (by simp [tinderref01_Wide.j2])
                        | succ kj19 =>
                          have H := HA.out
                          clear HA
                          simp only [tinderref01_Wide.j2] at H
                          have HC23 := Aside0.mk H
                          clear H
                          go_upto_if 102 with (fail)
                          repeat (go_quiet (fail); go_upto_if 102 with (fail))
                          go_cut [18, 19] (fun v18 v19 wc => ∃ (kq : Nat) (x18_22 : Int) (x19_22 : Int), v18 = .int .i64 x18_22 ∧ v19 = .int .i64 x19_22 ∧ Aside0 (tinderref01_Wide.j3 kq x18_22 x19_22 = some (r1, r2, r3)) ∧ Aside0 (kq ≤ kj19) ∧ Aside0 (Below w.heap.size w wc))
                          case first =>
                            have H := HC23.out
                            clear HC23
                            by_cases c24 : x102_19 = true
                            · subst c24
                              have H1 : (tinderref01_Wide.j3 kj19 (wrap64 (x18_17 - 1)) (wrap64 ((wrap64 (-(wrap64 (Int.tmod (IntKind.u64.wrap (-(IntKind.u64.wrap ((IntKind.u64.wrap ((IntKind.u64.wrap (a2)) * 4294967296)) + (IntKind.u64.wrap (a1)))))) (IntKind.u64.wrap (ji15)))))) + t121))) = some (r1, r2, r3) := by rw [if_pos rfl] at H; exact H
                              clear H
                              have H := H1
                              clear H1
                              have H' := Aside0.mk H
                              clear H
                              go_wp2
                              repeat (go_quiet (fail); try go_wp2)
                              go_meet
                              case rel => exact ⟨_, (wrap64 (x18_17 - 1)), (wrap64 ((wrap64 (-(wrap64 (Int.tmod (IntKind.u64.wrap (-(IntKind.u64.wrap ((IntKind.u64.wrap ((IntKind.u64.wrap (a2)) * 4294967296)) + (IntKind.u64.wrap (a1)))))) (IntKind.u64.wrap (ji15)))))) + t121)), (by first | rfl | (simp; done) | (simp [*]; done) | (simp <;> omega) | (simp [*] <;> omega)), (by first | rfl | (simp; done) | (simp only [← hji15] <;> (first | rfl | simp)) | (simp [*]; done) | (simp <;> omega) | (simp [*] <;> omega)), H', ⟨by have := HJ4.out; have := HJ17.out; have := HJ19.out; first | omega | exact Nat.le_refl _⟩, ⟨by repeat (first | (with_reducible first | exact HB.out | apply below_alloc | apply pw_below_drewN | apply below_drew1) | exact HB.out)⟩⟩
                            · replace c24 := Bool.eq_false_iff.mpr c24
                              subst c24
                              have H1 : (tinderref01_Wide.j3 kj19 x18_17 (wrap64 (-(wrap64 (Int.tmod (IntKind.u64.wrap (-(IntKind.u64.wrap ((IntKind.u64.wrap ((IntKind.u64.wrap (a2)) * 4294967296)) + (IntKind.u64.wrap (a1)))))) (IntKind.u64.wrap (ji15))))))) = some (r1, r2, r3) := by rw [if_neg (show ¬ (false = true) by decide)] at H; exact H
                              clear H
                              have H := H1
                              clear H1
                              have H' := Aside0.mk H
                              clear H
                              go_wp2
                              repeat (go_quiet (fail); try go_wp2)
                              go_meet
                              case rel => exact ⟨_, (x18_17), ((wrap64 (-(wrap64 (Int.tmod (IntKind.u64.wrap (-(IntKind.u64.wrap ((IntKind.u64.wrap ((IntKind.u64.wrap (a2)) * 4294967296)) + (IntKind.u64.wrap (a1)))))) (IntKind.u64.wrap (ji15))))))), (by first | rfl | (simp; done) | (simp [*]; done) | (simp <;> omega) | (simp [*] <;> omega)), (by first | rfl | (simp; done) | (simp only [← hji15] <;> (first | rfl | simp)) | (simp [*]; done) | (simp <;> omega) | (simp [*] <;> omega)), H', ⟨by have := HJ4.out; have := HJ17.out; have := HJ19.out; first | omega | exact Nat.le_refl _⟩, ⟨by repeat (first | (with_reducible first | exact HB.out | apply below_alloc | apply pw_below_drewN | apply below_drew1) | exact HB.out)⟩⟩
                          case rest =>
                            clear HC23
                            try clear c1
                            try clear c2
                            try clear p2
                            try clear c6
                            try clear c6b0
                            try clear c6b1
                            try clear p6
                            try clear c7
                            try clear c7b0
                            try clear c7b1
                            try clear c8
                            try clear c9
                            try clear c9b0
                            try clear c9b1
                            try clear c10
                            try clear c10b0
                            try clear c10b1
                            try clear c11
                            try clear c11b0
                            try clear c11b1
                            try clear c12
                            try clear c12b0
                            try clear c13
                            try clear c13b0
                            try clear c16
                            try clear c16b0
                            try clear c16b1
                            try clear c17
                            try clear c17b0
                            try clear c19
                            try clear c19b0
                            try clear c21
                            try clear c21b0
                            try clear c21b1
                            try clear c22
                            try clear c22b0
                            try clear c22b1
                            try clear c24
                            try clear p2
                            try clear p6
                            obtain ⟨kq, x18_22, x19_22, rfl, rfl, HA, HJ22, HB⟩ := hcut
                            cases kq with
                            | zero => exact absurd HA.out (by simp [tinderref01_Wide.j3])
                            | succ kj22 =>
                              have H := HA.out
                              clear HA
                              simp only [tinderref01_Wide.j3] at H
                              have HC25 := Aside0.mk H
                              clear H
                              go_upto_region 26 with (fail)
                              repeat (go_quiet (fail); go_upto_region 26 with (fail))
                              go_cut [113] (fun v113 wc => ∃ (kq : Nat) (x113_24 : Bool), v113 = .bool x113_24 ∧ Aside0 (tinderref01_Wide.j4 kq x18_22 x19_22 x113_24 = some (r1, r2, r3)) ∧ Aside0 (kq ≤ kj22) ∧ Aside0 (Below w.heap.size w wc))
                              case first =>
                                have H := HC25.out
                                clear HC25
                                by_cases c26 : x18_22 < (-2147483648)
                                · rw [if_pos c26] at H
                                  have c26b0 : decide (x18_22 < (-2147483648)) = true := decide_eq_true c26
                                  clear c26
                                  (first | rw [c26b0] | (simp only [i64_w, i32_w]; rw [c26b0]) | skip)
                                  have H' := Aside0.mk H
                                  clear H
                                  go_wp2
                                  repeat (go_quiet (fail); try go_wp2)
                                  go_meet
                                  case rel => exact ⟨_, (true), (by first | rfl | (simp; done) | (simp [*]; done) | (simp <;> omega) | (simp [*] <;> omega)), H', ⟨by have := HJ4.out; have := HJ17.out; have := HJ19.out; have := HJ22.out; first | omega | exact Nat.le_refl _⟩, ⟨by repeat (first | (with_reducible first | exact HB.out | apply below_alloc | apply pw_below_drewN | apply below_drew1) | exact HB.out)⟩⟩
                                · rw [if_neg c26] at H
                                  have c26b0 : decide (x18_22 < (-2147483648)) = false := decide_eq_false c26
                                  clear c26
                                  (first | rw [c26b0] | (simp only [i64_w, i32_w]; rw [c26b0]) | skip)
                                  have H' := Aside0.mk H
                                  clear H
                                  go_wp2
                                  repeat (go_quiet (fail); try go_wp2)
                                  go_meet
                                  case rel => exact ⟨_, (decide (x18_22 ≥ 2147483648)), (by first | rfl | (simp; done) | (simp [*]; done) | (simp <;> omega) | (simp [*] <;> omega)), H', ⟨by have := HJ4.out; have := HJ17.out; have := HJ19.out; have := HJ22.out; first | omega | exact Nat.le_refl _⟩, ⟨by repeat (first | (with_reducible first | exact HB.out | apply below_alloc | apply pw_below_drewN | apply below_drew1) | exact HB.out)⟩⟩
                              case rest =>
                                clear HC25
                                try clear c1
                                try clear c2
                                try clear p2
                                try clear c6
                                try clear c6b0
                                try clear c6b1
                                try clear p6
                                try clear c7
                                try clear c7b0
                                try clear c7b1
                                try clear c8
                                try clear c9
                                try clear c9b0
                                try clear c9b1
                                try clear c10
                                try clear c10b0
                                try clear c10b1
                                try clear c11
                                try clear c11b0
                                try clear c11b1
                                try clear c12
                                try clear c12b0
                                try clear c13
                                try clear c13b0
                                try clear c16
                                try clear c16b0
                                try clear c16b1
                                try clear c17
                                try clear c17b0
                                try clear c19
                                try clear c19b0
                                try clear c21
                                try clear c21b0
                                try clear c21b1
                                try clear c22
                                try clear c22b0
                                try clear c22b1
                                try clear c24
                                try clear c26
                                try clear c26b0
                                try clear p2
                                try clear p6
                                obtain ⟨kq, x113_24, rfl, HA, HJ24, HB⟩ := hcut
                                cases kq with
                                | zero => exact absurd HA.out (by simp [tinderref01_Wide.j4])
                                | succ kj24 =>
                                  have H := HA.out
                                  clear HA
                                  simp only [tinderref01_Wide.j4] at H
                                  by_cases c27 : x113_24 = true
                                  · subst c27
                                    have H1 : (some (0, 0, 4)) = some (r1, r2, r3) := by rw [if_pos rfl] at H; exact H
                                    clear H
                                    have H := H1
                                    clear H1
                                    simp only [Option.some.injEq, Prod.mk.injEq] at H
                                    obtain ⟨rfl, rfl, rfl⟩ := H
                                    go_wp2
                                    repeat (go_quiet (fail); try go_wp2)
                                    go_ret3
                                    exact ⟨by first | rfl | (simp [errW_none, errW_some] <;> rfl) | (simp only [← hji15]; first | rfl | (simp [errW_none, errW_some] <;> rfl)) | (simp [*, errW_none, errW_some] <;> rfl) | (simp [errW_none, errW_some] <;> omega) | (simp [*, errW_none, errW_some] <;> omega), by repeat (first | (with_reducible first | exact HB.out | apply below_alloc | apply pw_below_drewN | apply below_drew1) | exact HB.out)⟩
                                  · replace c27 := Bool.eq_false_iff.mpr c27
                                    subst c27
                                    have H1 : ((tinderref01_Cell.f x18_22).bind fun t122 => ((tinderref01_Cell.f x19_22).bind fun t123 => (some (t122, t123, 0)))) = some (r1, r2, r3) := by rw [if_neg (show ¬ (false = true) by decide)] at H; exact H
                                    clear H
                                    have H := H1
                                    clear H1
                                    replace H := Option.bind_eq_some_iff.mp H
                                    obtain ⟨t122, A280, H⟩ := H
                                    replace H : ((tinderref01_Cell.f x19_22).bind fun t123 => (some (t122, t123, 0))) = some (r1, r2, r3) := H
                                    have A28 := Aside0.mk A280
                                    clear A280
                                    replace H := Option.bind_eq_some_iff.mp H
                                    obtain ⟨t123, A290, H⟩ := H
                                    replace H : (some (t122, t123, 0)) = some (r1, r2, r3) := H
                                    have A29 := Aside0.mk A290
                                    clear A290
                                    simp only [Option.some.injEq, Prod.mk.injEq] at H
                                    obtain ⟨rfl, rfl, rfl⟩ := H
                                    go_wp2_with (first | (go_at_call 33; (with_reducible refine (tinderref01_Cell.calls x18_22 t122 _ A28.out).mono ?_); rintro e w' ⟨rfl, ⟨nd, rfl⟩⟩; (try first | exact ⟨rfl, _, World.drewN_drewN _ _ _⟩ | exact ⟨rfl, _, Eq.trans (World.drewN_drewN _ _ _) (congrArg (World.drewN _) (Nat.add_assoc _ _ _))⟩)) | (go_at_call 33; (with_reducible refine (tinderref01_Cell.calls x19_22 t123 _ A29.out).mono ?_); rintro e w' ⟨rfl, ⟨nd, rfl⟩⟩; (try first | exact ⟨rfl, _, World.drewN_drewN _ _ _⟩ | exact ⟨rfl, _, Eq.trans (World.drewN_drewN _ _ _) (congrArg (World.drewN _) (Nat.add_assoc _ _ _))⟩)))
                                    repeat (go_quiet (first | (go_at_call 33; (with_reducible refine (tinderref01_Cell.calls x18_22 t122 _ A28.out).mono ?_); rintro e w' ⟨rfl, ⟨nd, rfl⟩⟩; (try first | exact ⟨rfl, _, World.drewN_drewN _ _ _⟩ | exact ⟨rfl, _, Eq.trans (World.drewN_drewN _ _ _) (congrArg (World.drewN _) (Nat.add_assoc _ _ _))⟩)) | (go_at_call 33; (with_reducible refine (tinderref01_Cell.calls x19_22 t123 _ A29.out).mono ?_); rintro e w' ⟨rfl, ⟨nd, rfl⟩⟩; (try first | exact ⟨rfl, _, World.drewN_drewN _ _ _⟩ | exact ⟨rfl, _, Eq.trans (World.drewN_drewN _ _ _) (congrArg (World.drewN _) (Nat.add_assoc _ _ _))⟩))); try go_wp2_with (first | (go_at_call 33; (with_reducible refine (tinderref01_Cell.calls x18_22 t122 _ A28.out).mono ?_); rintro e w' ⟨rfl, ⟨nd, rfl⟩⟩; (try first | exact ⟨rfl, _, World.drewN_drewN _ _ _⟩ | exact ⟨rfl, _, Eq.trans (World.drewN_drewN _ _ _) (congrArg (World.drewN _) (Nat.add_assoc _ _ _))⟩)) | (go_at_call 33; (with_reducible refine (tinderref01_Cell.calls x19_22 t123 _ A29.out).mono ?_); rintro e w' ⟨rfl, ⟨nd, rfl⟩⟩; (try first | exact ⟨rfl, _, World.drewN_drewN _ _ _⟩ | exact ⟨rfl, _, Eq.trans (World.drewN_drewN _ _ _) (congrArg (World.drewN _) (Nat.add_assoc _ _ _))⟩))))
                                    go_ret3
                                    exact ⟨by first | rfl | (simp [errW_none, errW_some] <;> rfl) | (simp only [← hji15]; first | rfl | (simp [errW_none, errW_some] <;> rfl)) | (simp [*, errW_none, errW_some] <;> rfl) | (simp [errW_none, errW_some] <;> omega) | (simp [*, errW_none, errW_some] <;> omega), by repeat (first | (with_reducible first | exact HB.out | apply below_alloc | apply pw_below_drewN | apply below_drew1) | exact HB.out)⟩
            · rw [if_neg c13] at H
              have c13b0 : decide (2147483648 ≤ a2) = false := decide_eq_false c13
              clear c13
              replace H := Option.bind_eq_some_iff.mp H
              obtain ⟨t124, A300, H⟩ := H
              replace H : (if (IntKind.u64.wrap (mx t124 (wrap64 (-t124)))) = 0 then (none) else (if (IntKind.u64.wrap (Int.tdiv (IntKind.u64.wrap ((IntKind.u64.wrap ((IntKind.u64.wrap (a2)) * 4294967296)) + (IntKind.u64.wrap (a1)))) (IntKind.u64.wrap (mx t124 (wrap64 (-t124)))))) > 4294967296 then (some (0, 0, 4)) else (if t124 < 0 then (tinderref01_Wide.j5 kj4 a0 t124 (wrap64 (-(wrap64 (IntKind.u64.wrap (Int.tdiv (IntKind.u64.wrap ((IntKind.u64.wrap ((IntKind.u64.wrap (a2)) * 4294967296)) + (IntKind.u64.wrap (a1)))) (IntKind.u64.wrap (mx t124 (wrap64 (-t124))))))))) (wrap64 (Int.tmod (IntKind.u64.wrap ((IntKind.u64.wrap ((IntKind.u64.wrap (a2)) * 4294967296)) + (IntKind.u64.wrap (a1)))) (IntKind.u64.wrap (mx t124 (wrap64 (-t124))))))) else (tinderref01_Wide.j5 kj4 a0 t124 (wrap64 (IntKind.u64.wrap (Int.tdiv (IntKind.u64.wrap ((IntKind.u64.wrap ((IntKind.u64.wrap (a2)) * 4294967296)) + (IntKind.u64.wrap (a1)))) (IntKind.u64.wrap (mx t124 (wrap64 (-t124))))))) (wrap64 (Int.tmod (IntKind.u64.wrap ((IntKind.u64.wrap ((IntKind.u64.wrap (a2)) * 4294967296)) + (IntKind.u64.wrap (a1)))) (IntKind.u64.wrap (mx t124 (wrap64 (-t124)))))))))) = some (r1, r2, r3) := H
              have A30 := Aside0.mk A300
              clear A300
              obtain ⟨ji31, hji31⟩ : ∃ j_ : Int, (mx t124 (wrap64 (-t124))) = j_ := ⟨_, rfl⟩
              replace H : (if (IntKind.u64.wrap (ji31)) = 0 then (none) else (if (IntKind.u64.wrap (Int.tdiv (IntKind.u64.wrap ((IntKind.u64.wrap ((IntKind.u64.wrap (a2)) * 4294967296)) + (IntKind.u64.wrap (a1)))) (IntKind.u64.wrap (ji31)))) > 4294967296 then (some (0, 0, 4)) else (if t124 < 0 then (tinderref01_Wide.j5 kj4 a0 t124 (wrap64 (-(wrap64 (IntKind.u64.wrap (Int.tdiv (IntKind.u64.wrap ((IntKind.u64.wrap ((IntKind.u64.wrap (a2)) * 4294967296)) + (IntKind.u64.wrap (a1)))) (IntKind.u64.wrap (ji31))))))) (wrap64 (Int.tmod (IntKind.u64.wrap ((IntKind.u64.wrap ((IntKind.u64.wrap (a2)) * 4294967296)) + (IntKind.u64.wrap (a1)))) (IntKind.u64.wrap (ji31))))) else (tinderref01_Wide.j5 kj4 a0 t124 (wrap64 (IntKind.u64.wrap (Int.tdiv (IntKind.u64.wrap ((IntKind.u64.wrap ((IntKind.u64.wrap (a2)) * 4294967296)) + (IntKind.u64.wrap (a1)))) (IntKind.u64.wrap (ji31))))) (wrap64 (Int.tmod (IntKind.u64.wrap ((IntKind.u64.wrap ((IntKind.u64.wrap (a2)) * 4294967296)) + (IntKind.u64.wrap (a1)))) (IntKind.u64.wrap (ji31)))))))) = some (r1, r2, r3) := by first | (rw [hji31] at H; exact H) | (simp only [hji31] at H ⊢; exact H)
              (try rw [hji31] at A30)
              have hji31_ : (if t124 < (wrap64 (-t124)) then (wrap64 (-t124)) else t124) = ji31 := hji31
              by_cases c32 : (IntKind.u64.wrap (ji31)) = 0
              · rw [if_pos c32] at H
                exact absurd H (by simp)
              · rw [if_neg c32] at H
                have c32b0 : ((IntKind.u64.wrap (ji31)) == 0) = false := beq_eq_false_iff_ne.mpr c32
                have c32b1 : ((IntKind.u64.wrap (ji31)) != 0) = true := bne_iff_ne.mpr c32
                by_cases c33 : (IntKind.u64.wrap (Int.tdiv (IntKind.u64.wrap ((IntKind.u64.wrap ((IntKind.u64.wrap (a2)) * 4294967296)) + (IntKind.u64.wrap (a1)))) (IntKind.u64.wrap (ji31)))) > 4294967296
                · rw [if_pos c33] at H
                  have c33b0 : decide (4294967296 < (IntKind.u64.wrap (Int.tdiv (IntKind.u64.wrap ((IntKind.u64.wrap ((IntKind.u64.wrap (a2)) * 4294967296)) + (IntKind.u64.wrap (a1)))) (IntKind.u64.wrap (ji31))))) = true := decide_eq_true c33
                  clear c33
                  simp only [Option.some.injEq, Prod.mk.injEq] at H
                  obtain ⟨rfl, rfl, rfl⟩ := H
                  go_wp2_with (first | (go_at_call 17; (with_reducible refine (tinderref01_Signed.calls a3 t124 _ A30.out).mono ?_); rintro e w' ⟨rfl, ⟨nd, rfl⟩⟩; (try first | exact ⟨rfl, _, World.drewN_drewN _ _ _⟩ | exact ⟨rfl, _, Eq.trans (World.drewN_drewN _ _ _) (congrArg (World.drewN _) (Nat.add_assoc _ _ _))⟩)))
                  repeat (go_quiet (first | (go_at_call 17; (with_reducible refine (tinderref01_Signed.calls a3 t124 _ A30.out).mono ?_); rintro e w' ⟨rfl, ⟨nd, rfl⟩⟩; (try first | exact ⟨rfl, _, World.drewN_drewN _ _ _⟩ | exact ⟨rfl, _, Eq.trans (World.drewN_drewN _ _ _) (congrArg (World.drewN _) (Nat.add_assoc _ _ _))⟩))); try go_wp2_with (first | (go_at_call 17; (with_reducible refine (tinderref01_Signed.calls a3 t124 _ A30.out).mono ?_); rintro e w' ⟨rfl, ⟨nd, rfl⟩⟩; (try first | exact ⟨rfl, _, World.drewN_drewN _ _ _⟩ | exact ⟨rfl, _, Eq.trans (World.drewN_drewN _ _ _) (congrArg (World.drewN _) (Nat.add_assoc _ _ _))⟩))))
                  go_ret3
                  exact ⟨by first | rfl | (simp [errW_none, errW_some] <;> rfl) | (simp only [← hji31]; first | rfl | (simp [errW_none, errW_some] <;> rfl)) | (simp [*, errW_none, errW_some] <;> rfl) | (simp [errW_none, errW_some] <;> omega) | (simp [*, errW_none, errW_some] <;> omega), by repeat (first | (with_reducible first | exact HB.out | apply below_alloc | apply pw_below_drewN | apply below_drew1) | exact HB.out)⟩
                · rw [if_neg c33] at H
                  have c33b0 : decide (4294967296 < (IntKind.u64.wrap (Int.tdiv (IntKind.u64.wrap ((IntKind.u64.wrap ((IntKind.u64.wrap (a2)) * 4294967296)) + (IntKind.u64.wrap (a1)))) (IntKind.u64.wrap (ji31))))) = false := decide_eq_false c33
                  clear c33
                  have HC34 := Aside0.mk H
                  clear H
                  go_upto_if 87 with (first | (go_at_call 17; (with_reducible refine (tinderref01_Signed.calls a3 t124 _ A30.out).mono ?_); rintro e w' ⟨rfl, ⟨nd, rfl⟩⟩; (try first | exact ⟨rfl, _, World.drewN_drewN _ _ _⟩ | exact ⟨rfl, _, Eq.trans (World.drewN_drewN _ _ _) (congrArg (World.drewN _) (Nat.add_assoc _ _ _))⟩)))
                  repeat (go_quiet (first | (go_at_call 17; (with_reducible refine (tinderref01_Signed.calls a3 t124 _ A30.out).mono ?_); rintro e w' ⟨rfl, ⟨nd, rfl⟩⟩; (try first | exact ⟨rfl, _, World.drewN_drewN _ _ _⟩ | exact ⟨rfl, _, Eq.trans (World.drewN_drewN _ _ _) (congrArg (World.drewN _) (Nat.add_assoc _ _ _))⟩))); go_upto_if 87 with (first | (go_at_call 17; (with_reducible refine (tinderref01_Signed.calls a3 t124 _ A30.out).mono ?_); rintro e w' ⟨rfl, ⟨nd, rfl⟩⟩; (try first | exact ⟨rfl, _, World.drewN_drewN _ _ _⟩ | exact ⟨rfl, _, Eq.trans (World.drewN_drewN _ _ _) (congrArg (World.drewN _) (Nat.add_assoc _ _ _))⟩))))
                  (try simp only [Act.put, List.setIfInBounds_toArray, List.set_cons_zero, List.set_cons_succ])
                  go_cut [18] (fun v18 wc => ∃ (kq : Nat) (x18_33 : Int), v18 = .int .i64 x18_33 ∧ Aside0 (tinderref01_Wide.j5 kq a0 t124 x18_33 (wrap64 (Int.tmod (IntKind.u64.wrap ((IntKind.u64.wrap ((IntKind.u64.wrap (a2)) * 4294967296)) + (IntKind.u64.wrap (a1)))) (IntKind.u64.wrap (ji31)))) = some (r1, r2, r3)) ∧ Aside0 (kq ≤ kj4) ∧ Aside0 (Below w.heap.size w wc))
                  case first =>
                    have H := HC34.out
                    clear HC34
                    by_cases c35 : t124 < 0
                    · rw [if_pos c35] at H
                      have c35b0 : decide (t124 < 0) = true := decide_eq_true c35
                      clear c35
                      (first | rw [c35b0] | (simp only [i64_w, i32_w]; rw [c35b0]) | skip)
                      have H' := Aside0.mk H
                      clear H
                      go_wp2
                      repeat (go_quiet (fail); try go_wp2)
                      go_meet
                      case rel => exact ⟨_, (wrap64 (-(wrap64 (IntKind.u64.wrap (Int.tdiv (IntKind.u64.wrap ((IntKind.u64.wrap ((IntKind.u64.wrap (a2)) * 4294967296)) + (IntKind.u64.wrap (a1)))) (IntKind.u64.wrap (ji31))))))), (by first | rfl | (simp; done) | (simp only [← hji31] <;> (first | rfl | simp)) | (simp [*]; done) | (simp <;> omega) | (simp [*] <;> omega)), H', ⟨by have := HJ4.out; first | omega | exact Nat.le_refl _⟩, ⟨by repeat (first | (with_reducible first | exact HB.out | apply below_alloc | apply pw_below_drewN | apply below_drew1) | exact HB.out)⟩⟩
                    · rw [if_neg c35] at H
                      have c35b0 : decide (t124 < 0) = false := decide_eq_false c35
                      clear c35
                      (first | rw [c35b0] | (simp only [i64_w, i32_w]; rw [c35b0]) | skip)
                      have H' := Aside0.mk H
                      clear H
                      go_wp2
                      repeat (go_quiet (fail); try go_wp2)
                      go_meet
                      case rel => exact ⟨_, (wrap64 (IntKind.u64.wrap (Int.tdiv (IntKind.u64.wrap ((IntKind.u64.wrap ((IntKind.u64.wrap (a2)) * 4294967296)) + (IntKind.u64.wrap (a1)))) (IntKind.u64.wrap (ji31))))), (by first | rfl | (simp; done) | (simp only [← hji31] <;> (first | rfl | simp)) | (simp [*]; done) | (simp <;> omega) | (simp [*] <;> omega)), H', ⟨by have := HJ4.out; first | omega | exact Nat.le_refl _⟩, ⟨by repeat (first | (with_reducible first | exact HB.out | apply below_alloc | apply pw_below_drewN | apply below_drew1) | exact HB.out)⟩⟩
                  case rest =>
                    clear HC34
                    try clear c1
                    try clear c2
                    try clear p2
                    try clear c3
                    try clear c6
                    try clear c6b0
                    try clear c6b1
                    try clear p6
                    try clear c7
                    try clear c7b0
                    try clear c7b1
                    try clear c8
                    try clear c9
                    try clear c9b0
                    try clear c9b1
                    try clear c10
                    try clear c10b0
                    try clear c10b1
                    try clear c11
                    try clear c11b0
                    try clear c11b1
                    try clear c12
                    try clear c12b0
                    try clear c13
                    try clear c13b0
                    try clear c16
                    try clear c16b0
                    try clear c16b1
                    try clear c17
                    try clear c17b0
                    try clear c19
                    try clear c19b0
                    try clear c21
                    try clear c21b0
                    try clear c21b1
                    try clear c22
                    try clear c22b0
                    try clear c22b1
                    try clear c24
                    try clear c26
                    try clear c26b0
                    try clear c27
                    try clear c32
                    try clear c32b0
                    try clear c32b1
                    try clear c33
                    try clear c33b0
                    try clear c35
                    try clear c35b0
                    try clear p2
                    try clear p6
                    obtain ⟨kq, x18_33, rfl, HA, HJ33, HB⟩ := hcut
                    cases kq with
                    | zero => exact absurd HA.out (by simp [tinderref01_Wide.j5])
                    | succ kj33 =>
                      have H := HA.out
                      clear HA
                      simp only [tinderref01_Wide.j5] at H
                      have HC36 := Aside0.mk H
                      clear H
                      go_upto_region 24 with (fail)
                      repeat (go_quiet (fail); go_upto_region 24 with (fail))
                      go_cut [102] (fun v102 wc => ∃ (kq : Nat) (x102_35 : Bool), v102 = .bool x102_35 ∧ Aside0 (tinderref01_Wide.j6 kq t124 x18_33 (wrap64 (Int.tmod (IntKind.u64.wrap ((IntKind.u64.wrap ((IntKind.u64.wrap (a2)) * 4294967296)) + (IntKind.u64.wrap (a1)))) (IntKind.u64.wrap (ji31)))) x102_35 = some (r1, r2, r3)) ∧ Aside0 (kq ≤ kj33) ∧ Aside0 (Below w.heap.size w wc))
                      case first =>
                        have H := HC36.out
                        clear HC36
                        by_cases c37 : a0 = 725
                        · rw [if_pos c37] at H
                          have c37b0 : (a0 == 725) = true := beq_iff_eq.mpr c37
                          have c37b1 : (a0 != 725) = false := bne_eq_false_iff_eq.mpr c37
                          clear c37
                          (first | rw [c37b0] | (simp only [i64_w, i32_w]; rw [c37b0]) | skip)
                          by_cases c38 : (wrap64 (Int.tmod (IntKind.u64.wrap ((IntKind.u64.wrap ((IntKind.u64.wrap (a2)) * 4294967296)) + (IntKind.u64.wrap (a1)))) (IntKind.u64.wrap (ji31)))) = 0
                          · rw [if_pos c38] at H
                            have c38b0 : ((wrap64 (Int.tmod (IntKind.u64.wrap ((IntKind.u64.wrap ((IntKind.u64.wrap (a2)) * 4294967296)) + (IntKind.u64.wrap (a1)))) (IntKind.u64.wrap (ji31)))) == 0) = true := beq_iff_eq.mpr c38
                            have c38b1 : ((wrap64 (Int.tmod (IntKind.u64.wrap ((IntKind.u64.wrap ((IntKind.u64.wrap (a2)) * 4294967296)) + (IntKind.u64.wrap (a1)))) (IntKind.u64.wrap (ji31)))) != 0) = false := bne_eq_false_iff_eq.mpr c38
                            clear c38
                            have H' := Aside0.mk H
                            clear H
                            go_wp2
                            repeat (go_quiet (fail); try go_wp2)
                            go_meet
                            case rel => exact ⟨_, (false), (by first | rfl | (simp; done) | (simp [*]; done) | (simp <;> omega) | (simp [*] <;> omega)), H', ⟨by have := HJ4.out; have := HJ33.out; first | omega | exact Nat.le_refl _⟩, ⟨by repeat (first | (with_reducible first | exact HB.out | apply below_alloc | apply pw_below_drewN | apply below_drew1) | exact HB.out)⟩⟩
                          · rw [if_neg c38] at H
                            have c38b0 : ((wrap64 (Int.tmod (IntKind.u64.wrap ((IntKind.u64.wrap ((IntKind.u64.wrap (a2)) * 4294967296)) + (IntKind.u64.wrap (a1)))) (IntKind.u64.wrap (ji31)))) == 0) = false := beq_eq_false_iff_ne.mpr c38
                            have c38b1 : ((wrap64 (Int.tmod (IntKind.u64.wrap ((IntKind.u64.wrap ((IntKind.u64.wrap (a2)) * 4294967296)) + (IntKind.u64.wrap (a1)))) (IntKind.u64.wrap (ji31)))) != 0) = true := bne_iff_ne.mpr c38
                            have H' := Aside0.mk H
                            clear H
                            go_wp2
                            repeat (go_quiet (fail); try go_wp2)
                            go_meet
                            case rel => exact ⟨_, (((decide ((wrap64 (Int.tmod (IntKind.u64.wrap ((IntKind.u64.wrap ((IntKind.u64.wrap (a2)) * 4294967296)) + (IntKind.u64.wrap (a1)))) (IntKind.u64.wrap (ji31)))) < 0)) != (decide (t124 < 0)))), (by first | rfl | (simp; done) | (simp only [← hji31] <;> (first | rfl | simp)) | (simp [*]; done) | (simp <;> omega) | (simp [*] <;> omega)), H', ⟨by have := HJ4.out; have := HJ33.out; first | omega | exact Nat.le_refl _⟩, ⟨by repeat (first | (with_reducible first | exact HB.out | apply below_alloc | apply pw_below_drewN | apply below_drew1) | exact HB.out)⟩⟩
                        · rw [if_neg c37] at H
                          have c37b0 : (a0 == 725) = false := beq_eq_false_iff_ne.mpr c37
                          have c37b1 : (a0 != 725) = true := bne_iff_ne.mpr c37
                          (first | rw [c37b0] | (simp only [i64_w, i32_w]; rw [c37b0]) | skip)
                          have H' := Aside0.mk H
                          clear H
                          go_wp2
                          repeat (go_quiet (fail); try go_wp2)
                          go_meet
                          case rel => exact ⟨_, (false), (by first | rfl | (simp; done) | (simp [*]; done) | (simp <;> omega) | (simp [*] <;> omega)), H', ⟨by have := HJ4.out; have := HJ33.out; first | omega | exact Nat.le_refl _⟩, ⟨by repeat (first | (with_reducible first | exact HB.out | apply below_alloc | apply pw_below_drewN | apply below_drew1) | exact HB.out)⟩⟩
                      case rest =>
                        clear HC36
                        try clear c1
                        try clear c2
                        try clear p2
                        try clear c3
                        try clear c6
                        try clear c6b0
                        try clear c6b1
                        try clear p6
                        try clear c7
                        try clear c7b0
                        try clear c7b1
                        try clear c8
                        try clear c9
                        try clear c9b0
                        try clear c9b1
                        try clear c10
                        try clear c10b0
                        try clear c10b1
                        try clear c11
                        try clear c11b0
                        try clear c11b1
                        try clear c12
                        try clear c12b0
                        try clear c13
                        try clear c13b0
                        try clear c16
                        try clear c16b0
                        try clear c16b1
                        try clear c17
                        try clear c17b0
                        try clear c19
                        try clear c19b0
                        try clear c21
                        try clear c21b0
                        try clear c21b1
                        try clear c22
                        try clear c22b0
                        try clear c22b1
                        try clear c24
                        try clear c26
                        try clear c26b0
                        try clear c27
                        try clear c32
                        try clear c32b0
                        try clear c32b1
                        try clear c33
                        try clear c33b0
                        try clear c35
                        try clear c35b0
                        try clear c37
                        try clear c37b0
                        try clear c37b1
                        try clear c38
                        try clear c38b0
                        try clear c38b1
                        try clear p2
                        try clear p6
                        obtain ⟨kq, x102_35, rfl, HA, HJ35, HB⟩ := hcut
                        cases kq with
                        | zero => exact absurd HA.out (by simp [tinderref01_Wide.j6])
                        | succ kj35 =>
                          have H := HA.out
                          clear HA
                          simp only [tinderref01_Wide.j6] at H
                          have HC39 := Aside0.mk H
                          clear H
                          go_upto_if 102 with (fail)
                          repeat (go_quiet (fail); go_upto_if 102 with (fail))
                          go_cut [18, 19] (fun v18 v19 wc => ∃ (kq : Nat) (x18_38 : Int) (x19_38 : Int), v18 = .int .i64 x18_38 ∧ v19 = .int .i64 x19_38 ∧ Aside0 (tinderref01_Wide.j7 kq x18_38 x19_38 = some (r1, r2, r3)) ∧ Aside0 (kq ≤ kj35) ∧ Aside0 (Below w.heap.size w wc))
                          case first =>
                            have H := HC39.out
                            clear HC39
                            by_cases c40 : x102_35 = true
                            · subst c40
                              have H1 : (tinderref01_Wide.j7 kj35 (wrap64 (x18_33 - 1)) (wrap64 ((wrap64 (Int.tmod (IntKind.u64.wrap ((IntKind.u64.wrap ((IntKind.u64.wrap (a2)) * 4294967296)) + (IntKind.u64.wrap (a1)))) (IntKind.u64.wrap (ji31)))) + t124))) = some (r1, r2, r3) := by rw [if_pos rfl] at H; exact H
                              clear H
                              have H := H1
                              clear H1
                              have H' := Aside0.mk H
                              clear H
                              go_wp2
                              repeat (go_quiet (fail); try go_wp2)
                              go_meet
                              case rel => exact ⟨_, (wrap64 (x18_33 - 1)), (wrap64 ((wrap64 (Int.tmod (IntKind.u64.wrap ((IntKind.u64.wrap ((IntKind.u64.wrap (a2)) * 4294967296)) + (IntKind.u64.wrap (a1)))) (IntKind.u64.wrap (ji31)))) + t124)), (by first | rfl | (simp; done) | (simp [*]; done) | (simp <;> omega) | (simp [*] <;> omega)), (by first | rfl | (simp; done) | (simp only [← hji31] <;> (first | rfl | simp)) | (simp [*]; done) | (simp <;> omega) | (simp [*] <;> omega)), H', ⟨by have := HJ4.out; have := HJ33.out; have := HJ35.out; first | omega | exact Nat.le_refl _⟩, ⟨by repeat (first | (with_reducible first | exact HB.out | apply below_alloc | apply pw_below_drewN | apply below_drew1) | exact HB.out)⟩⟩
                            · replace c40 := Bool.eq_false_iff.mpr c40
                              subst c40
                              have H1 : (tinderref01_Wide.j7 kj35 x18_33 (wrap64 (Int.tmod (IntKind.u64.wrap ((IntKind.u64.wrap ((IntKind.u64.wrap (a2)) * 4294967296)) + (IntKind.u64.wrap (a1)))) (IntKind.u64.wrap (ji31))))) = some (r1, r2, r3) := by rw [if_neg (show ¬ (false = true) by decide)] at H; exact H
                              clear H
                              have H := H1
                              clear H1
                              have H' := Aside0.mk H
                              clear H
                              go_wp2
                              repeat (go_quiet (fail); try go_wp2)
                              go_meet
                              case rel => exact ⟨_, (x18_33), ((wrap64 (Int.tmod (IntKind.u64.wrap ((IntKind.u64.wrap ((IntKind.u64.wrap (a2)) * 4294967296)) + (IntKind.u64.wrap (a1)))) (IntKind.u64.wrap (ji31))))), (by first | rfl | (simp; done) | (simp [*]; done) | (simp <;> omega) | (simp [*] <;> omega)), (by first | rfl | (simp; done) | (simp only [← hji31] <;> (first | rfl | simp)) | (simp [*]; done) | (simp <;> omega) | (simp [*] <;> omega)), H', ⟨by have := HJ4.out; have := HJ33.out; have := HJ35.out; first | omega | exact Nat.le_refl _⟩, ⟨by repeat (first | (with_reducible first | exact HB.out | apply below_alloc | apply pw_below_drewN | apply below_drew1) | exact HB.out)⟩⟩
                          case rest =>
                            clear HC39
                            try clear c1
                            try clear c2
                            try clear p2
                            try clear c3
                            try clear c4
                            try clear c6
                            try clear c6b0
                            try clear c6b1
                            try clear p6
                            try clear c7
                            try clear c7b0
                            try clear c7b1
                            try clear c8
                            try clear c9
                            try clear c9b0
                            try clear c9b1
                            try clear c10
                            try clear c10b0
                            try clear c10b1
                            try clear c11
                            try clear c11b0
                            try clear c11b1
                            try clear c12
                            try clear c12b0
                            try clear c13
                            try clear c13b0
                            try clear c16
                            try clear c16b0
                            try clear c16b1
                            try clear c17
                            try clear c17b0
                            try clear c19
                            try clear c19b0
                            try clear c21
                            try clear c21b0
                            try clear c21b1
                            try clear c22
                            try clear c22b0
                            try clear c22b1
                            try clear c24
                            try clear c26
                            try clear c26b0
                            try clear c27
                            try clear c32
                            try clear c32b0
                            try clear c32b1
                            try clear c33
                            try clear c33b0
                            try clear c35
                            try clear c35b0
                            try clear c37
                            try clear c37b0
                            try clear c37b1
                            try clear c38
                            try clear c38b0
                            try clear c38b1
                            try clear c40
                            try clear p2
                            try clear p6
                            obtain ⟨kq, x18_38, x19_38, rfl, rfl, HA, HJ38, HB⟩ := hcut
                            cases kq with
                            | zero => exact absurd HA.out (by simp [tinderref01_Wide.j7])
                            | succ kj38 =>
                              have H := HA.out
                              clear HA
                              simp only [tinderref01_Wide.j7] at H
                              have HC41 := Aside0.mk H
                              clear H
                              go_upto_region 26 with (fail)
                              repeat (go_quiet (fail); go_upto_region 26 with (fail))
                              go_cut [113] (fun v113 wc => ∃ (kq : Nat) (x113_40 : Bool), v113 = .bool x113_40 ∧ Aside0 (tinderref01_Wide.j8 kq x18_38 x19_38 x113_40 = some (r1, r2, r3)) ∧ Aside0 (kq ≤ kj38) ∧ Aside0 (Below w.heap.size w wc))
                              case first =>
                                have H := HC41.out
                                clear HC41
                                by_cases c42 : x18_38 < (-2147483648)
                                · rw [if_pos c42] at H
                                  have c42b0 : decide (x18_38 < (-2147483648)) = true := decide_eq_true c42
                                  clear c42
                                  (first | rw [c42b0] | (simp only [i64_w, i32_w]; rw [c42b0]) | skip)
                                  have H' := Aside0.mk H
                                  clear H
                                  go_wp2
                                  repeat (go_quiet (fail); try go_wp2)
                                  go_meet
                                  case rel => exact ⟨_, (true), (by first | rfl | (simp; done) | (simp [*]; done) | (simp <;> omega) | (simp [*] <;> omega)), H', ⟨by have := HJ4.out; have := HJ33.out; have := HJ35.out; have := HJ38.out; first | omega | exact Nat.le_refl _⟩, ⟨by repeat (first | (with_reducible first | exact HB.out | apply below_alloc | apply pw_below_drewN | apply below_drew1) | exact HB.out)⟩⟩
                                · rw [if_neg c42] at H
                                  have c42b0 : decide (x18_38 < (-2147483648)) = false := decide_eq_false c42
                                  clear c42
                                  (first | rw [c42b0] | (simp only [i64_w, i32_w]; rw [c42b0]) | skip)
                                  have H' := Aside0.mk H
                                  clear H
                                  go_wp2
                                  repeat (go_quiet (fail); try go_wp2)
                                  go_meet
                                  case rel => exact ⟨_, (decide (x18_38 ≥ 2147483648)), (by first | rfl | (simp; done) | (simp [*]; done) | (simp <;> omega) | (simp [*] <;> omega)), H', ⟨by have := HJ4.out; have := HJ33.out; have := HJ35.out; have := HJ38.out; first | omega | exact Nat.le_refl _⟩, ⟨by repeat (first | (with_reducible first | exact HB.out | apply below_alloc | apply pw_below_drewN | apply below_drew1) | exact HB.out)⟩⟩
                              case rest =>
                                clear HC41
                                try clear c1
                                try clear c2
                                try clear p2
                                try clear c3
                                try clear c4
                                try clear c6
                                try clear c6b0
                                try clear c6b1
                                try clear p6
                                try clear c7
                                try clear c7b0
                                try clear c7b1
                                try clear c8
                                try clear c9
                                try clear c9b0
                                try clear c9b1
                                try clear c10
                                try clear c10b0
                                try clear c10b1
                                try clear c11
                                try clear c11b0
                                try clear c11b1
                                try clear c12
                                try clear c12b0
                                try clear c13
                                try clear c13b0
                                try clear c16
                                try clear c16b0
                                try clear c16b1
                                try clear c17
                                try clear c17b0
                                try clear c19
                                try clear c19b0
                                try clear c21
                                try clear c21b0
                                try clear c21b1
                                try clear c22
                                try clear c22b0
                                try clear c22b1
                                try clear c24
                                try clear c26
                                try clear c26b0
                                try clear c27
                                try clear c32
                                try clear c32b0
                                try clear c32b1
                                try clear c33
                                try clear c33b0
                                try clear c35
                                try clear c35b0
                                try clear c37
                                try clear c37b0
                                try clear c37b1
                                try clear c38
                                try clear c38b0
                                try clear c38b1
                                try clear c40
                                try clear c42
                                try clear c42b0
                                try clear p2
                                try clear p6
                                obtain ⟨kq, x113_40, rfl, HA, HJ40, HB⟩ := hcut
                                cases kq with
                                | zero => exact absurd HA.out (by simp [tinderref01_Wide.j8])
                                | succ kj40 =>
                                  have H := HA.out
                                  clear HA
                                  simp only [tinderref01_Wide.j8] at H
                                  by_cases c43 : x113_40 = true
                                  · subst c43
                                    have H1 : (some (0, 0, 4)) = some (r1, r2, r3) := by rw [if_pos rfl] at H; exact H
                                    clear H
                                    have H := H1
                                    clear H1
                                    simp only [Option.some.injEq, Prod.mk.injEq] at H
                                    obtain ⟨rfl, rfl, rfl⟩ := H
                                    go_wp2
                                    repeat (go_quiet (fail); try go_wp2)
                                    go_ret3
                                    exact ⟨by first | rfl | (simp [errW_none, errW_some] <;> rfl) | (simp only [← hji31]; first | rfl | (simp [errW_none, errW_some] <;> rfl)) | (simp [*, errW_none, errW_some] <;> rfl) | (simp [errW_none, errW_some] <;> omega) | (simp [*, errW_none, errW_some] <;> omega), by repeat (first | (with_reducible first | exact HB.out | apply below_alloc | apply pw_below_drewN | apply below_drew1) | exact HB.out)⟩
                                  · replace c43 := Bool.eq_false_iff.mpr c43
                                    subst c43
                                    have H1 : ((tinderref01_Cell.f x18_38).bind fun t125 => ((tinderref01_Cell.f x19_38).bind fun t126 => (some (t125, t126, 0)))) = some (r1, r2, r3) := by rw [if_neg (show ¬ (false = true) by decide)] at H; exact H
                                    clear H
                                    have H := H1
                                    clear H1
                                    replace H := Option.bind_eq_some_iff.mp H
                                    obtain ⟨t125, A440, H⟩ := H
                                    replace H : ((tinderref01_Cell.f x19_38).bind fun t126 => (some (t125, t126, 0))) = some (r1, r2, r3) := H
                                    have A44 := Aside0.mk A440
                                    clear A440
                                    replace H := Option.bind_eq_some_iff.mp H
                                    obtain ⟨t126, A450, H⟩ := H
                                    replace H : (some (t125, t126, 0)) = some (r1, r2, r3) := H
                                    have A45 := Aside0.mk A450
                                    clear A450
                                    simp only [Option.some.injEq, Prod.mk.injEq] at H
                                    obtain ⟨rfl, rfl, rfl⟩ := H
                                    go_wp2_with (first | (go_at_call 33; (with_reducible refine (tinderref01_Cell.calls x18_38 t125 _ A44.out).mono ?_); rintro e w' ⟨rfl, ⟨nd, rfl⟩⟩; (try first | exact ⟨rfl, _, World.drewN_drewN _ _ _⟩ | exact ⟨rfl, _, Eq.trans (World.drewN_drewN _ _ _) (congrArg (World.drewN _) (Nat.add_assoc _ _ _))⟩)) | (go_at_call 33; (with_reducible refine (tinderref01_Cell.calls x19_38 t126 _ A45.out).mono ?_); rintro e w' ⟨rfl, ⟨nd, rfl⟩⟩; (try first | exact ⟨rfl, _, World.drewN_drewN _ _ _⟩ | exact ⟨rfl, _, Eq.trans (World.drewN_drewN _ _ _) (congrArg (World.drewN _) (Nat.add_assoc _ _ _))⟩)))
                                    repeat (go_quiet (first | (go_at_call 33; (with_reducible refine (tinderref01_Cell.calls x18_38 t125 _ A44.out).mono ?_); rintro e w' ⟨rfl, ⟨nd, rfl⟩⟩; (try first | exact ⟨rfl, _, World.drewN_drewN _ _ _⟩ | exact ⟨rfl, _, Eq.trans (World.drewN_drewN _ _ _) (congrArg (World.drewN _) (Nat.add_assoc _ _ _))⟩)) | (go_at_call 33; (with_reducible refine (tinderref01_Cell.calls x19_38 t126 _ A45.out).mono ?_); rintro e w' ⟨rfl, ⟨nd, rfl⟩⟩; (try first | exact ⟨rfl, _, World.drewN_drewN _ _ _⟩ | exact ⟨rfl, _, Eq.trans (World.drewN_drewN _ _ _) (congrArg (World.drewN _) (Nat.add_assoc _ _ _))⟩))); try go_wp2_with (first | (go_at_call 33; (with_reducible refine (tinderref01_Cell.calls x18_38 t125 _ A44.out).mono ?_); rintro e w' ⟨rfl, ⟨nd, rfl⟩⟩; (try first | exact ⟨rfl, _, World.drewN_drewN _ _ _⟩ | exact ⟨rfl, _, Eq.trans (World.drewN_drewN _ _ _) (congrArg (World.drewN _) (Nat.add_assoc _ _ _))⟩)) | (go_at_call 33; (with_reducible refine (tinderref01_Cell.calls x19_38 t126 _ A45.out).mono ?_); rintro e w' ⟨rfl, ⟨nd, rfl⟩⟩; (try first | exact ⟨rfl, _, World.drewN_drewN _ _ _⟩ | exact ⟨rfl, _, Eq.trans (World.drewN_drewN _ _ _) (congrArg (World.drewN _) (Nat.add_assoc _ _ _))⟩))))
                                    go_ret3
                                    exact ⟨by first | rfl | (simp [errW_none, errW_some] <;> rfl) | (simp only [← hji31]; first | rfl | (simp [errW_none, errW_some] <;> rfl)) | (simp [*, errW_none, errW_some] <;> rfl) | (simp [errW_none, errW_some] <;> omega) | (simp [*, errW_none, errW_some] <;> omega), by repeat (first | (with_reducible first | exact HB.out | apply below_alloc | apply pw_below_drewN | apply below_drew1) | exact HB.out)⟩

end Go.Proofs.Ytdjpodpibkcnaab.QCellWides
