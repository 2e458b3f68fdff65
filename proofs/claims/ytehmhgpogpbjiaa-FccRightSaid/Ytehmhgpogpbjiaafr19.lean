import Derived.Test.Ytehmhgpogpbjiaafr15
set_option linter.unusedVariables false
set_option linter.unusedSimpArgs false
set_option maxRecDepth 100000
set_option maxHeartbeats 8000000
namespace Go.Proofs.Ytehmhgpogpbjiaa.Fcc
open Go.RowKit Go.Proofs.YtehmhgpogpbjiaaW.PrintWords Go.Proofs.YtehmhgpogpbjiaaW.PrintLast Go.Proofs.YtehmhgpogpbjiaaW.PrintMore Go.Proofs.Ytehmhgpogpbjiaa.PFccTokens
def Yr (c : Int) : Int := if c = 16 then 1 else if c = 17 ∨ c = 195 then 2 else if c = 18 then 3 else if c = 19 ∨ c = 20 ∨ c = 21 ∨ c = 22 ∨ c = 23 ∨ c = 24 ∨ c = 28 ∨ c = 198 then 4 else if c = 181 then 5 else if c = 182 ∨ c = 202 then 6 else 0
def YP (c : Int) : Bool := decide (c = 0) || (decide (16 ≤ c) && decide (c ≤ 4095))
theorem Yu (c : Int) (w : World) : Calls Try.prog 79 #[.int .i64 c] w fun e w' => e = .returned (.int .i64 (Yr c)) ∧ w' = w := by
 by_cases h0 : c = 16
 ·subst h0
  go_enter Try.func79, Try.ntmps79
  go_wp2_with fail
  exact bodyPost_ret (v := .int .i64 1) Zs rfl ⟨rfl, rfl⟩
 by_cases h1 : c = 17
 ·subst h1
  clear h0
  go_enter Try.func79, Try.ntmps79
  go_wp2_with fail
  exact Z2p
 by_cases h2 : c = 195
 ·subst h2
  clear h0 h1
  go_enter Try.func79, Try.ntmps79
  go_wp2_with fail
  exact Z2p
 by_cases h3 : c = 18
 ·subst h3
  clear h0 h1 h2
  go_enter Try.func79, Try.ntmps79
  go_wp2_with fail
  exact bodyPost_ret (v := .int .i64 3) Zs rfl ⟨rfl, rfl⟩
 by_cases h4 : c = 19
 ·subst h4
  clear h0 h1 h2 h3
  go_enter Try.func79, Try.ntmps79
  go_wp2_with fail
  exact ZO
 by_cases h5 : c = 20
 ·subst h5
  clear h0 h1 h2 h3 h4
  go_enter Try.func79, Try.ntmps79
  go_wp2_with fail
  exact ZO
 by_cases h6 : c = 21
 ·subst h6
  clear h0 h1 h2 h3 h4 h5
  go_enter Try.func79, Try.ntmps79
  go_wp2_with fail
  exact ZO
 by_cases h7 : c = 22
 ·subst h7
  clear h0 h1 h2 h3 h4 h5 h6
  go_enter Try.func79, Try.ntmps79
  go_wp2_with fail
  exact ZO
 by_cases h8 : c = 23
 ·subst h8
  clear h0 h1 h2 h3 h4 h5 h6 h7
  go_enter Try.func79, Try.ntmps79
  go_wp2_with fail
  exact ZO
 by_cases h9 : c = 24
 ·subst h9
  clear h0 h1 h2 h3 h4 h5 h6 h7 h8
  go_enter Try.func79, Try.ntmps79
  go_wp2_with fail
  exact ZO
 by_cases h10 : c = 28
 ·subst h10
  clear h0 h1 h2 h3 h4 h5 h6 h7 h8 h9
  go_enter Try.func79, Try.ntmps79
  go_wp2_with fail
  exact ZO
 by_cases h11 : c = 198
 ·subst h11
  clear h0 h1 h2 h3 h4 h5 h6 h7 h8 h9 h10
  go_enter Try.func79, Try.ntmps79
  go_wp2_with fail
  exact ZO
 by_cases h12 : c = 181
 ·subst h12
  clear h0 h1 h2 h3 h4 h5 h6 h7 h8 h9 h10 h11
  go_enter Try.func79, Try.ntmps79
  go_wp2_with fail
  exact bodyPost_ret (v := .int .i64 5) Zs rfl ⟨rfl, rfl⟩
 by_cases h13 : c = 182
 ·subst h13
  clear h0 h1 h2 h3 h4 h5 h6 h7 h8 h9 h10 h11 h12
  go_enter Try.func79, Try.ntmps79
  go_wp2_with fail
  exact Z2q
 by_cases h14 : c = 202
 ·subst h14
  clear h0 h1 h2 h3 h4 h5 h6 h7 h8 h9 h10 h11 h12 h13
  go_enter Try.func79, Try.ntmps79
  go_wp2_with fail
  exact Z2q
 have hr : Yr c = 0 := by unfold Yr; simp only [h0, h1, h2, h3, h4, h5, h6, h7, h8, h9, h10, h11, h12, h13, h14, or_self, if_false]
 rw [hr]
 have b0 : (c == 16) = false := beq_eq_false_iff_ne.mpr h0
 have b1 : (c == 17) = false := beq_eq_false_iff_ne.mpr h1
 have b2 : (c == 195) = false := beq_eq_false_iff_ne.mpr h2
 have b3 : (c == 18) = false := beq_eq_false_iff_ne.mpr h3
 have b4 : (c == 19) = false := beq_eq_false_iff_ne.mpr h4
 have b5 : (c == 20) = false := beq_eq_false_iff_ne.mpr h5
 have b6 : (c == 21) = false := beq_eq_false_iff_ne.mpr h6
 have b7 : (c == 22) = false := beq_eq_false_iff_ne.mpr h7
 have b8 : (c == 23) = false := beq_eq_false_iff_ne.mpr h8
 have b9 : (c == 24) = false := beq_eq_false_iff_ne.mpr h9
 have b10 : (c == 28) = false := beq_eq_false_iff_ne.mpr h10
 have b11 : (c == 198) = false := beq_eq_false_iff_ne.mpr h11
 have b12 : (c == 181) = false := beq_eq_false_iff_ne.mpr h12
 have b13 : (c == 182) = false := beq_eq_false_iff_ne.mpr h13
 have b14 : (c == 202) = false := beq_eq_false_iff_ne.mpr h14
 clear hr h0 h1 h2 h3 h4 h5 h6 h7 h8 h9 h10 h11 h12 h13 h14
 go_enter Try.func79, Try.ntmps79
 go_wp2_with fail
 exact bodyPost_ret (v := .int .i64 0) Zs rfl ⟨rfl, rfl⟩
theorem YD (c : Int) (w : World) : Calls Try.prog 80 #[.int .i64 c] w fun e w' => e = .returned (.bool (YP c)) ∧ w' = w := by
 by_cases h0 : c = 0
 ·subst h0
  go_enter Try.func80, Try.ntmps80
  go_wp2_with fail
  exact Z2r
 ·have b0 : (c == 0) = false := beq_eq_false_iff_ne.mpr h0
  by_cases h1 : 16 ≤ c
  ·by_cases h2 : c ≤ 4095
   ·have hr : YP c = true := by unfold YP; simp [h1, h2]
    rw [hr]
    have d1 : decide (16 ≤ c) = true := decide_eq_true h1
    have d2 : decide (c ≤ 4095) = true := decide_eq_true h2
    clear hr h0
    go_enter Try.func80, Try.ntmps80
    go_wp2_with fail
    exact Z2r
   ·have hr : YP c = false := by unfold YP; simp [h0, h2]
    rw [hr]
    have d1 : decide (16 ≤ c) = true := decide_eq_true h1
    have d2 : decide (c ≤ 4095) = false := decide_eq_false h2
    clear hr h0
    go_enter Try.func80, Try.ntmps80
    go_wp2_with fail
    exact Z2s
  ·have hr : YP c = false := by unfold YP; simp [h0, h1]
   rw [hr]
   have d1 : decide (16 ≤ c) = false := decide_eq_false h1
   clear hr h0
   go_enter Try.func80, Try.ntmps80
   go_wp2_with fail
   exact Z2s
def rightP (t : Tk) (wide : Bool) : Bool :=
 YP t.f0 && (decide (Yr t.f0 = 4) || decide (t.f3 = 0)) && (decide (Yr t.f0 = 3) || decide (Yr t.f0 = 6) || decide (t.f2.toList = [])) &&
 (if Yr t.f0 = 1 then true else if Yr t.f0 = 2 then decide (t.f1 ≤ 4095) && YP t.f1 else if Yr t.f0 = 3 then decide (t.f1 = 0) && decide ((t.f2.size : Int) ≤ 255)
  else if Yr t.f0 = 4 then decide (t.f1 = 0) && decide (-(if wide then 32768 else 128) ≤ t.f3) && decide (t.f3 < (if wide then 32768 else 128))
  else if Yr t.f0 = 5 ∨ Yr t.f0 = 6 then decide (2048 ≤ t.f1) && decide (t.f1 ≤ 4095) && decide ((t.f2.size : Int) ≤ 31) else decide (t.f1 = 0))
theorem behindP_all (c : Int) : Yr c = 0 ∨ Yr c = 1 ∨ Yr c = 2 ∨ Yr c = 3 ∨ Yr c = 4 ∨ Yr c = 5 ∨ Yr c = 6 := by
 unfold Yr
 repeat' split
 all_goals simp
abbrev tv (t : Tk) : Value := .agg #[.int .i64 t.f0, .int .u32 t.f1, .string t.f2, .int .i64 t.f3]
theorem Ybu (t : Tk) (wide : Bool) (w : World) (hc : YP t.f0 = false) : Calls Try.prog 49 #[tv t, .bool wide] w fun e w' => e = .returned (.bool false) ∧ Below w.heap.size w w' := by
 obtain ⟨k, hk0⟩ : ∃ k, Yr t.f0 = k := ⟨_, rfl⟩
 have hk := Aside0.mk hk0
 have hcd := Aside0.mk hc
 have hcn := hcd
 clear hc hk0
 cases wide with
 | true =>
   go_enter Try.func49, Try.ntmps49
   go_wp2_with (first | ((with_reducible refine (Yu _ _).mono ?_); rintro e w1 ⟨rfl, rfl⟩; rw [hk.out]) | ((with_reducible refine (YD _ _).mono ?_); rintro e w1 ⟨rfl, rfl⟩; first | rw [hcd.out] | rw [hcn.out]))
   exact Zh
 | false =>
   go_enter Try.func49, Try.ntmps49
   go_wp2_with (first | ((with_reducible refine (Yu _ _).mono ?_); rintro e w1 ⟨rfl, rfl⟩; rw [hk.out]) | ((with_reducible refine (YD _ _).mono ?_); rintro e w1 ⟨rfl, rfl⟩; first | rw [hcd.out] | rw [hcn.out]))
   exact Zh
theorem right_0 (t : Tk) (wide : Bool) (w : World) (hc : YP t.f0 = true) (hk0 : Yr t.f0 = 0) (hn : 0 ≤ t.f1 ∧ t.f1 < 4294967296) : Calls Try.prog 49 #[tv t, .bool wide] w fun e w' => e = .returned (.bool (rightP t wide)) ∧ Below w.heap.size w w' := by
 have hk := Aside0.mk hk0
 have hcd := Aside0.mk hc
 have hcn := hcd
 clear hc hk0
 cases wide
 all_goals
  by_cases h3 : t.f3 = 0
  ·by_cases ht : t.f2.toList = ([] : List UInt8)
   ·by_cases hn0 : t.f1 = 0
    ·have hr : ∀ wd, rightP t wd = true := by intro wd; unfold rightP; rw [hk.out, hcd.out]; simp [h3, ht, hn0]
     rw [hr]
     have h31 : (t.f3 == 0) = true := beq_iff_eq.mpr h3
     have h32 : (t.f3 != 0) = false := by simp [h3]
     have ht1 : (t.f2.toList == ([] : List UInt8)) = true := beq_iff_eq.mpr ht
     have ht2 : (t.f2.toList != ([] : List UInt8)) = false := by simp [ht]
     have ht3 : t.f2.toList.isEmpty = true := by simp [ht]
     have ht4 : (!t.f2.toList.isEmpty) = false := by simp [ht]
     have hn01 : (t.f1 == 0) = true := beq_iff_eq.mpr hn0
     have hn02 : (t.f1 != 0) = false := by simp [hn0]
     clear hr h3 ht hn0
     go_enter Try.func49, Try.ntmps49
     go_wp2_with (first | ((with_reducible refine (Yu _ _).mono ?_); rintro e w1 ⟨rfl, rfl⟩; rw [hk.out]) | ((with_reducible refine (YD _ _).mono ?_); rintro e w1 ⟨rfl, rfl⟩; first | rw [hcd.out] | rw [hcn.out]))
     exact ZP
    ·have hr : ∀ wd, rightP t wd = false := by intro wd; unfold rightP; rw [hk.out, hcd.out]; simp [h3, ht, hn0]
     rw [hr]
     have h31 : (t.f3 == 0) = true := beq_iff_eq.mpr h3
     have h32 : (t.f3 != 0) = false := by simp [h3]
     have ht1 : (t.f2.toList == ([] : List UInt8)) = true := beq_iff_eq.mpr ht
     have ht2 : (t.f2.toList != ([] : List UInt8)) = false := by simp [ht]
     have ht3 : t.f2.toList.isEmpty = true := by simp [ht]
     have ht4 : (!t.f2.toList.isEmpty) = false := by simp [ht]
     have hn01 : (t.f1 == 0) = false := beq_eq_false_iff_ne.mpr hn0
     have hn02 : (t.f1 != 0) = true := bne_iff_ne.mpr hn0
     clear hr h3 ht hn0
     go_enter Try.func49, Try.ntmps49
     go_wp2_with (first | ((with_reducible refine (Yu _ _).mono ?_); rintro e w1 ⟨rfl, rfl⟩; rw [hk.out]) | ((with_reducible refine (YD _ _).mono ?_); rintro e w1 ⟨rfl, rfl⟩; first | rw [hcd.out] | rw [hcn.out]))
     exact Zh
   ·have hr : ∀ wd, rightP t wd = false := by intro wd; unfold rightP; rw [hk.out, hcd.out]; simp [h3, ht]
    rw [hr]
    have h31 : (t.f3 == 0) = true := beq_iff_eq.mpr h3
    have h32 : (t.f3 != 0) = false := by simp [h3]
    have ht1 : (t.f2.toList == ([] : List UInt8)) = false := beq_eq_false_iff_ne.mpr ht
    have ht2 : (t.f2.toList != ([] : List UInt8)) = true := bne_iff_ne.mpr ht
    have ht3 : t.f2.toList.isEmpty = false := by simp [ht]
    have ht4 : (!t.f2.toList.isEmpty) = true := by simp [ht]
    clear hr h3 ht
    go_enter Try.func49, Try.ntmps49
    go_wp2_with (first | ((with_reducible refine (Yu _ _).mono ?_); rintro e w1 ⟨rfl, rfl⟩; rw [hk.out]) | ((with_reducible refine (YD _ _).mono ?_); rintro e w1 ⟨rfl, rfl⟩; first | rw [hcd.out] | rw [hcn.out]))
    exact Zh
  ·have hr : ∀ wd, rightP t wd = false := by intro wd; unfold rightP; rw [hk.out, hcd.out]; simp [h3]
   rw [hr]
   have h31 : (t.f3 == 0) = false := beq_eq_false_iff_ne.mpr h3
   have h32 : (t.f3 != 0) = true := bne_iff_ne.mpr h3
   clear hr h3
   go_enter Try.func49, Try.ntmps49
   go_wp2_with (first | ((with_reducible refine (Yu _ _).mono ?_); rintro e w1 ⟨rfl, rfl⟩; rw [hk.out]) | ((with_reducible refine (YD _ _).mono ?_); rintro e w1 ⟨rfl, rfl⟩; first | rw [hcd.out] | rw [hcn.out]))
   exact Zh
theorem right_1 (t : Tk) (wide : Bool) (w : World) (hc : YP t.f0 = true) (hk0 : Yr t.f0 = 1) (hn : 0 ≤ t.f1 ∧ t.f1 < 4294967296) : Calls Try.prog 49 #[tv t, .bool wide] w fun e w' => e = .returned (.bool (rightP t wide)) ∧ Below w.heap.size w w' := by
 have hk := Aside0.mk hk0
 have hcd := Aside0.mk hc
 have hcn := hcd
 clear hc hk0
 cases wide
 all_goals
  by_cases h3 : t.f3 = 0
  ·by_cases ht : t.f2.toList = ([] : List UInt8)
   ·have hr : ∀ wd, rightP t wd = true := by intro wd; unfold rightP; rw [hk.out, hcd.out]; simp [h3, ht]
    rw [hr]
    have h31 : (t.f3 == 0) = true := beq_iff_eq.mpr h3
    have h32 : (t.f3 != 0) = false := by simp [h3]
    have ht1 : (t.f2.toList == ([] : List UInt8)) = true := beq_iff_eq.mpr ht
    have ht2 : (t.f2.toList != ([] : List UInt8)) = false := by simp [ht]
    have ht3 : t.f2.toList.isEmpty = true := by simp [ht]
    have ht4 : (!t.f2.toList.isEmpty) = false := by simp [ht]
    clear hr h3 ht
    go_enter Try.func49, Try.ntmps49
    go_wp2_with (first | ((with_reducible refine (Yu _ _).mono ?_); rintro e w1 ⟨rfl, rfl⟩; rw [hk.out]) | ((with_reducible refine (YD _ _).mono ?_); rintro e w1 ⟨rfl, rfl⟩; first | rw [hcd.out] | rw [hcn.out]))
    exact ZP
   ·have hr : ∀ wd, rightP t wd = false := by intro wd; unfold rightP; rw [hk.out, hcd.out]; simp [h3, ht]
    rw [hr]
    have h31 : (t.f3 == 0) = true := beq_iff_eq.mpr h3
    have h32 : (t.f3 != 0) = false := by simp [h3]
    have ht1 : (t.f2.toList == ([] : List UInt8)) = false := beq_eq_false_iff_ne.mpr ht
    have ht2 : (t.f2.toList != ([] : List UInt8)) = true := bne_iff_ne.mpr ht
    have ht3 : t.f2.toList.isEmpty = false := by simp [ht]
    have ht4 : (!t.f2.toList.isEmpty) = true := by simp [ht]
    clear hr h3 ht
    go_enter Try.func49, Try.ntmps49
    go_wp2_with (first | ((with_reducible refine (Yu _ _).mono ?_); rintro e w1 ⟨rfl, rfl⟩; rw [hk.out]) | ((with_reducible refine (YD _ _).mono ?_); rintro e w1 ⟨rfl, rfl⟩; first | rw [hcd.out] | rw [hcn.out]))
    exact Zh
  ·have hr : ∀ wd, rightP t wd = false := by intro wd; unfold rightP; rw [hk.out, hcd.out]; simp [h3]
   rw [hr]
   have h31 : (t.f3 == 0) = false := beq_eq_false_iff_ne.mpr h3
   have h32 : (t.f3 != 0) = true := bne_iff_ne.mpr h3
   clear hr h3
   go_enter Try.func49, Try.ntmps49
   go_wp2_with (first | ((with_reducible refine (Yu _ _).mono ?_); rintro e w1 ⟨rfl, rfl⟩; rw [hk.out]) | ((with_reducible refine (YD _ _).mono ?_); rintro e w1 ⟨rfl, rfl⟩; first | rw [hcd.out] | rw [hcn.out]))
   exact Zh
theorem right_3 (t : Tk) (wide : Bool) (w : World) (hc : YP t.f0 = true) (hk0 : Yr t.f0 = 3) (hn : 0 ≤ t.f1 ∧ t.f1 < 4294967296) : Calls Try.prog 49 #[tv t, .bool wide] w fun e w' => e = .returned (.bool (rightP t wide)) ∧ Below w.heap.size w w' := by
 have hk := Aside0.mk hk0
 have hcd := Aside0.mk hc
 have hcn := hcd
 clear hc hk0
 cases wide
 all_goals
  by_cases h3 : t.f3 = 0
  ·by_cases hn0 : t.f1 = 0
   ·by_cases hz : (t.f2.size : Int) ≤ 255
    ·have hr : ∀ wd, rightP t wd = true := by intro wd; unfold rightP; rw [hk.out, hcd.out]; simp [h3, hn0, hz]
     rw [hr]
     have h31 : (t.f3 == 0) = true := beq_iff_eq.mpr h3
     have h32 : (t.f3 != 0) = false := by simp [h3]
     have hn01 : (t.f1 == 0) = true := beq_iff_eq.mpr hn0
     have hn02 : (t.f1 != 0) = false := by simp [hn0]
     have hz1 : decide ((t.f2.size : Int) ≤ 255) = true := decide_eq_true hz
     clear hr h3 hn0 hz
     go_enter Try.func49, Try.ntmps49
     go_wp2_with (first | ((with_reducible refine (Yu _ _).mono ?_); rintro e w1 ⟨rfl, rfl⟩; rw [hk.out]) | ((with_reducible refine (YD _ _).mono ?_); rintro e w1 ⟨rfl, rfl⟩; first | rw [hcd.out] | rw [hcn.out]))
     exact ZP
    ·have hr : ∀ wd, rightP t wd = false := by intro wd; unfold rightP; rw [hk.out, hcd.out]; simp [h3, hn0, hz]
     rw [hr]
     have h31 : (t.f3 == 0) = true := beq_iff_eq.mpr h3
     have h32 : (t.f3 != 0) = false := by simp [h3]
     have hn01 : (t.f1 == 0) = true := beq_iff_eq.mpr hn0
     have hn02 : (t.f1 != 0) = false := by simp [hn0]
     have hz1 : decide ((t.f2.size : Int) ≤ 255) = false := decide_eq_false hz
     clear hr h3 hn0 hz
     go_enter Try.func49, Try.ntmps49
     go_wp2_with (first | ((with_reducible refine (Yu _ _).mono ?_); rintro e w1 ⟨rfl, rfl⟩; rw [hk.out]) | ((with_reducible refine (YD _ _).mono ?_); rintro e w1 ⟨rfl, rfl⟩; first | rw [hcd.out] | rw [hcn.out]))
     exact Zh
   ·have hr : ∀ wd, rightP t wd = false := by intro wd; unfold rightP; rw [hk.out, hcd.out]; simp [h3, hn0]
    rw [hr]
    have h31 : (t.f3 == 0) = true := beq_iff_eq.mpr h3
    have h32 : (t.f3 != 0) = false := by simp [h3]
    have hn01 : (t.f1 == 0) = false := beq_eq_false_iff_ne.mpr hn0
    have hn02 : (t.f1 != 0) = true := bne_iff_ne.mpr hn0
    clear hr h3 hn0
    go_enter Try.func49, Try.ntmps49
    go_wp2_with (first | ((with_reducible refine (Yu _ _).mono ?_); rintro e w1 ⟨rfl, rfl⟩; rw [hk.out]) | ((with_reducible refine (YD _ _).mono ?_); rintro e w1 ⟨rfl, rfl⟩; first | rw [hcd.out] | rw [hcn.out]))
    exact Zh
  ·have hr : ∀ wd, rightP t wd = false := by intro wd; unfold rightP; rw [hk.out, hcd.out]; simp [h3]
   rw [hr]
   have h31 : (t.f3 == 0) = false := beq_eq_false_iff_ne.mpr h3
   have h32 : (t.f3 != 0) = true := bne_iff_ne.mpr h3
   clear hr h3
   go_enter Try.func49, Try.ntmps49
   go_wp2_with (first | ((with_reducible refine (Yu _ _).mono ?_); rintro e w1 ⟨rfl, rfl⟩; rw [hk.out]) | ((with_reducible refine (YD _ _).mono ?_); rintro e w1 ⟨rfl, rfl⟩; first | rw [hcd.out] | rw [hcn.out]))
   exact Zh
theorem right_5 (t : Tk) (wide : Bool) (w : World) (hc : YP t.f0 = true) (hk0 : Yr t.f0 = 5) (hn : 0 ≤ t.f1 ∧ t.f1 < 4294967296) : Calls Try.prog 49 #[tv t, .bool wide] w fun e w' => e = .returned (.bool (rightP t wide)) ∧ Below w.heap.size w w' := by
 have hk := Aside0.mk hk0
 have hcd := Aside0.mk hc
 have hcn := hcd
 clear hc hk0
 cases wide
 all_goals
  by_cases h3 : t.f3 = 0
  ·by_cases ht : t.f2.toList = ([] : List UInt8)
   ·by_cases hl : 2048 ≤ t.f1
    ·by_cases hu : t.f1 ≤ 4095
     ·by_cases hz : (t.f2.size : Int) ≤ 31
      ·have hr : ∀ wd, rightP t wd = true := by intro wd; unfold rightP; rw [hk.out, hcd.out]; simp [h3, ht, hl, hu, hz]
       rw [hr]
       have h31 : (t.f3 == 0) = true := beq_iff_eq.mpr h3
       have h32 : (t.f3 != 0) = false := by simp [h3]
       have ht1 : (t.f2.toList == ([] : List UInt8)) = true := beq_iff_eq.mpr ht
       have ht2 : (t.f2.toList != ([] : List UInt8)) = false := by simp [ht]
       have ht3 : t.f2.toList.isEmpty = true := by simp [ht]
       have ht4 : (!t.f2.toList.isEmpty) = false := by simp [ht]
       have hl1 : decide (2048 ≤ t.f1) = true := decide_eq_true hl
       have hu1 : decide (t.f1 ≤ 4095) = true := decide_eq_true hu
       have hz1 : decide ((t.f2.size : Int) ≤ 31) = true := decide_eq_true hz
       clear hr h3 ht hl hu hz
       go_enter Try.func49, Try.ntmps49
       go_wp2_with (first | ((with_reducible refine (Yu _ _).mono ?_); rintro e w1 ⟨rfl, rfl⟩; rw [hk.out]) | ((with_reducible refine (YD _ _).mono ?_); rintro e w1 ⟨rfl, rfl⟩; first | rw [hcd.out] | rw [hcn.out]))
       exact ZP
      ·have hr : ∀ wd, rightP t wd = false := by intro wd; unfold rightP; rw [hk.out, hcd.out]; simp [h3, ht, hl, hu, hz]
       rw [hr]
       have h31 : (t.f3 == 0) = true := beq_iff_eq.mpr h3
       have h32 : (t.f3 != 0) = false := by simp [h3]
       have ht1 : (t.f2.toList == ([] : List UInt8)) = true := beq_iff_eq.mpr ht
       have ht2 : (t.f2.toList != ([] : List UInt8)) = false := by simp [ht]
       have ht3 : t.f2.toList.isEmpty = true := by simp [ht]
       have ht4 : (!t.f2.toList.isEmpty) = false := by simp [ht]
       have hl1 : decide (2048 ≤ t.f1) = true := decide_eq_true hl
       have hu1 : decide (t.f1 ≤ 4095) = true := decide_eq_true hu
       have hz1 : decide ((t.f2.size : Int) ≤ 31) = false := decide_eq_false hz
       clear hr h3 ht hl hu hz
       go_enter Try.func49, Try.ntmps49
       go_wp2_with (first | ((with_reducible refine (Yu _ _).mono ?_); rintro e w1 ⟨rfl, rfl⟩; rw [hk.out]) | ((with_reducible refine (YD _ _).mono ?_); rintro e w1 ⟨rfl, rfl⟩; first | rw [hcd.out] | rw [hcn.out]))
       exact Zh
     ·have hr : ∀ wd, rightP t wd = false := by intro wd; unfold rightP; rw [hk.out, hcd.out]; simp [h3, ht, hl, hu]
      rw [hr]
      have h31 : (t.f3 == 0) = true := beq_iff_eq.mpr h3
      have h32 : (t.f3 != 0) = false := by simp [h3]
      have ht1 : (t.f2.toList == ([] : List UInt8)) = true := beq_iff_eq.mpr ht
      have ht2 : (t.f2.toList != ([] : List UInt8)) = false := by simp [ht]
      have ht3 : t.f2.toList.isEmpty = true := by simp [ht]
      have ht4 : (!t.f2.toList.isEmpty) = false := by simp [ht]
      have hl1 : decide (2048 ≤ t.f1) = true := decide_eq_true hl
      have hu1 : decide (t.f1 ≤ 4095) = false := decide_eq_false hu
      clear hr h3 ht hl hu
      go_enter Try.func49, Try.ntmps49
      go_wp2_with (first | ((with_reducible refine (Yu _ _).mono ?_); rintro e w1 ⟨rfl, rfl⟩; rw [hk.out]) | ((with_reducible refine (YD _ _).mono ?_); rintro e w1 ⟨rfl, rfl⟩; first | rw [hcd.out] | rw [hcn.out]))
      exact Zh
    ·have hr : ∀ wd, rightP t wd = false := by intro wd; unfold rightP; rw [hk.out, hcd.out]; simp [h3, ht, hl]
     rw [hr]
     have h31 : (t.f3 == 0) = true := beq_iff_eq.mpr h3
     have h32 : (t.f3 != 0) = false := by simp [h3]
     have ht1 : (t.f2.toList == ([] : List UInt8)) = true := beq_iff_eq.mpr ht
     have ht2 : (t.f2.toList != ([] : List UInt8)) = false := by simp [ht]
     have ht3 : t.f2.toList.isEmpty = true := by simp [ht]
     have ht4 : (!t.f2.toList.isEmpty) = false := by simp [ht]
     have hl1 : decide (2048 ≤ t.f1) = false := decide_eq_false hl
     clear hr h3 ht hl
     go_enter Try.func49, Try.ntmps49
     go_wp2_with (first | ((with_reducible refine (Yu _ _).mono ?_); rintro e w1 ⟨rfl, rfl⟩; rw [hk.out]) | ((with_reducible refine (YD _ _).mono ?_); rintro e w1 ⟨rfl, rfl⟩; first | rw [hcd.out] | rw [hcn.out]))
     exact Zh
   ·have hr : ∀ wd, rightP t wd = false := by intro wd; unfold rightP; rw [hk.out, hcd.out]; simp [h3, ht]
    rw [hr]
    have h31 : (t.f3 == 0) = true := beq_iff_eq.mpr h3
    have h32 : (t.f3 != 0) = false := by simp [h3]
    have ht1 : (t.f2.toList == ([] : List UInt8)) = false := beq_eq_false_iff_ne.mpr ht
    have ht2 : (t.f2.toList != ([] : List UInt8)) = true := bne_iff_ne.mpr ht
    have ht3 : t.f2.toList.isEmpty = false := by simp [ht]
    have ht4 : (!t.f2.toList.isEmpty) = true := by simp [ht]
    clear hr h3 ht
    go_enter Try.func49, Try.ntmps49
    go_wp2_with (first | ((with_reducible refine (Yu _ _).mono ?_); rintro e w1 ⟨rfl, rfl⟩; rw [hk.out]) | ((with_reducible refine (YD _ _).mono ?_); rintro e w1 ⟨rfl, rfl⟩; first | rw [hcd.out] | rw [hcn.out]))
    exact Zh
  ·have hr : ∀ wd, rightP t wd = false := by intro wd; unfold rightP; rw [hk.out, hcd.out]; simp [h3]
   rw [hr]
   have h31 : (t.f3 == 0) = false := beq_eq_false_iff_ne.mpr h3
   have h32 : (t.f3 != 0) = true := bne_iff_ne.mpr h3
   clear hr h3
   go_enter Try.func49, Try.ntmps49
   go_wp2_with (first | ((with_reducible refine (Yu _ _).mono ?_); rintro e w1 ⟨rfl, rfl⟩; rw [hk.out]) | ((with_reducible refine (YD _ _).mono ?_); rintro e w1 ⟨rfl, rfl⟩; first | rw [hcd.out] | rw [hcn.out]))
   exact Zh
theorem right_6 (t : Tk) (wide : Bool) (w : World) (hc : YP t.f0 = true) (hk0 : Yr t.f0 = 6) (hn : 0 ≤ t.f1 ∧ t.f1 < 4294967296) : Calls Try.prog 49 #[tv t, .bool wide] w fun e w' => e = .returned (.bool (rightP t wide)) ∧ Below w.heap.size w w' := by
 have hk := Aside0.mk hk0
 have hcd := Aside0.mk hc
 have hcn := hcd
 clear hc hk0
 cases wide
 all_goals
  by_cases h3 : t.f3 = 0
  ·by_cases hl : 2048 ≤ t.f1
   ·by_cases hu : t.f1 ≤ 4095
    ·by_cases hz : (t.f2.size : Int) ≤ 31
     ·have hr : ∀ wd, rightP t wd = true := by intro wd; unfold rightP; rw [hk.out, hcd.out]; simp [h3, hl, hu, hz]
      rw [hr]
      have h31 : (t.f3 == 0) = true := beq_iff_eq.mpr h3
      have h32 : (t.f3 != 0) = false := by simp [h3]
      have hl1 : decide (2048 ≤ t.f1) = true := decide_eq_true hl
      have hu1 : decide (t.f1 ≤ 4095) = true := decide_eq_true hu
      have hz1 : decide ((t.f2.size : Int) ≤ 31) = true := decide_eq_true hz
      clear hr h3 hl hu hz
      go_enter Try.func49, Try.ntmps49
      go_wp2_with (first | ((with_reducible refine (Yu _ _).mono ?_); rintro e w1 ⟨rfl, rfl⟩; rw [hk.out]) | ((with_reducible refine (YD _ _).mono ?_); rintro e w1 ⟨rfl, rfl⟩; first | rw [hcd.out] | rw [hcn.out]))
      exact ZP
     ·have hr : ∀ wd, rightP t wd = false := by intro wd; unfold rightP; rw [hk.out, hcd.out]; simp [h3, hl, hu, hz]
      rw [hr]
      have h31 : (t.f3 == 0) = true := beq_iff_eq.mpr h3
      have h32 : (t.f3 != 0) = false := by simp [h3]
      have hl1 : decide (2048 ≤ t.f1) = true := decide_eq_true hl
      have hu1 : decide (t.f1 ≤ 4095) = true := decide_eq_true hu
      have hz1 : decide ((t.f2.size : Int) ≤ 31) = false := decide_eq_false hz
      clear hr h3 hl hu hz
      go_enter Try.func49, Try.ntmps49
      go_wp2_with (first | ((with_reducible refine (Yu _ _).mono ?_); rintro e w1 ⟨rfl, rfl⟩; rw [hk.out]) | ((with_reducible refine (YD _ _).mono ?_); rintro e w1 ⟨rfl, rfl⟩; first | rw [hcd.out] | rw [hcn.out]))
      exact Zh
    ·have hr : ∀ wd, rightP t wd = false := by intro wd; unfold rightP; rw [hk.out, hcd.out]; simp [h3, hl, hu]
     rw [hr]
     have h31 : (t.f3 == 0) = true := beq_iff_eq.mpr h3
     have h32 : (t.f3 != 0) = false := by simp [h3]
     have hl1 : decide (2048 ≤ t.f1) = true := decide_eq_true hl
     have hu1 : decide (t.f1 ≤ 4095) = false := decide_eq_false hu
     clear hr h3 hl hu
     go_enter Try.func49, Try.ntmps49
     go_wp2_with (first | ((with_reducible refine (Yu _ _).mono ?_); rintro e w1 ⟨rfl, rfl⟩; rw [hk.out]) | ((with_reducible refine (YD _ _).mono ?_); rintro e w1 ⟨rfl, rfl⟩; first | rw [hcd.out] | rw [hcn.out]))
     exact Zh
   ·have hr : ∀ wd, rightP t wd = false := by intro wd; unfold rightP; rw [hk.out, hcd.out]; simp [h3, hl]
    rw [hr]
    have h31 : (t.f3 == 0) = true := beq_iff_eq.mpr h3
    have h32 : (t.f3 != 0) = false := by simp [h3]
    have hl1 : decide (2048 ≤ t.f1) = false := decide_eq_false hl
    clear hr h3 hl
    go_enter Try.func49, Try.ntmps49
    go_wp2_with (first | ((with_reducible refine (Yu _ _).mono ?_); rintro e w1 ⟨rfl, rfl⟩; rw [hk.out]) | ((with_reducible refine (YD _ _).mono ?_); rintro e w1 ⟨rfl, rfl⟩; first | rw [hcd.out] | rw [hcn.out]))
    exact Zh
  ·have hr : ∀ wd, rightP t wd = false := by intro wd; unfold rightP; rw [hk.out, hcd.out]; simp [h3]
   rw [hr]
   have h31 : (t.f3 == 0) = false := beq_eq_false_iff_ne.mpr h3
   have h32 : (t.f3 != 0) = true := bne_iff_ne.mpr h3
   clear hr h3
   go_enter Try.func49, Try.ntmps49
   go_wp2_with (first | ((with_reducible refine (Yu _ _).mono ?_); rintro e w1 ⟨rfl, rfl⟩; rw [hk.out]) | ((with_reducible refine (YD _ _).mono ?_); rintro e w1 ⟨rfl, rfl⟩; first | rw [hcd.out] | rw [hcn.out]))
   exact Zh
theorem right_2 (t : Tk) (wide : Bool) (w : World) (hc : YP t.f0 = true) (hk0 : Yr t.f0 = 2) (hn : 0 ≤ t.f1 ∧ t.f1 < 4294967296) : Calls Try.prog 49 #[tv t, .bool wide] w fun e w' => e = .returned (.bool (rightP t wide)) ∧ Below w.heap.size w w' := by
 have hk := Aside0.mk hk0
 have hcd := Aside0.mk hc
 have hcn := hcd
 clear hc hk0
 cases wide
 all_goals
  by_cases h3 : t.f3 = 0
  ·by_cases ht : t.f2.toList = ([] : List UInt8)
   ·by_cases hu : t.f1 ≤ 4095
    ·cases hcq : YP t.f1 with
     | true =>
       have hcn := Aside0.mk hcq
       have hr : ∀ wd, rightP t wd = true := by intro wd; unfold rightP; rw [hk.out, hcd.out]; simp [h3, ht, hu, hcq]
       rw [hr]
       have h31 : (t.f3 == 0) = true := beq_iff_eq.mpr h3
       have h32 : (t.f3 != 0) = false := by simp [h3]
       have ht1 : (t.f2.toList == ([] : List UInt8)) = true := beq_iff_eq.mpr ht
       have ht2 : (t.f2.toList != ([] : List UInt8)) = false := by simp [ht]
       have ht3 : t.f2.toList.isEmpty = true := by simp [ht]
       have ht4 : (!t.f2.toList.isEmpty) = false := by simp [ht]
       have hu1 : decide (t.f1 ≤ 4095) = true := decide_eq_true hu
       clear hr h3 ht hu
       go_enter Try.func49, Try.ntmps49
       go_wp2_with (first | ((with_reducible refine (Yu _ _).mono ?_); rintro e w1 ⟨rfl, rfl⟩; rw [hk.out]) | ((with_reducible refine (YD _ _).mono ?_); rintro e w1 ⟨rfl, rfl⟩; first | rw [hcd.out] | rw [hcn.out]))
       exact ZP
     | false =>
       have hcn := Aside0.mk hcq
       have hr : ∀ wd, rightP t wd = false := by intro wd; unfold rightP; rw [hk.out, hcd.out]; simp [h3, ht, hu, hcq]
       rw [hr]
       have h31 : (t.f3 == 0) = true := beq_iff_eq.mpr h3
       have h32 : (t.f3 != 0) = false := by simp [h3]
       have ht1 : (t.f2.toList == ([] : List UInt8)) = true := beq_iff_eq.mpr ht
       have ht2 : (t.f2.toList != ([] : List UInt8)) = false := by simp [ht]
       have ht3 : t.f2.toList.isEmpty = true := by simp [ht]
       have ht4 : (!t.f2.toList.isEmpty) = false := by simp [ht]
       have hu1 : decide (t.f1 ≤ 4095) = true := decide_eq_true hu
       clear hr h3 ht hu
       go_enter Try.func49, Try.ntmps49
       go_wp2_with (first | ((with_reducible refine (Yu _ _).mono ?_); rintro e w1 ⟨rfl, rfl⟩; rw [hk.out]) | ((with_reducible refine (YD _ _).mono ?_); rintro e w1 ⟨rfl, rfl⟩; first | rw [hcd.out] | rw [hcn.out]))
       exact Zh
    ·have hr : ∀ wd, rightP t wd = false := by intro wd; unfold rightP; rw [hk.out, hcd.out]; simp [h3, ht, hu]
     rw [hr]
     have h31 : (t.f3 == 0) = true := beq_iff_eq.mpr h3
     have h32 : (t.f3 != 0) = false := by simp [h3]
     have ht1 : (t.f2.toList == ([] : List UInt8)) = true := beq_iff_eq.mpr ht
     have ht2 : (t.f2.toList != ([] : List UInt8)) = false := by simp [ht]
     have ht3 : t.f2.toList.isEmpty = true := by simp [ht]
     have ht4 : (!t.f2.toList.isEmpty) = false := by simp [ht]
     have hu1 : decide (t.f1 ≤ 4095) = false := decide_eq_false hu
     clear hr h3 ht hu
     go_enter Try.func49, Try.ntmps49
     go_wp2_with (first | ((with_reducible refine (Yu _ _).mono ?_); rintro e w1 ⟨rfl, rfl⟩; rw [hk.out]) | ((with_reducible refine (YD _ _).mono ?_); rintro e w1 ⟨rfl, rfl⟩; first | rw [hcd.out] | rw [hcn.out]))
     exact Zh
   ·have hr : ∀ wd, rightP t wd = false := by intro wd; unfold rightP; rw [hk.out, hcd.out]; simp [h3, ht]
    rw [hr]
    have h31 : (t.f3 == 0) = true := beq_iff_eq.mpr h3
    have h32 : (t.f3 != 0) = false := by simp [h3]
    have ht1 : (t.f2.toList == ([] : List UInt8)) = false := beq_eq_false_iff_ne.mpr ht
    have ht2 : (t.f2.toList != ([] : List UInt8)) = true := bne_iff_ne.mpr ht
    have ht3 : t.f2.toList.isEmpty = false := by simp [ht]
    have ht4 : (!t.f2.toList.isEmpty) = true := by simp [ht]
    clear hr h3 ht
    go_enter Try.func49, Try.ntmps49
    go_wp2_with (first | ((with_reducible refine (Yu _ _).mono ?_); rintro e w1 ⟨rfl, rfl⟩; rw [hk.out]) | ((with_reducible refine (YD _ _).mono ?_); rintro e w1 ⟨rfl, rfl⟩; first | rw [hcd.out] | rw [hcn.out]))
    exact Zh
  ·have hr : ∀ wd, rightP t wd = false := by intro wd; unfold rightP; rw [hk.out, hcd.out]; simp [h3]
   rw [hr]
   have h31 : (t.f3 == 0) = false := beq_eq_false_iff_ne.mpr h3
   have h32 : (t.f3 != 0) = true := bne_iff_ne.mpr h3
   clear hr h3
   go_enter Try.func49, Try.ntmps49
   go_wp2_with (first | ((with_reducible refine (Yu _ _).mono ?_); rintro e w1 ⟨rfl, rfl⟩; rw [hk.out]) | ((with_reducible refine (YD _ _).mono ?_); rintro e w1 ⟨rfl, rfl⟩; first | rw [hcd.out] | rw [hcn.out]))
   exact Zh
theorem right_4 (t : Tk) (wide : Bool) (w : World) (hc : YP t.f0 = true) (hk0 : Yr t.f0 = 4) (hn : 0 ≤ t.f1 ∧ t.f1 < 4294967296) : Calls Try.prog 49 #[tv t, .bool wide] w fun e w' => e = .returned (.bool (rightP t wide)) ∧ Below w.heap.size w w' := by
 have hk := Aside0.mk hk0
 have hcd := Aside0.mk hc
 have hcn := hcd
 clear hc hk0
 cases wide with
 | true =>
   by_cases ht : t.f2.toList = ([] : List UInt8)
   ·by_cases hn0 : t.f1 = 0
    ·by_cases hl : -32768 ≤ t.f3
     ·by_cases hu : t.f3 < 32768
      ·have hr : rightP t true = true := by unfold rightP; rw [hk.out, hcd.out]; simp [ht, hn0, hl, hu]
       rw [hr]
       have ht1 : (t.f2.toList == ([] : List UInt8)) = true := beq_iff_eq.mpr ht
       have ht2 : (t.f2.toList != ([] : List UInt8)) = false := by simp [ht]
       have ht3 : t.f2.toList.isEmpty = true := by simp [ht]
       have ht4 : (!t.f2.toList.isEmpty) = false := by simp [ht]
       have hn01 : (t.f1 == 0) = true := beq_iff_eq.mpr hn0
       have hn02 : (t.f1 != 0) = false := by simp [hn0]
       have hl1 : decide (-32768 ≤ t.f3) = true := decide_eq_true hl
       have hu1 : decide (t.f3 < 32768) = true := decide_eq_true hu
       clear hr ht hn0 hl hu
       go_enter Try.func49, Try.ntmps49
       go_wp2_with (first | ((with_reducible refine (Yu _ _).mono ?_); rintro e w1 ⟨rfl, rfl⟩; rw [hk.out]) | ((with_reducible refine (YD _ _).mono ?_); rintro e w1 ⟨rfl, rfl⟩; first | rw [hcd.out] | rw [hcn.out]))
       exact ZP
      ·have hr : rightP t true = false := by unfold rightP; rw [hk.out, hcd.out]; simp [ht, hn0, hl, hu]
       rw [hr]
       have ht1 : (t.f2.toList == ([] : List UInt8)) = true := beq_iff_eq.mpr ht
       have ht2 : (t.f2.toList != ([] : List UInt8)) = false := by simp [ht]
       have ht3 : t.f2.toList.isEmpty = true := by simp [ht]
       have ht4 : (!t.f2.toList.isEmpty) = false := by simp [ht]
       have hn01 : (t.f1 == 0) = true := beq_iff_eq.mpr hn0
       have hn02 : (t.f1 != 0) = false := by simp [hn0]
       have hl1 : decide (-32768 ≤ t.f3) = true := decide_eq_true hl
       have hu1 : decide (t.f3 < 32768) = false := decide_eq_false hu
       clear hr ht hn0 hl hu
       go_enter Try.func49, Try.ntmps49
       go_wp2_with (first | ((with_reducible refine (Yu _ _).mono ?_); rintro e w1 ⟨rfl, rfl⟩; rw [hk.out]) | ((with_reducible refine (YD _ _).mono ?_); rintro e w1 ⟨rfl, rfl⟩; first | rw [hcd.out] | rw [hcn.out]))
       exact Zh
     ·have hr : rightP t true = false := by unfold rightP; rw [hk.out, hcd.out]; simp [ht, hn0, hl]
      rw [hr]
      have ht1 : (t.f2.toList == ([] : List UInt8)) = true := beq_iff_eq.mpr ht
      have ht2 : (t.f2.toList != ([] : List UInt8)) = false := by simp [ht]
      have ht3 : t.f2.toList.isEmpty = true := by simp [ht]
      have ht4 : (!t.f2.toList.isEmpty) = false := by simp [ht]
      have hn01 : (t.f1 == 0) = true := beq_iff_eq.mpr hn0
      have hn02 : (t.f1 != 0) = false := by simp [hn0]
      have hl1 : decide (-32768 ≤ t.f3) = false := decide_eq_false hl
      clear hr ht hn0 hl
      go_enter Try.func49, Try.ntmps49
      go_wp2_with (first | ((with_reducible refine (Yu _ _).mono ?_); rintro e w1 ⟨rfl, rfl⟩; rw [hk.out]) | ((with_reducible refine (YD _ _).mono ?_); rintro e w1 ⟨rfl, rfl⟩; first | rw [hcd.out] | rw [hcn.out]))
      exact Zh
    ·have hr : rightP t true = false := by unfold rightP; rw [hk.out, hcd.out]; simp [ht, hn0]
     rw [hr]
     have ht1 : (t.f2.toList == ([] : List UInt8)) = true := beq_iff_eq.mpr ht
     have ht2 : (t.f2.toList != ([] : List UInt8)) = false := by simp [ht]
     have ht3 : t.f2.toList.isEmpty = true := by simp [ht]
     have ht4 : (!t.f2.toList.isEmpty) = false := by simp [ht]
     have hn01 : (t.f1 == 0) = false := beq_eq_false_iff_ne.mpr hn0
     have hn02 : (t.f1 != 0) = true := bne_iff_ne.mpr hn0
     clear hr ht hn0
     go_enter Try.func49, Try.ntmps49
     go_wp2_with (first | ((with_reducible refine (Yu _ _).mono ?_); rintro e w1 ⟨rfl, rfl⟩; rw [hk.out]) | ((with_reducible refine (YD _ _).mono ?_); rintro e w1 ⟨rfl, rfl⟩; first | rw [hcd.out] | rw [hcn.out]))
     exact Zh
   ·have hr : rightP t true = false := by unfold rightP; rw [hk.out, hcd.out]; simp [ht]
    rw [hr]
    have ht1 : (t.f2.toList == ([] : List UInt8)) = false := beq_eq_false_iff_ne.mpr ht
    have ht2 : (t.f2.toList != ([] : List UInt8)) = true := bne_iff_ne.mpr ht
    have ht3 : t.f2.toList.isEmpty = false := by simp [ht]
    have ht4 : (!t.f2.toList.isEmpty) = true := by simp [ht]
    clear hr ht
    go_enter Try.func49, Try.ntmps49
    go_wp2_with (first | ((with_reducible refine (Yu _ _).mono ?_); rintro e w1 ⟨rfl, rfl⟩; rw [hk.out]) | ((with_reducible refine (YD _ _).mono ?_); rintro e w1 ⟨rfl, rfl⟩; first | rw [hcd.out] | rw [hcn.out]))
    exact Zh
 | false =>
   by_cases ht : t.f2.toList = ([] : List UInt8)
   ·by_cases hn0 : t.f1 = 0
    ·by_cases hl : -128 ≤ t.f3
     ·by_cases hu : t.f3 < 128
      ·have hr : rightP t false = true := by unfold rightP; rw [hk.out, hcd.out]; simp [ht, hn0, hl, hu]
       rw [hr]
       have ht1 : (t.f2.toList == ([] : List UInt8)) = true := beq_iff_eq.mpr ht
       have ht2 : (t.f2.toList != ([] : List UInt8)) = false := by simp [ht]
       have ht3 : t.f2.toList.isEmpty = true := by simp [ht]
       have ht4 : (!t.f2.toList.isEmpty) = false := by simp [ht]
       have hn01 : (t.f1 == 0) = true := beq_iff_eq.mpr hn0
       have hn02 : (t.f1 != 0) = false := by simp [hn0]
       have hl1 : decide (-128 ≤ t.f3) = true := decide_eq_true hl
       have hu1 : decide (t.f3 < 128) = true := decide_eq_true hu
       clear hr ht hn0 hl hu
       go_enter Try.func49, Try.ntmps49
       go_wp2_with (first | ((with_reducible refine (Yu _ _).mono ?_); rintro e w1 ⟨rfl, rfl⟩; rw [hk.out]) | ((with_reducible refine (YD _ _).mono ?_); rintro e w1 ⟨rfl, rfl⟩; first | rw [hcd.out] | rw [hcn.out]))
       exact ZP
      ·have hr : rightP t false = false := by unfold rightP; rw [hk.out, hcd.out]; simp [ht, hn0, hl, hu]
       rw [hr]
       have ht1 : (t.f2.toList == ([] : List UInt8)) = true := beq_iff_eq.mpr ht
       have ht2 : (t.f2.toList != ([] : List UInt8)) = false := by simp [ht]
       have ht3 : t.f2.toList.isEmpty = true := by simp [ht]
       have ht4 : (!t.f2.toList.isEmpty) = false := by simp [ht]
       have hn01 : (t.f1 == 0) = true := beq_iff_eq.mpr hn0
       have hn02 : (t.f1 != 0) = false := by simp [hn0]
       have hl1 : decide (-128 ≤ t.f3) = true := decide_eq_true hl
       have hu1 : decide (t.f3 < 128) = false := decide_eq_false hu
       clear hr ht hn0 hl hu
       go_enter Try.func49, Try.ntmps49
       go_wp2_with (first | ((with_reducible refine (Yu _ _).mono ?_); rintro e w1 ⟨rfl, rfl⟩; rw [hk.out]) | ((with_reducible refine (YD _ _).mono ?_); rintro e w1 ⟨rfl, rfl⟩; first | rw [hcd.out] | rw [hcn.out]))
       exact Zh
     ·have hr : rightP t false = false := by unfold rightP; rw [hk.out, hcd.out]; simp [ht, hn0, hl]
      rw [hr]
      have ht1 : (t.f2.toList == ([] : List UInt8)) = true := beq_iff_eq.mpr ht
      have ht2 : (t.f2.toList != ([] : List UInt8)) = false := by simp [ht]
      have ht3 : t.f2.toList.isEmpty = true := by simp [ht]
      have ht4 : (!t.f2.toList.isEmpty) = false := by simp [ht]
      have hn01 : (t.f1 == 0) = true := beq_iff_eq.mpr hn0
      have hn02 : (t.f1 != 0) = false := by simp [hn0]
      have hl1 : decide (-128 ≤ t.f3) = false := decide_eq_false hl
      clear hr ht hn0 hl
      go_enter Try.func49, Try.ntmps49
      go_wp2_with (first | ((with_reducible refine (Yu _ _).mono ?_); rintro e w1 ⟨rfl, rfl⟩; rw [hk.out]) | ((with_reducible refine (YD _ _).mono ?_); rintro e w1 ⟨rfl, rfl⟩; first | rw [hcd.out] | rw [hcn.out]))
      exact Zh
    ·have hr : rightP t false = false := by unfold rightP; rw [hk.out, hcd.out]; simp [ht, hn0]
     rw [hr]
     have ht1 : (t.f2.toList == ([] : List UInt8)) = true := beq_iff_eq.mpr ht
     have ht2 : (t.f2.toList != ([] : List UInt8)) = false := by simp [ht]
     have ht3 : t.f2.toList.isEmpty = true := by simp [ht]
     have ht4 : (!t.f2.toList.isEmpty) = false := by simp [ht]
     have hn01 : (t.f1 == 0) = false := beq_eq_false_iff_ne.mpr hn0
     have hn02 : (t.f1 != 0) = true := bne_iff_ne.mpr hn0
     clear hr ht hn0
     go_enter Try.func49, Try.ntmps49
     go_wp2_with (first | ((with_reducible refine (Yu _ _).mono ?_); rintro e w1 ⟨rfl, rfl⟩; rw [hk.out]) | ((with_reducible refine (YD _ _).mono ?_); rintro e w1 ⟨rfl, rfl⟩; first | rw [hcd.out] | rw [hcn.out]))
     exact Zh
   ·have hr : rightP t false = false := by unfold rightP; rw [hk.out, hcd.out]; simp [ht]
    rw [hr]
    have ht1 : (t.f2.toList == ([] : List UInt8)) = false := beq_eq_false_iff_ne.mpr ht
    have ht2 : (t.f2.toList != ([] : List UInt8)) = true := bne_iff_ne.mpr ht
    have ht3 : t.f2.toList.isEmpty = false := by simp [ht]
    have ht4 : (!t.f2.toList.isEmpty) = true := by simp [ht]
    clear hr ht
    go_enter Try.func49, Try.ntmps49
    go_wp2_with (first | ((with_reducible refine (Yu _ _).mono ?_); rintro e w1 ⟨rfl, rfl⟩; rw [hk.out]) | ((with_reducible refine (YD _ _).mono ?_); rintro e w1 ⟨rfl, rfl⟩; first | rw [hcd.out] | rw [hcn.out]))
    exact Zh
theorem Jb (t : Tk) (wide : Bool) (w : World) (hn : 0 ≤ t.f1 ∧ t.f1 < 4294967296) : Calls Try.prog 49 #[tv t, .bool wide] w fun e w' => e = .returned (.bool (rightP t wide)) ∧ Below w.heap.size w w' := by
 cases hc : YP t.f0 with
 | false =>
   have hr : rightP t wide = false := by unfold rightP; rw [hc]; rfl
   rw [hr]
   exact Ybu t wide w hc
 | true =>
   rcases behindP_all t.f0 with h | h | h | h | h | h | h
   ·exact right_0 t wide w hc h hn
   ·exact right_1 t wide w hc h hn
   ·exact right_2 t wide w hc h hn
   ·exact right_3 t wide w hc h hn
   ·exact right_4 t wide w hc h hn
   ·exact right_5 t wide w hc h hn
   ·exact right_6 t wide w hc h hn
end Go.Proofs.Ytehmhgpogpbjiaa.Fcc
