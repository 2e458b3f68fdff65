import Derived.Test.Ytehmhgpogpbjiaafr23
set_option linter.unusedVariables false
set_option linter.unusedSimpArgs false
set_option maxRecDepth 100000
set_option maxHeartbeats 8000000
namespace Go.Proofs.Ytehmhgpogpbjiaa.PFccTokens
open Go.RowKit Go.Proofs.YtehmhgpogpbjiaaW.PrintWords Go.Proofs.YtehmhgpogpbjiaaW.PrintLast Go.Proofs.YtehmhgpogpbjiaaW.PrintMore
attribute [local go_sem] Vx Vv VV VU Ve Vd Vw Vu
def YE.l0 : Nat → ByteArray → Int → Option (Bool)
 | 0, _, _ => none
 | k + 1, x0, x3 => if x3 < (x0.size : Int) then (if 0 ≤ x3 then (if (bt x0 x3) < 33 then (some false) else (if (bt x0 x3) > 126 then (some false) else (if (bt x0 x3) ≥ 65 then (if (bt x0 x3) ≤ 90 then (some false) else (YE.l0 k x0 (wrap64 (x3 + 1)))) else (YE.l0 k x0 (wrap64 (x3 + 1)))))) else (none)) else (if (x0.size : Int) ≥ 1 then (some (decide ((x0.size : Int) ≤ 31))) else (some false))
def YE.f (k : Nat) (a0 : ByteArray) : Option (Bool) := YE.l0 k a0 0
theorem YE.mono_l : ∀ k, (∀ y0 y1, LeO (YE.l0 k y0 y1) (YE.l0 (k + 1) y0 y1))
 | 0 => fun _ _ r h => by simp [YE.l0] at h
 | k + 1 => by
  have ih0 := YE.mono_l k
  ·intro y0 y1
   unfold YE.l0
   exact XI
theorem YE.mono : ∀ a0 k, LeO (YE.f k a0) (YE.f (k + 1) a0) := by
 intro a0 k
 have ih0 := YE.mono_l k
 unfold YE.f
 exact XI
theorem YE.calls (k : Nat) (a0 : ByteArray) (r : Bool) (w : World) (h : YE.f k a0 = some r) :
 Calls Try.prog 94 #[.string a0] w fun e w' => e = .returned (.bool r) ∧ YZ w w' := by
 have H : (YE.l0 k a0 0) = some r := h
 clear h
 have H' := Aside0.mk H
 clear H
 go_enter Try.func94, Try.ntmps94
 go_wp2
 go_loopg [3] k (fun kq v3 w' => ∃ (x3_1 : Int), v3 = .int .i64 x3_1 ∧ Aside0 (YE.l0 kq a0 x3_1 = some r) ∧ Aside0 (kq ≤ k) ∧ YZ w w')
 case atStart => exact ⟨(0), Z4, H', ⟨Nat.le_refl _⟩, Z8⟩
 case round =>
  clear H'
  obtain ⟨x3_1, rfl, HA, HK1, ⟨m1, rfl⟩⟩ := hrel
  cases gk with
  | zero => exact absurd HA.out (by simp [YE.l0])
  | succ k1 =>
   have H := HA.out
   clear HA
   simp only [YE.l0] at H
   by_cases c2 : x3_1 < (a0.size : Int)
   ·rw [if_pos c2] at H
    have c2b0 := decide_eq_true c2
    clear c2
    by_cases c3 : 0 ≤ x3_1
    ·rw [if_pos c3] at H
     have c3b0 := decide_eq_true c3
     clear c3
     by_cases c5 : (bt a0 x3_1) < 33
     ·rw [if_pos c5] at H
      have c5b0 := decide_eq_true c5
      clear c5
      obtain rfl := Option.some.inj H
      have p4 : 0 ≤ (x3_1 : Int) := of_decide_eq_true Z5
      have q4 : x3_1 < (a0.size : Int) := of_decide_eq_true Z5
      have hx4 := XD a0 x3_1
      replace p4 := eq_true p4
      replace q4 := eq_true q4
      go_wp2
      go_ret
      exact Zc
     ·rw [if_neg c5] at H
      have c5b0 := decide_eq_false c5
      clear c5
      by_cases c7 : (bt a0 x3_1) > 126
      ·rw [if_pos c7] at H
       have c7b0 := decide_eq_true c7
       clear c7
       obtain rfl := Option.some.inj H
       have p4 : 0 ≤ (x3_1 : Int) := of_decide_eq_true Z5
       have q4 : x3_1 < (a0.size : Int) := of_decide_eq_true Z5
       have hx4 := XD a0 x3_1
       replace p4 := eq_true p4
       replace q4 := eq_true q4
       have p6 : 0 ≤ (x3_1 : Int) := of_decide_eq_true Z5
       have q6 : x3_1 < (a0.size : Int) := of_decide_eq_true Z5
       have hx6 := XD a0 x3_1
       replace p6 := eq_true p6
       replace q6 := eq_true q6
       go_wp2
       go_ret
       exact Zc
      ·rw [if_neg c7] at H
       have c7b0 := decide_eq_false c7
       clear c7
       by_cases c9 : (bt a0 x3_1) ≥ 65
       ·rw [if_pos c9] at H
        have c9b0 := decide_eq_true c9
        clear c9
        by_cases c11 : (bt a0 x3_1) ≤ 90
        ·rw [if_pos c11] at H
         have c11b0 := decide_eq_true c11
         clear c11
         obtain rfl := Option.some.inj H
         have p4 : 0 ≤ (x3_1 : Int) := of_decide_eq_true Z5
         have q4 : x3_1 < (a0.size : Int) := of_decide_eq_true Z5
         have hx4 := XD a0 x3_1
         replace p4 := eq_true p4
         replace q4 := eq_true q4
         have p6 : 0 ≤ (x3_1 : Int) := of_decide_eq_true Z5
         have q6 : x3_1 < (a0.size : Int) := of_decide_eq_true Z5
         have hx6 := XD a0 x3_1
         replace p6 := eq_true p6
         replace q6 := eq_true q6
         have p8 : 0 ≤ (x3_1 : Int) := of_decide_eq_true Z5
         have q8 : x3_1 < (a0.size : Int) := of_decide_eq_true Z5
         have hx8 := XD a0 x3_1
         replace p8 := eq_true p8
         replace q8 := eq_true q8
         have p10 : 0 ≤ (x3_1 : Int) := of_decide_eq_true Z5
         have q10 : x3_1 < (a0.size : Int) := of_decide_eq_true Z5
         have hx10 := XD a0 x3_1
         replace p10 := eq_true p10
         replace q10 := eq_true q10
         go_wp2
         go_ret
         exact Zc
        ·rw [if_neg c11] at H
         have c11b0 := decide_eq_false c11
         clear c11
         have H' := Aside0.mk H
         clear H
         have p4 : 0 ≤ (x3_1 : Int) := of_decide_eq_true Z5
         have q4 : x3_1 < (a0.size : Int) := of_decide_eq_true Z5
         have hx4 := XD a0 x3_1
         replace p4 := eq_true p4
         replace q4 := eq_true q4
         have p6 : 0 ≤ (x3_1 : Int) := of_decide_eq_true Z5
         have q6 : x3_1 < (a0.size : Int) := of_decide_eq_true Z5
         have hx6 := XD a0 x3_1
         replace p6 := eq_true p6
         replace q6 := eq_true q6
         have p8 : 0 ≤ (x3_1 : Int) := of_decide_eq_true Z5
         have q8 : x3_1 < (a0.size : Int) := of_decide_eq_true Z5
         have hx8 := XD a0 x3_1
         replace p8 := eq_true p8
         replace q8 := eq_true q8
         have p10 : 0 ≤ (x3_1 : Int) := of_decide_eq_true Z5
         have q10 : x3_1 < (a0.size : Int) := of_decide_eq_true Z5
         have hx10 := XD a0 x3_1
         replace p10 := eq_true p10
         replace q10 := eq_true q10
         go_wp2
         go_roundg k1
         case measure => have := HK1.out; omega
         case rel => exact ⟨(wrap64 (x3_1 + 1)), Z4, H', ⟨(Zo HK1.out)⟩, Z8⟩
       ·rw [if_neg c9] at H
        have c9b0 := decide_eq_false c9
        clear c9
        have H' := Aside0.mk H
        clear H
        have p4 : 0 ≤ (x3_1 : Int) := of_decide_eq_true Z5
        have q4 : x3_1 < (a0.size : Int) := of_decide_eq_true Z5
        have hx4 := XD a0 x3_1
        replace p4 := eq_true p4
        replace q4 := eq_true q4
        have p6 : 0 ≤ (x3_1 : Int) := of_decide_eq_true Z5
        have q6 : x3_1 < (a0.size : Int) := of_decide_eq_true Z5
        have hx6 := XD a0 x3_1
        replace p6 := eq_true p6
        replace q6 := eq_true q6
        have p8 : 0 ≤ (x3_1 : Int) := of_decide_eq_true Z5
        have q8 : x3_1 < (a0.size : Int) := of_decide_eq_true Z5
        have hx8 := XD a0 x3_1
        replace p8 := eq_true p8
        replace q8 := eq_true q8
        go_wp2
        go_roundg k1
        case measure => have := HK1.out; omega
        case rel => exact ⟨(wrap64 (x3_1 + 1)), Z4, H', ⟨(Zo HK1.out)⟩, Z8⟩
    ·rw [if_neg c3] at H
     exact absurd H Z3
   ·rw [if_neg c2] at H
    have c2b0 := decide_eq_false c2
    clear c2
    by_cases c12 : (a0.size : Int) ≥ 1
    ·rw [if_pos c12] at H
     have c12b0 := decide_eq_true c12
     have c12b1 : decide (1 ≤ a0.size) = true := decide_eq_true Z0
     clear c12
     obtain rfl := Option.some.inj H
     go_wp2
     go_ret
     exact Zc
    ·rw [if_neg c12] at H
     have c12b0 := decide_eq_false c12
     have c12b1 : decide (1 ≤ a0.size) = false := decide_eq_false Z0
     clear c12
     obtain rfl := Option.some.inj H
     go_wp2
     go_ret
     exact Zc
mutual
def Yg.j0 : Nat → ByteArray → Int → Bool → Option (Int × Int)
 | 0, _, _, _ => none
 | k + 1, x0, x1, x17 => if x17 = true then (some (0, 1)) else (if (x0.size : Int) > 0 then (if 0 < (x0.size : Int) then (Yg.j1 k x0 x1 ((bt x0 0) == 45)) else (none)) else (Yg.j1 k x0 x1 false))
def Yg.j1 : Nat → ByteArray → Int → Bool → Option (Int × Int)
 | 0, _, _, _ => none
 | k + 1, x0, x1, x6 => if x6 = true then (if 1 ≤ (x0.size : Int) then (Yg.j2 k (x0.extract 1 x0.size) x1 x6) else (none)) else (Yg.j2 k x0 x1 x6)
def Yg.j2 : Nat → ByteArray → Int → Bool → Option (Int × Int)
 | 0, _, _, _ => none
 | k + 1, x0, x1, x6 => if (x0.size : Int) = 0 then (some (0, 15)) else (Yg.l0 k x0 x1 x6 0 false 0)
def Yg.l0 : Nat → ByteArray → Int → Bool → Int → Bool → Int → Option (Int × Int)
 | 0, _, _, _, _, _, _ => none
 | k + 1, x0, x1, x6, x7, x8, x9 => if x9 < (x0.size : Int) then (if 0 ≤ x9 then ((Yi.f k (bt x0 x9) x1).bind fun bt469 => (if bt469.2 = true then (if x8 = true then (Yg.l0 k x0 x1 x6 x7 x8 (wrap64 (x9 + 1))) else (Yg.l0 k x0 x1 x6 (IntKind.u64.wrap ((IntKind.u64.wrap (x7 * (IntKind.u64.wrap (x1)))) + (IntKind.u64.wrap (bt469.1)))) (decide ((IntKind.u64.wrap ((IntKind.u64.wrap (x7 * (IntKind.u64.wrap (x1)))) + (IntKind.u64.wrap (bt469.1)))) ≥ 4294967296)) (wrap64 (x9 + 1)))) else (some (0, 15)))) else (none)) else (if x8 = true then (some (0, 4)) else (if x6 = true then (some ((Int.tmod (IntKind.u64.wrap (4294967296 - x7)) 4294967296) % 4294967296, 0)) else (some ((x7) % 4294967296, 0))))
end
def Yg.f (k : Nat) (a0 : ByteArray) (a1 : Int) : Option (Int × Int) := if a1 < 2 then (Yg.j0 k a0 a1 true) else (Yg.j0 k a0 a1 (decide (a1 > 36)))
theorem Yg.mono_l : ∀ k, (∀ y0 y1 y2, LeO (Yg.j0 k y0 y1 y2) (Yg.j0 (k + 1) y0 y1 y2)) ∧ (∀ y0 y1 y2, LeO (Yg.j1 k y0 y1 y2) (Yg.j1 (k + 1) y0 y1 y2)) ∧ (∀ y0 y1 y2, LeO (Yg.j2 k y0 y1 y2) (Yg.j2 (k + 1) y0 y1 y2)) ∧ (∀ y0 y1 y2 y3 y4 y5, LeO (Yg.l0 k y0 y1 y2 y3 y4 y5) (Yg.l0 (k + 1) y0 y1 y2 y3 y4 y5))
 | 0 => ⟨fun _ _ _ r h => by simp [Yg.j0] at h, fun _ _ _ r h => by simp [Yg.j1] at h, fun _ _ _ r h => by simp [Yg.j2] at h, fun _ _ _ _ _ _ r h => by simp [Yg.l0] at h⟩
 | k + 1 => by
  obtain ⟨ih0, ih1, ih2, ih3⟩ := Yg.mono_l k
  refine ⟨?_, ?_, ?_, ?_⟩
  ·intro y0 y1 y2
   unfold Yg.j0
   have ih7 := @Yi.mono; exact XI
  ·intro y0 y1 y2
   unfold Yg.j1
   have ih7 := @Yi.mono; exact XI
  ·intro y0 y1 y2
   unfold Yg.j2
   have ih7 := @Yi.mono; exact XI
  ·intro y0 y1 y2 y3 y4 y5
   unfold Yg.l0
   have ih7 := @Yi.mono; exact XI
theorem Yg.mono : ∀ a0 a1 k, LeO (Yg.f k a0 a1) (Yg.f (k + 1) a0 a1) := by
 intro a0 a1 k
 obtain ⟨ih0, ih1, ih2, ih3⟩ := Yg.mono_l k
 unfold Yg.f
 have ih7 := @Yi.mono; exact XI
theorem Yg.calls (k : Nat) (a0 : ByteArray) (a1 : Int) (r1 : Int) (r2 : Int) (w : World) (h : Yg.f k a0 a1 = some (r1, r2)) :
 Calls Try.prog 78 #[.string a0, .int .u32 a1] w fun e w' => e = .returned (.tuple #[.int .u32 r1, .int .i64 r2]) ∧ YZ w w' := by
 have H : (if a1 < 2 then (Yg.j0 k a0 a1 true) else (Yg.j0 k a0 a1 (decide (a1 > 36)))) = some (r1, r2) := h
 clear h
 have HC3 := Aside0.mk H
 clear H
 go_enter Try.func78, Try.ntmps78
 go_upto_region 1 with (fail)
 go_cut [17] (fun v17 wc => ∃ (kq : Nat) (x17_2 : Bool), v17 = .bool x17_2 ∧ Aside0 (Yg.j0 kq a0 a1 x17_2 = some (r1, r2)) ∧ Aside0 (kq ≤ k) ∧ YZ w wc)
 case first =>
  have H := HC3.out
  clear HC3
  by_cases c4 : a1 < 2
  ·rw [if_pos c4] at H
   have c4b0 := decide_eq_true c4
   clear c4
   (first | rw [c4b0] | (simp only [YH, YJ]; rw [c4b0]) | skip)
   have H' := Aside0.mk H
   clear H
   go_wp2
   go_meet
   case rel => exact ⟨_, (true), Z4, H', ⟨ZD⟩, Z8⟩
  ·rw [if_neg c4] at H
   have c4b0 := decide_eq_false c4
   clear c4
   (first | rw [c4b0] | (simp only [YH, YJ]; rw [c4b0]) | skip)
   have H' := Aside0.mk H
   clear H
   go_wp2
   go_meet
   case rel => exact ⟨_, (decide (a1 > 36)), Z4, H', ⟨ZD⟩, Z8⟩
 case rest =>
  clear HC3
  try clear p2
  try clear c4
  try clear c4b0
  obtain ⟨kq, x17_2, rfl, HA, HJ2, ⟨mc2, rfl⟩⟩ := hcut
  cases kq with
  | zero => exact absurd HA.out (by simp [Yg.j0])
  | succ kj2 =>
   have H := HA.out
   clear HA
   simp only [Yg.j0] at H
   by_cases c5 : x17_2 = true
   ·subst c5
    rw [if_pos rfl] at H
    simp only [Option.some.injEq, Prod.mk.injEq] at H
    obtain ⟨rfl, rfl⟩ := H
    go_wp2
    go_ret2
    exact Zc
   ·replace c5 := Bool.eq_false_iff.mpr c5
    subst c5
    rw [if_neg Z1] at H
    have HC6 := Aside0.mk H
    clear H
    go_upto_region 3 with (fail)
    go_cut [6] (fun v6 wc => ∃ (kq : Nat) (x6_5 : Bool), v6 = .bool x6_5 ∧ Aside0 (Yg.j1 kq a0 a1 x6_5 = some (r1, r2)) ∧ Aside0 (kq ≤ kj2) ∧ YZ w wc)
    case first =>
     have H := HC6.out
     clear HC6
     by_cases c7 : (a0.size : Int) > 0
     ·rw [if_pos c7] at H
      have c7b0 := decide_eq_true c7
      have c7b1 : decide (0 < a0.size) = true := decide_eq_true Z0
      clear c7
      (first | rw [c7b0] | (simp only [YH, YJ]; rw [c7b0]) | skip)
      by_cases c8 : 0 < (a0.size : Int)
      ·rw [if_pos c8] at H
       have c8b0 := decide_eq_true c8
       have c8b1 : decide (0 < a0.size) = true := decide_eq_true Z0
       clear c8
       have H' := Aside0.mk H
       clear H
       have p9 : 0 ≤ (0 : Int) := Z0
       have q9 : 0 < a0.size := ZJ
       have hx9 : ∀ h : 0 < a0.size, ((a0[0]'h).toNat : Int) = bt a0 0 := XD a0 0
       clear p9
       have qi9 : (0 < (a0.size : Int)) = True := eq_true (of_decide_eq_true Z5)
       replace q9 := eq_true q9
       go_wp2
       go_meet
       case rel => exact ⟨_, (((bt a0 0) == 45)), Z4, H', ⟨(Zo HJ2.out)⟩, Z8⟩
      ·rw [if_neg c8] at H
       exact absurd H Z3
     ·rw [if_neg c7] at H
      have c7b0 := decide_eq_false c7
      have c7b1 : decide (0 < a0.size) = false := decide_eq_false Z0
      clear c7
      (first | rw [c7b0] | (simp only [YH, YJ]; rw [c7b0]) | skip)
      have H' := Aside0.mk H
      clear H
      go_wp2
      go_meet
      case rel => exact ⟨_, (false), Z4, H', ⟨(Zo HJ2.out)⟩, Z8⟩
    case rest =>
     clear HC6
     try clear c2
     try clear p2
     try clear c4
     try clear c4b0
     try clear c5
     try clear c7
     try clear c7b0
     try clear c7b1
     try clear c8
     try clear c8b0
     try clear c8b1
     try clear p9
     try clear q9
     try clear hx9
     try clear qi9
     try clear p2
     try clear p9
     try clear q9
     obtain ⟨kq, x6_5, rfl, HA, HJ5, ⟨mc5, rfl⟩⟩ := hcut
     cases kq with
     | zero => exact absurd HA.out (by simp [Yg.j1])
     | succ kj5 =>
      have H := HA.out
      clear HA
      simp only [Yg.j1] at H
      have HC10 := Aside0.mk H
      clear H
      go_upto_if 26 with (fail)
      go_cut [0] (fun v0 wc => ∃ (kq : Nat) (x0_9 : ByteArray), v0 = .string x0_9 ∧ Aside0 (Yg.j2 kq x0_9 a1 x6_5 = some (r1, r2)) ∧ Aside0 (kq ≤ kj5) ∧ YZ w wc)
      case first =>
       have H := HC10.out
       clear HC10
       by_cases c11 : x6_5 = true
       ·subst c11
        rw [if_pos rfl] at H
        by_cases c12 : 1 ≤ (a0.size : Int)
        ·rw [if_pos c12] at H
         have c12b0 := eq_true c12
         have c12b1 := decide_eq_true c12
         clear c12
         have H' := Aside0.mk H
         clear H
         go_wp2
         go_meet
         case rel => exact ⟨_, (a0.extract 1 a0.size), Z4, H', ⟨(Zo (And.intro HJ2.out HJ5.out))⟩, Z8⟩
        ·rw [if_neg c12] at H
         exact absurd H Z3
       ·replace c11 := Bool.eq_false_iff.mpr c11
        subst c11
        rw [if_neg Z1] at H
        have H' := Aside0.mk H
        clear H
        go_wp2
        go_meet
        case rel => exact ⟨_, (a0), Z4, H', ⟨(Zo (And.intro HJ2.out HJ5.out))⟩, Z8⟩
      case rest =>
       clear HC10
       try clear c1
       try clear c2
       try clear p2
       try clear c4
       try clear c4b0
       try clear c5
       try clear c7
       try clear c7b0
       try clear c7b1
       try clear c8
       try clear c8b0
       try clear c8b1
       try clear p9
       try clear q9
       try clear hx9
       try clear qi9
       try clear c11
       try clear c12
       try clear c12b0
       try clear c12b1
       try clear p2
       try clear p9
       try clear q9
       obtain ⟨kq, x0_9, rfl, HA, HJ9, ⟨mc9, rfl⟩⟩ := hcut
       cases kq with
       | zero => exact absurd HA.out (by simp [Yg.j2])
       | succ kj9 =>
        have H := HA.out
        clear HA
        simp only [Yg.j2] at H
        by_cases c13 : (x0_9.size : Int) = 0
        ·rw [if_pos c13] at H
         obtain ⟨c13b0, c13b1⟩ := eqB c13
         clear c13
         simp only [Option.some.injEq, Prod.mk.injEq] at H
         obtain ⟨rfl, rfl⟩ := H
         go_wp2
         go_ret2
         exact Zc
        ·rw [if_neg c13] at H
         obtain ⟨c13b0, c13b1⟩ := neB c13
         have H' := Aside0.mk H
         clear H
         go_wp2
         go_loopg [7, 8, 9] kj9 (fun kq v7 v8 v9 w' => ∃ (x7_4 : Int) (x8_4 : Bool) (x9_4 : Int), v7 = .int .u64 x7_4 ∧ v8 = .bool x8_4 ∧ v9 = .int .i64 x9_4 ∧ Aside0 (Yg.l0 kq x0_9 a1 x6_5 x7_4 x8_4 x9_4 = some (r1, r2)) ∧ Aside0 (kq ≤ kj9) ∧ YZ w w')
         case atStart => exact ⟨(0), (false), (0), Z4, Z4, Z4, H', ⟨Nat.le_refl _⟩, Z8⟩
         case round =>
          clear H'
          try clear c1
          try clear c2
          try clear p2
          try clear c4
          try clear c4b0
          try clear c5
          try clear c7
          try clear c7b0
          try clear c7b1
          try clear c8
          try clear c8b0
          try clear c8b1
          try clear c9
          try clear p9
          try clear q9
          try clear hx9
          try clear qi9
          try clear c11
          try clear c12
          try clear c12b0
          try clear c12b1
          try clear c13
          try clear c13b0
          try clear c13b1
          try clear p2
          try clear p9
          try clear q9
          obtain ⟨x7_4, x8_4, x9_4, rfl, rfl, rfl, HA, HK4, ⟨m4, rfl⟩⟩ := hrel
          cases gk with
          | zero => exact absurd HA.out (by simp [Yg.l0])
          | succ k4 =>
           have H := HA.out
           clear HA
           simp only [Yg.l0] at H
           by_cases c14 : x9_4 < (x0_9.size : Int)
           ·rw [if_pos c14] at H
            have c14b0 := decide_eq_true c14
            clear c14
            by_cases c15 : 0 ≤ x9_4
            ·rw [if_pos c15] at H
             have c15b0 := decide_eq_true c15
             clear c15
             replace H := bE H; obtain ⟨⟨t469, t470⟩, A17, H⟩ := H; try dsimp only at H
             by_cases c18 : t470 = true
             ·subst c18
              rw [if_pos rfl] at H
              by_cases c19 : x8_4 = true
              ·subst c19
               rw [if_pos rfl] at H
               have H' := Aside0.mk H
               clear H
               have p16 : 0 ≤ (x9_4 : Int) := of_decide_eq_true Z5
               have q16 : x9_4 < (x0_9.size : Int) := of_decide_eq_true Z5
               have hx16 := XD x0_9 x9_4
               replace p16 := eq_true p16
               replace q16 := eq_true q16
               go_wp2_with (first | ((with_reducible refine Ym (f := 93) rfl ?_); refine YL (some 43) rfl rfl Try.func93 Z2 rfl #[.int .u8 (bt x0_9 x9_4), .int .u32 a1] rfl Zb ?_; (with_reducible refine (Yi.calls k4 (bt x0_9 x9_4) a1 t469 true _ A17.out).mono ?_); rintro e w' ⟨rfl, ⟨nd, rfl⟩⟩; refine ⟨_, rfl, ?_⟩))
               go_roundg k4
               case measure => have := HJ2.out; have := HJ5.out; have := HJ9.out; have := HK4.out; omega
               case rel => exact ⟨(x7_4), (true), (wrap64 (x9_4 + 1)), Z4, Z4, Z4, H', ⟨Z27⟩, Z8⟩
              ·replace c19 := Bool.eq_false_iff.mpr c19
               subst c19
               rw [if_neg Z1] at H
               have H' := Aside0.mk H
               clear H
               have p16 : 0 ≤ (x9_4 : Int) := of_decide_eq_true Z5
               have q16 : x9_4 < (x0_9.size : Int) := of_decide_eq_true Z5
               have hx16 := XD x0_9 x9_4
               replace p16 := eq_true p16
               replace q16 := eq_true q16
               go_wp2_with (first | ((with_reducible refine Ym (f := 93) rfl ?_); refine YL (some 43) rfl rfl Try.func93 Z2 rfl #[.int .u8 (bt x0_9 x9_4), .int .u32 a1] rfl Zb ?_; (with_reducible refine (Yi.calls k4 (bt x0_9 x9_4) a1 t469 true _ A17.out).mono ?_); rintro e w' ⟨rfl, ⟨nd, rfl⟩⟩; refine ⟨_, rfl, ?_⟩))
               go_roundg k4
               case measure => have := HJ2.out; have := HJ5.out; have := HJ9.out; have := HK4.out; omega
               case rel => exact ⟨(IntKind.u64.wrap ((IntKind.u64.wrap (x7_4 * (IntKind.u64.wrap (a1)))) + (IntKind.u64.wrap (t469)))), (decide ((IntKind.u64.wrap ((IntKind.u64.wrap (x7_4 * (IntKind.u64.wrap (a1)))) + (IntKind.u64.wrap (t469)))) ≥ 4294967296)), (wrap64 (x9_4 + 1)), Z4, Z4, Z4, H', ⟨Z27⟩, Z8⟩
             ·replace c18 := Bool.eq_false_iff.mpr c18
              subst c18
              rw [if_neg Z1] at H
              simp only [Option.some.injEq, Prod.mk.injEq] at H
              obtain ⟨rfl, rfl⟩ := H
              have p16 : 0 ≤ (x9_4 : Int) := of_decide_eq_true Z5
              have q16 : x9_4 < (x0_9.size : Int) := of_decide_eq_true Z5
              have hx16 := XD x0_9 x9_4
              replace p16 := eq_true p16
              replace q16 := eq_true q16
              go_wp2_with (first | ((with_reducible refine Ym (f := 93) rfl ?_); refine YL (some 43) rfl rfl Try.func93 Z2 rfl #[.int .u8 (bt x0_9 x9_4), .int .u32 a1] rfl Zb ?_; (with_reducible refine (Yi.calls k4 (bt x0_9 x9_4) a1 t469 false _ A17.out).mono ?_); rintro e w' ⟨rfl, ⟨nd, rfl⟩⟩; refine ⟨_, rfl, ?_⟩))
              go_ret2
              exact Zc
            ·rw [if_neg c15] at H
             exact absurd H Z3
           ·rw [if_neg c14] at H
            have c14b0 := decide_eq_false c14
            clear c14
            by_cases c20 : x8_4 = true
            ·subst c20
             rw [if_pos rfl] at H
             simp only [Option.some.injEq, Prod.mk.injEq] at H
             obtain ⟨rfl, rfl⟩ := H
             go_wp2
             go_ret2
             exact Zc
            ·replace c20 := Bool.eq_false_iff.mpr c20
             subst c20
             rw [if_neg Z1] at H
             by_cases c21 : x6_5 = true
             ·subst c21
              rw [if_pos rfl] at H
              simp only [Option.some.injEq, Prod.mk.injEq] at H
              obtain ⟨rfl, rfl⟩ := H
              go_wp2
              go_ret2
              exact Zc
             ·replace c21 := Bool.eq_false_iff.mpr c21
              subst c21
              rw [if_neg Z1] at H
              simp only [Option.some.injEq, Prod.mk.injEq] at H
              obtain ⟨rfl, rfl⟩ := H
              go_wp2
              go_ret2
              exact Zc
def YA.j0 : Nat → ByteArray → Int → Bool → Option (Int × Bool)
 | 0, _, _, _ => none
 | k + 1, x0, x4, x14 => if x14 = true then (if 0 < (x0.size : Int) then ((YB.f (bt x0 0)).bind fun t471 => (if t471 = 104 then (if 2 ≤ (x0.size : Int) then ((Yg.f k (x0.extract 2 x0.size) 16).bind fun bt472 => (some (bt472.1, (bt472.2 == 0)))) else (none)) else (if t471 = 111 then (if 2 ≤ (x0.size : Int) then ((Yg.f k (x0.extract 2 x0.size) 8).bind fun bt474 => (some (bt474.1, (bt474.2 == 0)))) else (none)) else (if t471 = 98 then (if 2 ≤ (x0.size : Int) then ((Yg.f k (x0.extract 2 x0.size) 2).bind fun bt476 => (some (bt476.1, (bt476.2 == 0)))) else (none)) else (if t471 = 100 then (if 2 ≤ (x0.size : Int) then ((Yg.f k (x0.extract 2 x0.size) 10).bind fun bt478 => (some (bt478.1, (bt478.2 == 0)))) else (none)) else (some (0, false))))))) else (none)) else ((Yg.f k x0 x4).bind fun bt480 => (some (bt480.1, (bt480.2 == 0))))
def YA.f (k : Nat) (a0 : ByteArray) : Option (Int × Bool) := if (a0.size : Int) > 2 then (if 1 < (a0.size : Int) then (YA.j0 k a0 10 ((bt a0 1) == 35)) else (none)) else (YA.j0 k a0 10 false)
theorem YA.mono_l : ∀ k, (∀ y0 y1 y2, LeO (YA.j0 k y0 y1 y2) (YA.j0 (k + 1) y0 y1 y2))
 | 0 => fun _ _ _ r h => by simp [YA.j0] at h
 | k + 1 => by
  have ih0 := YA.mono_l k
  ·intro y0 y1 y2
   unfold YA.j0
   have ih7 := @Yg.mono; exact XI
theorem YA.mono : ∀ a0 k, LeO (YA.f k a0) (YA.f (k + 1) a0) := by
 intro a0 k
 have ih0 := YA.mono_l k
 unfold YA.f
 have ih7 := @Yg.mono; exact XI
theorem YA.calls (k : Nat) (a0 : ByteArray) (r1 : Int) (r2 : Bool) (w : World) (h : YA.f k a0 = some (r1, r2)) :
 Calls Try.prog 48 #[.string a0] w fun e w' => e = .returned (.tuple #[.int .u32 r1, .bool r2]) ∧ YZ w w' := by
 have H : (if (a0.size : Int) > 2 then (if 1 < (a0.size : Int) then (YA.j0 k a0 10 ((bt a0 1) == 35)) else (none)) else (YA.j0 k a0 10 false)) = some (r1, r2) := h
 clear h
 have HC2 := Aside0.mk H
 clear H
 go_enter Try.func48, Try.ntmps48
 go_upto_region 2 with (fail)
 go_cut [14] (fun v14 wc => ∃ (kq : Nat) (x14_1 : Bool), v14 = .bool x14_1 ∧ Aside0 (YA.j0 kq a0 10 x14_1 = some (r1, r2)) ∧ Aside0 (kq ≤ k) ∧ YZ w wc)
 case first =>
  have H := HC2.out
  clear HC2
  by_cases c3 : (a0.size : Int) > 2
  ·rw [if_pos c3] at H
   have c3b0 := decide_eq_true c3
   have c3b1 : decide (2 < a0.size) = true := decide_eq_true Z0
   clear c3
   (first | rw [c3b0] | (simp only [YH, YJ]; rw [c3b0]) | skip)
   by_cases c4 : 1 < (a0.size : Int)
   ·rw [if_pos c4] at H
    have c4b0 := decide_eq_true c4
    have c4b1 : decide (1 < a0.size) = true := decide_eq_true Z0
    clear c4
    have H' := Aside0.mk H
    clear H
    have p5 : 0 ≤ (1 : Int) := Z0
    have q5 : 1 < a0.size := Z24
    have hx5 : ∀ h : 1 < a0.size, ((a0[1]'h).toNat : Int) = bt a0 1 := XD a0 1
    clear p5
    have qi5 : (1 < (a0.size : Int)) = True := eq_true (of_decide_eq_true Z5)
    replace q5 := eq_true q5
    go_wp2
    go_meet
    case rel => exact ⟨_, (((bt a0 1) == 35)), Z4, H', ⟨ZD⟩, Z8⟩
   ·rw [if_neg c4] at H
    exact absurd H Z3
  ·rw [if_neg c3] at H
   have c3b0 := decide_eq_false c3
   have c3b1 : decide (2 < a0.size) = false := decide_eq_false Z0
   clear c3
   (first | rw [c3b0] | (simp only [YH, YJ]; rw [c3b0]) | skip)
   have H' := Aside0.mk H
   clear H
   go_wp2
   go_meet
   case rel => exact ⟨_, (false), Z4, H', ⟨ZD⟩, Z8⟩
 case rest =>
  clear HC2
  try clear p2
  try clear c3
  try clear c3b0
  try clear c3b1
  try clear c4
  try clear c4b0
  try clear c4b1
  try clear p5
  try clear q5
  try clear hx5
  try clear qi5
  try clear p5
  try clear q5
  obtain ⟨kq, x14_1, rfl, HA, HJ1, ⟨mc1, rfl⟩⟩ := hcut
  cases kq with
  | zero => exact absurd HA.out (by simp [YA.j0])
  | succ kj1 =>
   have H := HA.out
   clear HA
   simp only [YA.j0] at H
   by_cases c6 : x14_1 = true
   ·subst c6
    rw [if_pos rfl] at H
    by_cases c7 : 0 < (a0.size : Int)
    ·rw [if_pos c7] at H
     have c7b0 := decide_eq_true c7
     have c7b1 : decide (0 < a0.size) = true := decide_eq_true Z0
     clear c7
     replace H := bE H; obtain ⟨t471, A9, H⟩ := H
     by_cases c10 : t471 = 104
     ·rw [if_pos c10] at H
      obtain ⟨c10b0, c10b1⟩ := eqB c10
      clear c10
      by_cases c11 : 2 ≤ (a0.size : Int)
      ·rw [if_pos c11] at H
       have c11b0 := eq_true c11
       have c11b1 := decide_eq_true c11
       clear c11
       replace H := bE H; obtain ⟨⟨t472, t473⟩, A12, H⟩ := H; try dsimp only at H
       simp only [Option.some.injEq, Prod.mk.injEq] at H
       obtain ⟨rfl, rfl⟩ := H
       have p8 : 0 ≤ (0 : Int) := Z0
       have q8 : 0 < a0.size := ZJ
       have hx8 : ∀ h : 0 < a0.size, ((a0[0]'h).toNat : Int) = bt a0 0 := XD a0 0
       clear p8
       have qi8 : (0 < (a0.size : Int)) = True := eq_true (of_decide_eq_true Z5)
       replace q8 := eq_true q8
       go_wp2_with (first | ((with_reducible refine Ym (f := 68) rfl ?_); refine YL (some 17) rfl rfl Try.func68 Z2 rfl #[.int .u8 (bt a0 0)] rfl Zb ?_; (with_reducible refine (YB.calls (bt a0 0) t471 _ A9.out).mono ?_); rintro e w' ⟨rfl, ⟨nd, rfl⟩⟩; refine ⟨_, rfl, ?_⟩) | ((with_reducible refine Ym (f := 78) rfl ?_); refine YL (some 31) rfl rfl Try.func78 Z2 rfl #[.string (a0.extract 2 a0.size), .int .u32 16] rfl Zb ?_; (with_reducible refine (Yg.calls kj1 (a0.extract 2 a0.size) 16 t472 t473 _ A12.out).mono ?_); rintro e w' ⟨rfl, ⟨nd, rfl⟩⟩; refine ⟨_, rfl, ?_⟩))
       go_ret2
       exact Zc
      ·rw [if_neg c11] at H
       exact absurd H Z3
     ·rw [if_neg c10] at H
      obtain ⟨c10b0, c10b1⟩ := neB c10
      by_cases c13 : t471 = 111
      ·rw [if_pos c13] at H
       obtain ⟨c13b0, c13b1⟩ := eqB c13
       clear c13
       by_cases c14 : 2 ≤ (a0.size : Int)
       ·rw [if_pos c14] at H
        have c14b0 := eq_true c14
        have c14b1 := decide_eq_true c14
        clear c14
        replace H := bE H; obtain ⟨⟨t474, t475⟩, A15, H⟩ := H; try dsimp only at H
        simp only [Option.some.injEq, Prod.mk.injEq] at H
        obtain ⟨rfl, rfl⟩ := H
        have p8 : 0 ≤ (0 : Int) := Z0
        have q8 : 0 < a0.size := ZJ
        have hx8 : ∀ h : 0 < a0.size, ((a0[0]'h).toNat : Int) = bt a0 0 := XD a0 0
        clear p8
        have qi8 : (0 < (a0.size : Int)) = True := eq_true (of_decide_eq_true Z5)
        replace q8 := eq_true q8
        go_wp2_with (first | ((with_reducible refine Ym (f := 68) rfl ?_); refine YL (some 17) rfl rfl Try.func68 Z2 rfl #[.int .u8 (bt a0 0)] rfl Zb ?_; (with_reducible refine (YB.calls (bt a0 0) t471 _ A9.out).mono ?_); rintro e w' ⟨rfl, ⟨nd, rfl⟩⟩; refine ⟨_, rfl, ?_⟩) | ((with_reducible refine Ym (f := 78) rfl ?_); refine YL (some 31) rfl rfl Try.func78 Z2 rfl #[.string (a0.extract 2 a0.size), .int .u32 8] rfl Zb ?_; (with_reducible refine (Yg.calls kj1 (a0.extract 2 a0.size) 8 t474 t475 _ A15.out).mono ?_); rintro e w' ⟨rfl, ⟨nd, rfl⟩⟩; refine ⟨_, rfl, ?_⟩))
        go_ret2
        exact Zc
       ·rw [if_neg c14] at H
        exact absurd H Z3
      ·rw [if_neg c13] at H
       obtain ⟨c13b0, c13b1⟩ := neB c13
       by_cases c16 : t471 = 98
       ·rw [if_pos c16] at H
        obtain ⟨c16b0, c16b1⟩ := eqB c16
        clear c16
        by_cases c17 : 2 ≤ (a0.size : Int)
        ·rw [if_pos c17] at H
         have c17b0 := eq_true c17
         have c17b1 := decide_eq_true c17
         clear c17
         replace H := bE H; obtain ⟨⟨t476, t477⟩, A18, H⟩ := H; try dsimp only at H
         simp only [Option.some.injEq, Prod.mk.injEq] at H
         obtain ⟨rfl, rfl⟩ := H
         have p8 : 0 ≤ (0 : Int) := Z0
         have q8 : 0 < a0.size := ZJ
         have hx8 : ∀ h : 0 < a0.size, ((a0[0]'h).toNat : Int) = bt a0 0 := XD a0 0
         clear p8
         have qi8 : (0 < (a0.size : Int)) = True := eq_true (of_decide_eq_true Z5)
         replace q8 := eq_true q8
         go_wp2_with (first | ((with_reducible refine Ym (f := 68) rfl ?_); refine YL (some 17) rfl rfl Try.func68 Z2 rfl #[.int .u8 (bt a0 0)] rfl Zb ?_; (with_reducible refine (YB.calls (bt a0 0) t471 _ A9.out).mono ?_); rintro e w' ⟨rfl, ⟨nd, rfl⟩⟩; refine ⟨_, rfl, ?_⟩) | ((with_reducible refine Ym (f := 78) rfl ?_); refine YL (some 31) rfl rfl Try.func78 Z2 rfl #[.string (a0.extract 2 a0.size), .int .u32 2] rfl Zb ?_; (with_reducible refine (Yg.calls kj1 (a0.extract 2 a0.size) 2 t476 t477 _ A18.out).mono ?_); rintro e w' ⟨rfl, ⟨nd, rfl⟩⟩; refine ⟨_, rfl, ?_⟩))
         go_ret2
         exact Zc
        ·rw [if_neg c17] at H
         exact absurd H Z3
       ·rw [if_neg c16] at H
        obtain ⟨c16b0, c16b1⟩ := neB c16
        by_cases c19 : t471 = 100
        ·rw [if_pos c19] at H
         obtain ⟨c19b0, c19b1⟩ := eqB c19
         clear c19
         by_cases c20 : 2 ≤ (a0.size : Int)
         ·rw [if_pos c20] at H
          have c20b0 := eq_true c20
          have c20b1 := decide_eq_true c20
          clear c20
          replace H := bE H; obtain ⟨⟨t478, t479⟩, A21, H⟩ := H; try dsimp only at H
          simp only [Option.some.injEq, Prod.mk.injEq] at H
          obtain ⟨rfl, rfl⟩ := H
          have p8 : 0 ≤ (0 : Int) := Z0
          have q8 : 0 < a0.size := ZJ
          have hx8 : ∀ h : 0 < a0.size, ((a0[0]'h).toNat : Int) = bt a0 0 := XD a0 0
          clear p8
          have qi8 : (0 < (a0.size : Int)) = True := eq_true (of_decide_eq_true Z5)
          replace q8 := eq_true q8
          go_wp2_with (first | ((with_reducible refine Ym (f := 68) rfl ?_); refine YL (some 17) rfl rfl Try.func68 Z2 rfl #[.int .u8 (bt a0 0)] rfl Zb ?_; (with_reducible refine (YB.calls (bt a0 0) t471 _ A9.out).mono ?_); rintro e w' ⟨rfl, ⟨nd, rfl⟩⟩; refine ⟨_, rfl, ?_⟩) | ((with_reducible refine Ym (f := 78) rfl ?_); refine YL (some 31) rfl rfl Try.func78 Z2 rfl #[.string (a0.extract 2 a0.size), .int .u32 10] rfl Zb ?_; (with_reducible refine (Yg.calls kj1 (a0.extract 2 a0.size) 10 t478 t479 _ A21.out).mono ?_); rintro e w' ⟨rfl, ⟨nd, rfl⟩⟩; refine ⟨_, rfl, ?_⟩))
          go_ret2
          exact Zc
         ·rw [if_neg c20] at H
          exact absurd H Z3
        ·rw [if_neg c19] at H
         obtain ⟨c19b0, c19b1⟩ := neB c19
         simp only [Option.some.injEq, Prod.mk.injEq] at H
         obtain ⟨rfl, rfl⟩ := H
         have p8 : 0 ≤ (0 : Int) := Z0
         have q8 : 0 < a0.size := ZJ
         have hx8 : ∀ h : 0 < a0.size, ((a0[0]'h).toNat : Int) = bt a0 0 := XD a0 0
         clear p8
         have qi8 : (0 < (a0.size : Int)) = True := eq_true (of_decide_eq_true Z5)
         replace q8 := eq_true q8
         go_wp2_with (first | ((with_reducible refine Ym (f := 68) rfl ?_); refine YL (some 17) rfl rfl Try.func68 Z2 rfl #[.int .u8 (bt a0 0)] rfl Zb ?_; (with_reducible refine (YB.calls (bt a0 0) t471 _ A9.out).mono ?_); rintro e w' ⟨rfl, ⟨nd, rfl⟩⟩; refine ⟨_, rfl, ?_⟩))
         go_ret2
         exact Zc
    ·rw [if_neg c7] at H
     exact absurd H Z3
   ·replace c6 := Bool.eq_false_iff.mpr c6
    subst c6
    rw [if_neg Z1] at H
    replace H := bE H; obtain ⟨⟨t480, t481⟩, A22, H⟩ := H; try dsimp only at H
    simp only [Option.some.injEq, Prod.mk.injEq] at H
    obtain ⟨rfl, rfl⟩ := H
    go_wp2_with (first | ((with_reducible refine Ym (f := 78) rfl ?_); refine YL (some 31) rfl rfl Try.func78 Z2 rfl #[.string a0, .int .u32 10] rfl Zb ?_; (with_reducible refine (Yg.calls kj1 a0 10 t480 t481 _ A22.out).mono ?_); rintro e w' ⟨rfl, ⟨nd, rfl⟩⟩; refine ⟨_, rfl, ?_⟩))
    go_ret2
    exact Zc
end Go.Proofs.Ytehmhgpogpbjiaa.PFccTokens
namespace Go.Proofs.Ytehmhgpogpbjiaa.Fcc
open Go.RowKit Go.Proofs.YtehmhgpogpbjiaaW.PrintWords Go.Proofs.YtehmhgpogpbjiaaW.PrintLast Go.Proofs.YtehmhgpogpbjiaaW.PrintMore Go.Proofs.Ytehmhgpogpbjiaa.PFccTokens
def valP (base b : Int) : Int × Bool := (Yq.f 10 b base).getD (0, false)
theorem val_all : ∀ base ∈ ([2, 8, 10, 16] : List Int), ∀ b : Fin 256, Yq.f 10 (b.val : Int) base = some (valP base b.val) ∧ Yi.f 50 (b.val : Int) base = some (valP base b.val) ∧ 0 ≤ (valP base b.val).1 ∧ (valP base b.val).1 < 16 := by
 decide +kernel
theorem val_ev {base : Int} (hb : base ∈ ([2, 8, 10, 16] : List Int)) (s : ByteArray) (i : Int) : Ev (fun k => Yq.f k (bt s i) base) (valP base (bt s i)) ∧ Ev (fun k => Yi.f k (bt s i) base) (valP base (bt s i)) ∧ 0 ≤ (valP base (bt s i)).1 ∧ (valP base (bt s i)).1 < 16 := by
 have hr := Ydx s i
 obtain ⟨n, hn⟩ : ∃ n : Nat, bt s i = n := ⟨(bt s i).toNat, Z0⟩
 have h := val_all base hb ⟨n, Z0⟩
 rw [hn]
 exact ⟨Ev.of (g := fun k => Yq.f k n base) (Yq.mono _ _) h.1, Ev.of (g := fun k => Yi.f k n base) (Yi.mono _ _) h.2.1, h.2.2⟩
def numI (base : Int) (s : ByteArray) : Nat → Nat → Int → Bool → Option (Int × Bool)
 | 0, _, n, big => some (n, big)
 | f + 1, i, n, big => if (valP base (bt s i)).2 = true then (if big = true then numI base s f (i + 1) n true else if n * base + (valP base (bt s i)).1 > 4294967295 then numI base s f (i + 1) 0 true else numI base s f (i + 1) (n * base + (valP base (bt s i)).1) false) else none
def outP (neg : Bool) : Option (Int × Bool) → Int × Int
 | none => (0, 15)
 | some (_, true) => (0, 4)
 | some (n, false) => (if neg = true then (4294967296 - n) % 4294967296 else n, 0)
theorem uw {x : Int} (h : 0 ≤ x) (h2 : x < 18446744073709551616) : IntKind.u64.wrap x = x := by rw [IntKind.wrap_u64]; omega
theorem mulb {base n : Int} (hb : base ∈ ([2, 8, 10, 16] : List Int)) (h : 0 ≤ n) (h1 : n ≤ 4294967296) : 0 ≤ n * base ∧ n * base ≤ 68719476736 ∧ 0 ≤ base ∧ base ≤ 16 := by
 simp only [List.mem_cons, List.not_mem_nil, or_false] at hb
 rcases hb with rfl | rfl | rfl | rfl <;> omega
theorem mulbig {base : Int} (hb : base ∈ ([2, 8, 10, 16] : List Int)) : 4294967295 < 4294967296 * base := by
 simp only [List.mem_cons, List.not_mem_nil, or_false] at hb
 rcases hb with rfl | rfl | rfl | rfl <;> decide
theorem dp_loop {base : Int} (hb : base ∈ ([2, 8, 10, 16] : List Int)) (s : ByteArray) (hs : s.size ≤ maxLen) (neg : Bool) : ∀ (f i : Nat) (n : Int) (big : Bool), i + f = s.size → 0 ≤ n → n < 4294967296 →
 Ev (fun k => Yz.l0 k base s neg (if big = true then 4294967296 else n) (if big = true then 4 else 0) (s.size : Int) (i : Int)) (outP neg (numI base s f i n big)) := by
 intro f
 have hM : maxLen = 9223372036854775807 := rfl
 induction f with
 | zero =>
   intro i n big hi h0 h1
   have hlt : ¬ ((i : Int) < (s.size : Int)) := by omega
   refine Ev.step (f := fun _ => some (outP neg (numI base s 0 i n big))) (fun k => ?_) (Ev.now _)
   unfold Yz.l0
   rw [if_neg hlt]
   cases big
   ·simp only [numI, outP, Bool.false_eq_true, if_false, if_true]
    cases neg
    ·simp only [Bool.false_eq_true, if_false]
     rw [Int.emod_eq_of_lt h0 h1]
    ·simp only [if_true]
     rw [IntKind.wrap_u64]
     have : (-n % 18446744073709551616) % 4294967296 = (4294967296 - n) % 4294967296 := by omega
     rw [this]
   ·simp [numI, outP]
 | succ f ih =>
   intro i n big hi h0 h1
   obtain ⟨hv, -, v0, v1⟩ := val_ev hb s (i : Int)
   have hlt : (i : Int) < (s.size : Int) := by omega
   have h0i : (0 : Int) ≤ (i : Int) := by omega
   have hw : wrap64 ((i : Int) + 1) = ((i + 1 : Nat) : Int) := by rw [IntWalk.wrap64_in _ ⟨Z0, Z0⟩]; omega
   refine Ev.step (f := fun k => Yz.l0 (k + 1) base s neg (if big = true then 4294967296 else n) (if big = true then 4 else 0) (s.size : Int) (i : Int)) (fun k => rfl) ?_
   simp only [Yz.l0, hlt, h0i, ↓reduceIte]
   refine Ev.bind hv ?_
   simp only [numI]
   generalize valP base (bt s (i : Int)) = v at v0 v1 ⊢
   obtain ⟨v, ok⟩ := v
   dsimp only at v0 v1 ⊢
   rw [hw]
   cases ok with
   | false => simp only [Bool.false_eq_true, if_false]; exact Ev.now _
   | true =>
     simp only [if_true]
     cases big with
     | true =>
       have hm := mulb hb (n := 4294967296) Z1 Z1
       have hg := mulbig hb
       simp only [if_true]
       rw [uw hm.2.2.1 Z0, uw v0 Z0, uw hm.1 Z0, uw Z0 Z0]
       have hgg : 4294967296 * base + v > 4294967295 := by omega
       simp only [if_pos hgg]
       exact ih (i + 1) n true Z0 h0 h1
     | false =>
       have hm := mulb hb h0 Z0
       simp only [Bool.false_eq_true, if_false]
       rw [uw hm.2.2.1 Z0, uw v0 Z0, uw hm.1 Z0, uw Z0 Z0]
       by_cases hg : n * base + v > 4294967295
       ·simp only [if_pos hg]
        exact ih (i + 1) 0 true Z0 Z1 Z1
       ·simp only [if_neg hg]
        exact ih (i + 1) _ false Z0 Z0 Z0
def JZ (s : ByteArray) : ByteArray := if bt s 0 = 45 then s.extract 1 s.size else s
def Uh (s : ByteArray) (base : Int) : Int × Int := if (JZ s).size = 0 then (0, 15) else outP (decide (bt s 0 = 45)) (numI base (JZ s) (JZ s).size 0 0 false)
theorem rest_size (s : ByteArray) : (JZ s).size ≤ s.size := by
 unfold JZ; split
 ·simp
 ·exact Nat.le_refl _
theorem bt_zero {s : ByteArray} (h : s.size = 0) : bt s 0 = 0 := by unfold bt; rw [dif_neg (by rw [h]; decide)]
theorem cutp (s : ByteArray) (hs : s.size ≤ maxLen) : XA.f s ⟨#[45]⟩ = some (JZ s, decide (bt s 0 = 45)) := by
 have h1 : ((⟨#[45]⟩ : ByteArray).size : Int) = 1 := rfl
 unfold XA.f Xz.f Xm.f
 rw [h1]
 by_cases h : s.size = 0
 ·have hb : ¬ bt s 0 = 45 := by rw [bt_zero h]; decide
  have hg : ¬ ((s.size : Int) ≥ 1) := by omega
  simp only [if_neg hg, Option.bind_some, Bool.false_eq_true, if_false, JZ, if_neg hb, decide_eq_false hb]
 ·have hg : (s.size : Int) ≥ 1 := by omega
  have hg2 : (1 : Int) ≤ (s.size : Int) := hg
  have he : ((s.extract 0 ((1 : Int) : Int).toNat).toList == (⟨#[45]⟩ : ByteArray).toList) = decide (bt s 0 = 45) := by
   have e1 : (s.extract 0 1).toList = [s[0]'Z0] := by
    rw [Go.Lib.toList_data]
    obtain ⟨⟨l⟩⟩ := s
    cases l with
    | nil => exact absurd rfl h
    | cons a l => simp [ByteArray.extract, ByteArray.copySlice]; rfl
   have e2 : bt s 0 = ((s[0]'Z0).toNat : Int) := (XD s 0 Zj).symm
   rw [show ((1 : Int)).toNat = 1 from rfl, e1, e2, Go.Lib.toList_data]
   generalize (s[0]'Z0) = a
   by_cases ha : a = 45
   ·subst ha; rfl
   ·have hn : ¬ ((a.toNat : Int) = 45) := fun e => ha (UInt8.toNat_inj.1 (by show a.toNat = 45; omega))
    rw [decide_eq_false hn]
    show ([a] == [(45 : UInt8)]) = false
    exact beq_eq_false_iff_ne.2 fun e => ha (List.cons.inj e).1
  rw [he]
  by_cases hb : bt s 0 = 45
  ·simp only [if_pos hg, if_pos hg2, decide_eq_true hb, Option.bind_some, if_true, JZ, if_pos hb, show (0 : Int) ≤ 1 by decide, show ((1 : Int)).toNat = 1 from rfl]
  ·simp only [if_pos hg, if_pos hg2, decide_eq_false hb, Option.bind_some, if_true, JZ, if_neg hb, show (0 : Int) ≤ 1 by decide, Bool.false_eq_true, if_false]
theorem empty_iff (s : ByteArray) : (s.toList = ([] : List UInt8)) ↔ s.size = 0 := by
 rw [Go.Lib.toList_data s]
 constructor
 ·intro h; have := congrArg List.length h; simpa using this
 ·intro h; exact List.length_eq_zero_iff.1 ZM
theorem Ycl {base : Int} (hb : base ∈ ([2, 8, 10, 16] : List Int)) (s : ByteArray) (hs : s.size ≤ maxLen) : Ev (fun k => Yz.f k s base) (Uh s base) := by
 have hf : Xk.f base = some true := by
  simp only [List.mem_cons, List.not_mem_nil, or_false] at hb
  rcases hb with rfl | rfl | rfl | rfl <;> rfl
 unfold Yz.f
 simp only [hf, Option.bind_some, if_true, cutp s hs, empty_iff]
 unfold Uh
 by_cases h : (JZ s).size = 0
 ·simp only [if_pos h]; exact Ev.now _
 ·simp only [if_neg h]
  exact dp_loop hb (JZ s) (Nat.le_trans (rest_size s) hs) _ (JZ s).size 0 0 false Z0 Z1 Z1
def Ya6 (b : Int) : Int := (YB.f b).getD 0
def YaN (b : Int) : Int := if Ya6 b = 104 then 16 else if Ya6 b = 111 then 8 else if Ya6 b = 98 then 2 else if Ya6 b = 100 then 10 else 0
theorem base_all : ∀ b : Fin 256, YB.f (b.val : Int) = some (Ya6 b.val) ∧ XS.f (b.val : Int) = some (YaN b.val) := by
 decide +kernel
theorem base_of (s : ByteArray) (i : Int) : YB.f (bt s i) = some (Ya6 (bt s i)) ∧ XS.f (bt s i) = some (YaN (bt s i)) := by
 have hr := Ydx s i
 obtain ⟨n, hn⟩ : ∃ n : Nat, bt s i = n := ⟨(bt s i).toNat, Z0⟩
 rw [hn]
 exact base_all ⟨n, Z0⟩
def okP (p : Int × Int) : Option Int := if p.2 = 0 then some p.1 else none
def litP (s : ByteArray) : Option Int :=
 if s.size > 2 ∧ bt s 1 = 35 then (if YaN (bt s 0) = 0 then none else okP (Uh (s.extract 2 s.size) (YaN (bt s 0)))) else okP (Uh s 10)
theorem base_mem (b : Int) (h : ¬ YaN b = 0) : YaN b ∈ ([2, 8, 10, 16] : List Int) := by
 unfold YaN at h ⊢
 repeat' split
 all_goals simp_all
theorem okP_p (p : Int × Int) : ∃ z, (if p.2 = 0 then some (p.1, true) else some ((0 : Int), false)) = some ((okP p).getD z, (okP p).isSome) := by
 unfold okP; split
 ·exact ⟨0, rfl⟩
 ·exact ⟨0, rfl⟩
theorem ext_size (s : ByteArray) (hs : s.size ≤ maxLen) : (s.extract 2 s.size).size ≤ maxLen := by
 have : (s.extract 2 s.size).size ≤ s.size := by simp
 omega
theorem dlit_ev (s : ByteArray) (hs : s.size ≤ maxLen) : ∃ z, Ev (fun k => YC.f k s) ((litP s).getD z, (litP s).isSome) := by
 unfold YC.f
 have plain : ∃ z, Ev (fun k => YC.j0 k s 10 false) ((okP (Uh s 10)).getD z, (okP (Uh s 10)).isSome) := by
  obtain ⟨z, hz⟩ := okP_p (Uh s 10)
  refine ⟨z, ?_⟩
  refine Ev.step (f := fun k => YC.j0 (k + 1) s 10 false) (fun k => rfl) ?_
  simp only [YC.j0, Bool.false_eq_true, if_false]
  refine Ev.bind (Ycl Z3 s hs) ?_
  simp only [hz]
  exact Ev.now _
 by_cases h2 : s.size > 2
 ·simp only [if_pos (show (s.size : Int) > 2 by omega), if_pos (show (1 : Int) < (s.size : Int) by omega)]
  by_cases h1 : bt s 1 = 35
  ·have e : litP s = (if YaN (bt s 0) = 0 then none else okP (Uh (s.extract 2 s.size) (YaN (bt s 0)))) := by unfold litP; rw [if_pos ⟨h2, h1⟩]
   rw [e, beq_iff_eq.2 h1]
   by_cases h0 : YaN (bt s 0) = 0
   ·refine ⟨0, ?_⟩
    refine Ev.step (f := fun k => YC.j0 (k + 1) s 10 true) (fun k => rfl) ?_
    simp only [YC.j0, if_true, if_pos (show (0 : Int) < (s.size : Int) by omega), if_pos (show (2 : Int) ≤ (s.size : Int) by omega), (base_of s 0).2, Option.bind_some, h0]
    refine Ev.bind (a := (0, 1)) ?_ ?_
    ·have : ∀ k, Yz.f k (s.extract 2 s.size) 0 = some (0, 1) := fun k => rfl
     exact Ev.congr this (Ev.now _)
    ·exact Ev.now _
   ·obtain ⟨z, hz⟩ := okP_p (Uh (s.extract 2 s.size) (YaN (bt s 0)))
    refine ⟨z, ?_⟩
    rw [if_neg h0]
    refine Ev.step (f := fun k => YC.j0 (k + 1) s 10 true) (fun k => rfl) ?_
    simp only [YC.j0, if_true, if_pos (show (0 : Int) < (s.size : Int) by omega), if_pos (show (2 : Int) ≤ (s.size : Int) by omega), (base_of s 0).2, Option.bind_some]
    refine Ev.bind (Ycl (base_mem _ h0) _ (ext_size s hs)) ?_
    simp only [hz]
    exact Ev.now _
  ·have e : litP s = okP (Uh s 10) := by unfold litP; rw [if_neg (fun h => h1 h.2)]
   rw [e, beq_eq_false_iff_ne.2 h1]
   exact plain
 ·have e : litP s = okP (Uh s 10) := by unfold litP; rw [if_neg (fun h => h2 h.1)]
  rw [e]
  simp only [if_neg (show ¬ (s.size : Int) > 2 by omega)]
  exact plain
theorem Yc2 {w w' : World} (h : YZ w w') : Below w.heap.size w w' := by
 obtain ⟨n, rfl⟩ := h
 exact Xi (Below.refl _ _) n
theorem Ycd : LitC litP := by
 intro s W hs
 obtain ⟨z, hz⟩ := dlit_ev s hs
 obtain ⟨k, h⟩ := hz.rounds
 exact (YC.calls k s _ _ W h).mono fun e w' ⟨he, hd⟩ => ⟨⟨z, he⟩, Yc2 hd⟩
theorem num_range {base : Int} (hb : base ∈ ([2, 8, 10, 16] : List Int)) (s : ByteArray) : ∀ (f i : Nat) (n : Int) (big : Bool), 0 ≤ n → n < 4294967296 → ∀ r, numI base s f i n big = some (r, false) → 0 ≤ r ∧ r < 4294967296 := by
 intro f
 induction f with
 | zero =>
   intro i n big h0 h1 r h
   unfold numI at h
   obtain ⟨rfl, -⟩ := Prod.mk.inj (Option.some.inj h)
   exact ⟨h0, h1⟩
 | succ f ih =>
   intro i n big h0 h1 r h
   obtain ⟨-, -, v0, v1⟩ := val_ev hb s (i : Int)
   have hm := mulb hb h0 Z0
   unfold numI at h
   by_cases hv : (valP base (bt s i)).2 = true
   ·rw [if_pos hv] at h
    by_cases hg : big = true
    ·rw [if_pos hg] at h; exact ih _ _ _ h0 h1 r h
    ·rw [if_neg hg] at h
     by_cases hx : n * base + (valP base (bt s i)).1 > 4294967295
     ·rw [if_pos hx] at h; exact ih _ _ _ Z1 Z1 r h
     ·rw [if_neg hx] at h; exact ih _ _ _ Z0 Z0 r h
   ·rw [if_neg hv] at h; cases h
theorem out_range {neg : Bool} {o : Option (Int × Bool)} (h : ∀ r, o = some (r, false) → 0 ≤ r ∧ r < 4294967296) : 0 ≤ (outP neg o).1 ∧ (outP neg o).1 < 4294967296 := by
 match o, h with
 | none, _ => exact ⟨(by decide : (0 : Int) ≤ 0), (by decide : (0 : Int) < 4294967296)⟩
 | some (_, true), _ => exact ⟨(by decide : (0 : Int) ≤ 0), (by decide : (0 : Int) < 4294967296)⟩
 | some (n, false), h =>
   have hn := h n rfl
   unfold outP; dsimp only; split <;> omega
theorem parse_range {base : Int} (hb : base ∈ ([2, 8, 10, 16] : List Int)) (s : ByteArray) : 0 ≤ (Uh s base).1 ∧ (Uh s base).1 < 4294967296 := by
 unfold Uh; split
 ·exact ⟨Z1, Z1⟩
 ·exact out_range fun r h => num_range hb _ _ _ _ _ Z1 Z1 r h
theorem ok_range {p : Int × Int} (h : 0 ≤ p.1 ∧ p.1 < 4294967296) (v : Int) (e : okP p = some v) : 0 ≤ v ∧ v < 4294967296 := by
 unfold okP at e; split at e
 ·obtain rfl := Option.some.inj e; exact h
 ·cases e
theorem YaA (s : ByteArray) (v : Int) (e : litP s = some v) : 0 ≤ v ∧ v < 4294967296 := by
 unfold litP at e
 split at e
 ·split at e
  ·cases e
  ·rename_i h; exact ok_range (parse_range (base_mem _ h) _) v e
 ·exact ok_range (parse_range Z3 _) v e
set_option maxRecDepth 100000
theorem Yav : primsL.length ≤ 1000 ∧ ∀ p ∈ primsL, p.f0.size ≤ maxLen ∧ 0 ≤ p.f1 ∧ p.f1 ≤ 4095 := by decide +kernel
noncomputable def toksP (s : ByteArray) : List S37 × Int := if (cutP s).2 = 0 then Ja UY (primsL.map pr).reverse litP XH (cutP s).1 else ([], (cutP s).2)
theorem UG (s : ByteArray) (hs : s.size ≤ maxLen) (w : World) : Calls Try.prog 7 #[.string s] w (TPost (toksP s) w) := by
 unfold toksP
 by_cases he : (cutP s).2 = 0
 ·rw [if_pos he]
  exact tokens_ok Yef Ycd YaA Ya0 YaU Yav.1 Yav.2 JX cut_ok s hs he
 ·rw [if_neg he]
  exact YdB JX s hs he
end Go.Proofs.Ytehmhgpogpbjiaa.Fcc
