import Derived.Test.Ytehmhgpogpbjiaafr11
set_option linter.unusedVariables false
set_option linter.unusedSimpArgs false
set_option maxRecDepth 100000
set_option maxHeartbeats 8000000
namespace Go.Proofs.Ytehmhgpogpbjiaa.PFccTokens
open Go.RowKit Go.Proofs.YtehmhgpogpbjiaaW.PrintWords Go.Proofs.YtehmhgpogpbjiaaW.PrintLast Go.Proofs.YtehmhgpogpbjiaaW.PrintMore
attribute [local go_sem] Vx Vv VV VU Ve Vd Vw Vu
mutual
def Ye.l0 : Nat → ByteArray → List (S59) → Int → Option ((List (S59)) × Int)
 | 0, _, _, _ => none
 | k + 1, x0, x4, x5 => if x5 < (x0.size : Int) then ((Xb.f x0 x5).bind fun t333 => (if t333 = true then (Ye.l0 k x0 x4 (wrap64 (x5 + 1))) else (Ye.l1 k x0 x4 x5 x5))) else (some (x4, 0))
def Ye.j2 : Nat → ByteArray → List (S59) → Int → Int → Option ((List (S59)) × Int)
 | 0, _, _, _, _ => none
 | k + 1, x0, x4, x5, x6 => if 0 ≤ x5 then (if x5 ≤ x6 then (if x6 ≤ (x0.size : Int) then ((YI.f (x0.extract (x5 : Int).toNat (x6 : Int).toNat)).bind fun t335 => (if t335 = true then (if (x0.extract (x5 : Int).toNat (x6 : Int).toNat).toList = ([92] : List UInt8) then ((Yl.f k x0 x6 10).bind fun t340 => (Ye.l0 k x0 x4 (wrap64 (t340 + 1)))) else (if (x0.extract (x5 : Int).toNat (x6 : Int).toNat).toList = ([40] : List UInt8) then ((Yl.f k x0 x6 41).bind fun t341 => (if (wrap64 (t341 + 1)) > (x0.size : Int) then (some (([] : List (S59)), 15)) else (Ye.l0 k x0 x4 (wrap64 (t341 + 1))))) else (if x6 = (x0.size : Int) then (some (([] : List (S59)), 15)) else (if (x0.extract (x5 : Int).toNat (x6 : Int).toNat).toList = ([46, 40] : List UInt8) then ((Yl.f k x0 (wrap64 (x6 + 1)) 41).bind fun t343 => (if t343 = (x0.size : Int) then (some (([] : List (S59)), 15)) else (if (wrap64 ((wrap64 (t343 - x6)) - 1)) > 255 then (some (([] : List (S59)), 3)) else (if 0 ≤ (wrap64 (x6 + 1)) then (if (wrap64 (x6 + 1)) ≤ t343 then (if t343 ≤ (x0.size : Int) then (if x4.length < 4398046511104 then (Ye.l0 k x0 (x4 ++ [(⟨3, x0.extract ((wrap64 (x6 + 1)) : Int).toNat (t343 : Int).toNat, x5⟩ : S59)]) (wrap64 (t343 + 1))) else (none)) else (none)) else (none)) else (none))))) else ((Yb.f k x0 (wrap64 (x6 + 1))).bind fun bt347 => (if bt347.2.2 = 0 then (if (x0.extract (x5 : Int).toNat (x6 : Int).toNat).toList = ([34] : List UInt8) then (if x4.length < 4398046511104 then (Ye.l0 k x0 (x4 ++ [(⟨2, bt347.1, x5⟩ : S59)]) bt347.2.1) else (none)) else (if x4.length < 4398046511104 then (Ye.l0 k x0 (x4 ++ [(⟨3, bt347.1, x5⟩ : S59)]) bt347.2.1) else (none))) else (some (([] : List (S59)), bt347.2.2)))))))) else ((Ys.f k (x0.extract (x5 : Int).toNat (x6 : Int).toNat)).bind fun t336 => (if x4.length < 4398046511104 then (Ye.l0 k x0 (x4 ++ [(⟨1, t336, x5⟩ : S59)]) x6) else (none))))) else (none)) else (none)) else (none)
def Ye.l1 : Nat → ByteArray → List (S59) → Int → Int → Option ((List (S59)) × Int)
 | 0, _, _, _, _ => none
 | k + 1, x0, x4, x5, x6 => if x6 < (x0.size : Int) then ((Xb.f x0 x6).bind fun t334 => (if t334 = true then (Ye.j2 k x0 x4 x5 x6) else (Ye.l1 k x0 x4 x5 (wrap64 (x6 + 1))))) else (Ye.j2 k x0 x4 x5 x6)
end
def Ye.f (k : Nat) (a0 : ByteArray) : Option ((List (S59)) × Int) := if (a0.size : Int) > 4096 then (some (([] : List (S59)), 3)) else (Ye.l0 k a0 ([] : List (S59)) 0)
theorem Ye.mono_l : ∀ k, (∀ y0 y1 y2, LeO (Ye.l0 k y0 y1 y2) (Ye.l0 (k + 1) y0 y1 y2)) ∧ (∀ y0 y1 y2 y3, LeO (Ye.j2 k y0 y1 y2 y3) (Ye.j2 (k + 1) y0 y1 y2 y3)) ∧ (∀ y0 y1 y2 y3, LeO (Ye.l1 k y0 y1 y2 y3) (Ye.l1 (k + 1) y0 y1 y2 y3))
 | 0 => ⟨fun _ _ _ r h => by simp [Ye.l0] at h, fun _ _ _ _ r h => by simp [Ye.j2] at h, fun _ _ _ _ r h => by simp [Ye.l1] at h⟩
 | k + 1 => by
  obtain ⟨ih0, ih1, ih2⟩ := Ye.mono_l k
  refine ⟨?_, ?_, ?_⟩
  ·intro y0 y1 y2
   unfold Ye.l0
   have ih7 := @Yl.mono; have ih6 := @Yb.mono; have ih5 := @Ys.mono; exact XI
  ·intro y0 y1 y2 y3
   unfold Ye.j2
   have ih7 := @Yl.mono; have ih6 := @Yb.mono; have ih5 := @Ys.mono; exact XI
  ·intro y0 y1 y2 y3
   unfold Ye.l1
   have ih7 := @Yl.mono; have ih6 := @Yb.mono; have ih5 := @Ys.mono; exact XI
theorem Ye.mono : ∀ a0 k, LeO (Ye.f k a0) (Ye.f (k + 1) a0) := by
 intro a0 k
 obtain ⟨ih0, ih1, ih2⟩ := Ye.mono_l k
 unfold Ye.f
 have ih7 := @Yl.mono; have ih6 := @Yb.mono; have ih5 := @Ys.mono; exact XI
theorem Ye.calls (k : Nat) (a0 : ByteArray) (r1 : List (S59)) (r2 : Int) (w : World) (h : Ye.f k a0 = some (r1, r2)) :
 Calls Try.prog 21 #[.string a0] w fun e w' => ∃ v0_ : Value, e = .returned (.tuple #[v0_, .int .i64 r2]) ∧ Kd.R k59 59 w' w.heap.size (fun _ => True) v0_ r1 ∧ Below w.heap.size w w' := by
 have hu59 := Try.underlying59
 have HB := Aside0.mk (Below.refl w.heap.size w)
 have H : (if (a0.size : Int) > 4096 then (some (([] : List (S59)), 3)) else (Ye.l0 k a0 ([] : List (S59)) 0)) = some (r1, r2) := h
 clear h
 by_cases c2 : (a0.size : Int) > 4096
 ·rw [if_pos c2] at H
  have c2b0 := decide_eq_true c2
  have c2b1 : decide (4096 < a0.size) = true := decide_eq_true Z0
  clear c2
  simp only [Option.some.injEq, Prod.mk.injEq] at H
  obtain ⟨rfl, rfl⟩ := H
  go_enter Try.func21, Try.ntmps21
  go_wp2
  go_ret2
  exact Z1s
 ·rw [if_neg c2] at H
  have c2b0 := decide_eq_false c2
  have c2b1 : decide (4096 < a0.size) = false := decide_eq_false Z0
  clear c2
  have H' := Aside0.mk H
  clear H
  go_enter Try.func21, Try.ntmps21
  go_wp2
  go_loopg [4, 5] k (fun kq v4 v5 w' => ∃ (x4_1 : List (S59)) (x5_1 : Int), v5 = .int .i64 x5_1 ∧ Aside0 (Ye.l0 kq a0 x4_1 x5_1 = some (r1, r2)) ∧ Aside0 (kq ≤ k) ∧ Aside0 (Kd.R k59 59 w' w.heap.size (fun _ => True) v4 x4_1) ∧ Aside0 (Below w.heap.size w w'))
  case atStart => exact ⟨(([] : List (S59))), (0), Z4, H', ⟨Nat.le_refl _⟩, ⟨Zl⟩, ⟨Z6⟩⟩
  case round =>
   clear H'
   try clear c2
   try clear c2b0
   try clear c2b1
   try clear p2
   obtain ⟨x4_1, x5_1, rfl, HA, HK1, HO_4, HB⟩ := hrel
   cases gk with
   | zero => exact absurd HA.out (by simp [Ye.l0])
   | succ k1 =>
    have H := HA.out
    clear HA
    simp only [Ye.l0] at H
    by_cases c3 : x5_1 < (a0.size : Int)
    ·rw [if_pos c3] at H
     have c3b0 := decide_eq_true c3
     clear c3
     replace H := bE H; obtain ⟨t333, A4, H⟩ := H
     by_cases c5 : t333 = true
     ·subst c5
      rw [if_pos rfl] at H
      have H' := Aside0.mk H
      clear H
      go_wp2_with (first | ((with_reducible refine Ym (f := 41) rfl ?_); refine YL (some 22) rfl rfl Try.func41 Z2 rfl #[.string a0, .int .i64 x5_1] rfl Zb ?_; (with_reducible refine (Xb.calls a0 x5_1 true _ A4.out).mono ?_); rintro e w' ⟨rfl, ⟨nd, rfl⟩⟩; refine ⟨_, rfl, ?_⟩))
      go_roundg k1
      case measure => have := HK1.out; omega
      case rel => exact ⟨(x4_1), (wrap64 (x5_1 + 1)), Z4, H', ⟨(Zo HK1.out)⟩, ⟨(Zr HO_4.out)⟩, ⟨Z6⟩⟩
     ·replace c5 := Bool.eq_false_iff.mpr c5
      subst c5
      rw [if_neg Z1] at H
      have HC6 := Aside0.mk H
      clear H
      go_upto_block 2 with (first | ((with_reducible refine Ym (f := 41) rfl ?_); refine YL (some 22) rfl rfl Try.func41 Z2 rfl #[.string a0, .int .i64 x5_1] rfl Zb ?_; (with_reducible refine (Xb.calls a0 x5_1 false _ A4.out).mono ?_); rintro e w' ⟨rfl, ⟨nd, rfl⟩⟩; refine ⟨_, rfl, ?_⟩))
      (try simp only [Act.put, List.setIfInBounds_toArray, List.set_cons_zero, List.set_cons_succ])
      go_cut [6] (fun v6 wc => ∃ (kq : Nat) (x6_5 : Int), v6 = .int .i64 x6_5 ∧ Aside0 (Ye.j2 kq a0 x4_1 x5_1 x6_5 = some (r1, r2)) ∧ Aside0 (kq ≤ k1) ∧ Aside0 (Kd.R k59 59 wc w.heap.size (fun _ => True) u4 x4_1) ∧ Aside0 (Below w.heap.size w wc))
      case first =>
       have H := HC6.out
       clear HC6
       have H' := Aside0.mk H
       clear H
       go_wp2
       go_loopg [6] k1 (fun kq v6 w' => ∃ (x6_2 : Int), v6 = .int .i64 x6_2 ∧ Aside0 (Ye.l1 kq a0 x4_1 x5_1 x6_2 = some (r1, r2)) ∧ Aside0 (kq ≤ k1) ∧ Aside0 (Kd.R k59 59 w' w.heap.size (fun _ => True) u4 x4_1) ∧ Aside0 (Below w.heap.size w w'))
       case atStart => exact ⟨(x5_1), Z4, H', ⟨Nat.le_refl _⟩, ⟨(Zr HO_4.out)⟩, ⟨Z6⟩⟩
       case round =>
        clear H'
        try clear c2
        try clear c2b0
        try clear c2b1
        try clear p2
        try clear c3
        try clear c3b0
        try clear c4
        try clear c5
        try clear p6
        try clear p2
        obtain ⟨x6_2, rfl, HA, HK2, HO_4, HB⟩ := hrel
        cases gk with
        | zero => exact absurd HA.out (by simp [Ye.l1])
        | succ k2 =>
         have H := HA.out
         clear HA
         simp only [Ye.l1] at H
         by_cases c7 : x6_2 < (a0.size : Int)
         ·rw [if_pos c7] at H
          have c7b0 := decide_eq_true c7
          clear c7
          (first | rw [c7b0] | (simp only [YH, YJ]; rw [c7b0]) | skip)
          replace H := bE H; obtain ⟨t334, A8, H⟩ := H
          by_cases c9 : t334 = true
          ·subst c9
           rw [if_pos rfl] at H
           have H' := Aside0.mk H
           clear H
           go_wp2_with (first | (go_at_call 41; (with_reducible refine (Xb.calls a0 x6_2 true _ A8.out).mono ?_); rintro e w' ⟨rfl, ⟨nd, rfl⟩⟩))
           go_meet
           case rel => exact ⟨_, (x6_2), Z4, H', ⟨(Zo (And.intro HK1.out HK2.out))⟩, ⟨(Zr HO_4.out)⟩, ⟨Z6⟩⟩
          ·replace c9 := Bool.eq_false_iff.mpr c9
           subst c9
           rw [if_neg Z1] at H
           have H' := Aside0.mk H
           clear H
           go_wp2_with (first | (go_at_call 41; (with_reducible refine (Xb.calls a0 x6_2 false _ A8.out).mono ?_); rintro e w' ⟨rfl, ⟨nd, rfl⟩⟩))
           go_roundg k2
           case measure => have := HK1.out; have := HK2.out; omega
           case rel => exact ⟨(wrap64 (x6_2 + 1)), Z4, H', ⟨(Zo (And.intro HK1.out HK2.out))⟩, ⟨(Zr HO_4.out)⟩, ⟨Z6⟩⟩
         ·rw [if_neg c7] at H
          have c7b0 := decide_eq_false c7
          clear c7
          (first | rw [c7b0] | (simp only [YH, YJ]; rw [c7b0]) | skip)
          have H' := Aside0.mk H
          clear H
          go_wp2
          go_meet
          case rel => exact ⟨_, (x6_2), Z4, H', ⟨(Zo (And.intro HK1.out HK2.out))⟩, ⟨(Zr HO_4.out)⟩, ⟨Z6⟩⟩
      case rest =>
       clear HC6
       try clear c2
       try clear c2b0
       try clear c2b1
       try clear p2
       try clear c3
       try clear c3b0
       try clear c4
       try clear c5
       try clear p6
       try clear c7
       try clear c7b0
       try clear c9
       try clear p2
       try clear p6
       obtain ⟨kq, x6_5, rfl, HA, HJ5, HO_4, HB⟩ := hcut
       cases kq with
       | zero => exact absurd HA.out (by simp [Ye.j2])
       | succ kj5 =>
        have H := HA.out
        clear HA
        simp only [Ye.j2] at H
        by_cases c10 : 0 ≤ x5_1
        ·rw [if_pos c10] at H
         have c10b0 := eq_true c10
         have c10b1 := decide_eq_true c10
         clear c10
         by_cases c11 : x5_1 ≤ x6_5
         ·rw [if_pos c11] at H
          have c11b0 := eq_true c11
          have c11b1 := decide_eq_true c11
          clear c11
          by_cases c12 : x6_5 ≤ (a0.size : Int)
          ·rw [if_pos c12] at H
           have c12b0 := eq_true c12
           have c12b1 := decide_eq_true c12
           clear c12
           replace H := bE H; obtain ⟨t335, A13, H⟩ := H
           by_cases c14 : t335 = true
           ·subst c14
            rw [if_pos rfl] at H
            by_cases c15 : (a0.extract (x5_1 : Int).toNat (x6_5 : Int).toNat).toList = ([92] : List UInt8)
            ·rw [if_pos c15] at H
             obtain ⟨c15b0, c15b1⟩ := eqB c15
             clear c15
             replace H := bE H; obtain ⟨t340, A16, H⟩ := H
             have H' := Aside0.mk H
             clear H
             go_wp2_with (first | ((with_reducible refine Ym (f := 42) rfl ?_); refine YL (some 43) rfl rfl Try.func42 Z2 rfl #[.string (a0.extract (x5_1 : Int).toNat (x6_5 : Int).toNat)] rfl Zb ?_; (with_reducible refine (YI.calls (a0.extract (x5_1 : Int).toNat (x6_5 : Int).toNat) true _ A13.out).mono ?_); rintro e w' ⟨rfl, ⟨nd, rfl⟩⟩; refine ⟨_, rfl, ?_⟩) | ((with_reducible refine Ym (f := 44) rfl ?_); refine YL (some 57) rfl rfl Try.func44 Z2 rfl #[.string a0, .int .i64 x6_5, .int .u8 10] rfl Zb ?_; (with_reducible refine (Yl.calls kj5 a0 x6_5 10 t340 _ A16.out).mono ?_); rintro e w17 ⟨rfl, hb⟩; refine ⟨_, rfl, ?_⟩; have n0_ := Aside0.mk (Kd.R_below (Zr HO_4.out) hb); have n1_ := Aside0.mk (YN Z6 hb); clear HO_4; clear HB; have HO_4 := n0_; have HB := n1_; clear n0_ n1_; (try clear hb); (try clear hb2); (try clear hk); (try clear hi)))
             go_roundg kj5
             case measure => have := HK1.out; have := HJ5.out; omega
             case rel => exact ⟨(x4_1), (wrap64 (t340 + 1)), Z4, H', ⟨(Zo (And.intro HK1.out HJ5.out))⟩, ⟨(Zr HO_4.out)⟩, ⟨Z6⟩⟩
            ·rw [if_neg c15] at H
             obtain ⟨c15b0, c15b1⟩ := neB c15
             by_cases c18 : (a0.extract (x5_1 : Int).toNat (x6_5 : Int).toNat).toList = ([40] : List UInt8)
             ·rw [if_pos c18] at H
              obtain ⟨c18b0, c18b1⟩ := eqB c18
              clear c18
              replace H := bE H; obtain ⟨t341, A19, H⟩ := H
              by_cases c20 : (wrap64 (t341 + 1)) > (a0.size : Int)
              ·rw [if_pos c20] at H
               have c20b0 := decide_eq_true c20
               clear c20
               simp only [Option.some.injEq, Prod.mk.injEq] at H
               obtain ⟨rfl, rfl⟩ := H
               go_wp2_with (first | ((with_reducible refine Ym (f := 42) rfl ?_); refine YL (some 43) rfl rfl Try.func42 Z2 rfl #[.string (a0.extract (x5_1 : Int).toNat (x6_5 : Int).toNat)] rfl Zb ?_; (with_reducible refine (YI.calls (a0.extract (x5_1 : Int).toNat (x6_5 : Int).toNat) true _ A13.out).mono ?_); rintro e w' ⟨rfl, ⟨nd, rfl⟩⟩; refine ⟨_, rfl, ?_⟩) | ((with_reducible refine Ym (f := 44) rfl ?_); refine YL (some 63) rfl rfl Try.func44 Z2 rfl #[.string a0, .int .i64 x6_5, .int .u8 41] rfl Zb ?_; (with_reducible refine (Yl.calls kj5 a0 x6_5 41 t341 _ A19.out).mono ?_); rintro e w21 ⟨rfl, hb⟩; refine ⟨_, rfl, ?_⟩; have n0_ := Aside0.mk (Kd.R_below (Zr HO_4.out) hb); have n1_ := Aside0.mk (YN Z6 hb); clear HO_4; clear HB; have HO_4 := n0_; have HB := n1_; clear n0_ n1_; (try clear hb); (try clear hb2); (try clear hk); (try clear hi)))
               go_ret2
               exact Z1s
              ·rw [if_neg c20] at H
               have c20b0 := decide_eq_false c20
               clear c20
               have H' := Aside0.mk H
               clear H
               go_wp2_with (first | ((with_reducible refine Ym (f := 42) rfl ?_); refine YL (some 43) rfl rfl Try.func42 Z2 rfl #[.string (a0.extract (x5_1 : Int).toNat (x6_5 : Int).toNat)] rfl Zb ?_; (with_reducible refine (YI.calls (a0.extract (x5_1 : Int).toNat (x6_5 : Int).toNat) true _ A13.out).mono ?_); rintro e w' ⟨rfl, ⟨nd, rfl⟩⟩; refine ⟨_, rfl, ?_⟩) | ((with_reducible refine Ym (f := 44) rfl ?_); refine YL (some 63) rfl rfl Try.func44 Z2 rfl #[.string a0, .int .i64 x6_5, .int .u8 41] rfl Zb ?_; (with_reducible refine (Yl.calls kj5 a0 x6_5 41 t341 _ A19.out).mono ?_); rintro e w22 ⟨rfl, hb⟩; refine ⟨_, rfl, ?_⟩; have n0_ := Aside0.mk (Kd.R_below (Zr HO_4.out) hb); have n1_ := Aside0.mk (YN Z6 hb); clear HO_4; clear HB; have HO_4 := n0_; have HB := n1_; clear n0_ n1_; (try clear hb); (try clear hb2); (try clear hk); (try clear hi)))
               go_roundg kj5
               case measure => have := HK1.out; have := HJ5.out; omega
               case rel => exact ⟨(x4_1), (wrap64 (t341 + 1)), Z4, H', ⟨(Zo (And.intro HK1.out HJ5.out))⟩, ⟨(Zr HO_4.out)⟩, ⟨Z6⟩⟩
             ·rw [if_neg c18] at H
              obtain ⟨c18b0, c18b1⟩ := neB c18
              by_cases c23 : x6_5 = (a0.size : Int)
              ·rw [if_pos c23] at H
               obtain ⟨c23b0, c23b1⟩ := eqB c23
               clear c23
               simp only [Option.some.injEq, Prod.mk.injEq] at H
               obtain ⟨rfl, rfl⟩ := H
               go_wp2_with (first | ((with_reducible refine Ym (f := 42) rfl ?_); refine YL (some 43) rfl rfl Try.func42 Z2 rfl #[.string (a0.extract (x5_1 : Int).toNat (x6_5 : Int).toNat)] rfl Zb ?_; (with_reducible refine (YI.calls (a0.extract (x5_1 : Int).toNat (x6_5 : Int).toNat) true _ A13.out).mono ?_); rintro e w' ⟨rfl, ⟨nd, rfl⟩⟩; refine ⟨_, rfl, ?_⟩))
               go_ret2
               exact Z1s
              ·rw [if_neg c23] at H
               obtain ⟨c23b0, c23b1⟩ := neB c23
               by_cases c24 : (a0.extract (x5_1 : Int).toNat (x6_5 : Int).toNat).toList = ([46, 40] : List UInt8)
               ·rw [if_pos c24] at H
                obtain ⟨c24b0, c24b1⟩ := eqB c24
                clear c24
                replace H := bE H; obtain ⟨t343, A25, H⟩ := H
                by_cases c26 : t343 = (a0.size : Int)
                ·rw [if_pos c26] at H
                 obtain ⟨c26b0, c26b1⟩ := eqB c26
                 clear c26
                 simp only [Option.some.injEq, Prod.mk.injEq] at H
                 obtain ⟨rfl, rfl⟩ := H
                 go_wp2_with (first | ((with_reducible refine Ym (f := 42) rfl ?_); refine YL (some 43) rfl rfl Try.func42 Z2 rfl #[.string (a0.extract (x5_1 : Int).toNat (x6_5 : Int).toNat)] rfl Zb ?_; (with_reducible refine (YI.calls (a0.extract (x5_1 : Int).toNat (x6_5 : Int).toNat) true _ A13.out).mono ?_); rintro e w' ⟨rfl, ⟨nd, rfl⟩⟩; refine ⟨_, rfl, ?_⟩; (try (rw [Ub wc]; generalize hq_ : World.drewN wc _ = wc; have n0_ : Aside0 (Kd.R k59 59 wc w.heap.size (fun _ => True) u4 x4_1) := ⟨ZY⟩; have n1_ : Aside0 (Below w.heap.size w wc) := ⟨ZU⟩; clear HO_4 HB hq_; have HO_4 := n0_; have HB := n1_; clear n0_ n1_))) | ((with_reducible refine Vm (N := 8) rfl ?_); refine Uu ?hg (N := 8) ?hd (cs := #[.int .i64 0, .string (⟨#[]⟩ : ByteArray), .int .i64 0]) (t := 59) ?hr ?_; (case hd => rfl); (case hg => rfl); (case hr => exact Zx); intro gb342 hg w27 hbox hb; have n0_ := Aside0.mk (Kd.R_below (Kd.R_elderB (Zr HO_4.out) gb342 (Nat.le_of_eq hg.symm)) hb); have n1_ := Aside0.mk (YN Z6 hb); have n2_ := Aside0.mk (hbox); have n3_ := Aside0.mk ((by rw [hg]; exact (YK Z6) : w.heap.size ≤ gb342)); have n4_ := Aside0.mk ((by rw [hg]; exact (YK Z6) : w.heap.size ≤ gb342)); clear HO_4; clear HB; have HO_4 := n0_; have HB := n1_; have BK342 := n2_; have GW342 := n3_; have GE342 := n4_; clear n0_ n1_ n2_ n3_ n4_; clear hb hbox hg; have hcz28_0 : w27.cell? ⟨gb342, 0, none⟩ = some (.int .i64 0) := (Ya BK342.out 0).trans rfl; have hcz28_1 : w27.cell? ⟨gb342, 1, none⟩ = some (.string (⟨#[]⟩ : ByteArray)) := (Ya BK342.out 1).trans rfl; have hcz28_2 : w27.cell? ⟨gb342, 2, none⟩ = some (.int .i64 0) := (Ya BK342.out 2).trans rfl; have hfz28_0 := Yf BK342.out 0; have hfz28_1 := Yf BK342.out 1; have hfz28_2 := Yf BK342.out 2) | ((with_reducible refine Ym (f := 44) rfl ?_); refine YL (some 80) rfl rfl Try.func44 Z2 rfl #[.string a0, .int .i64 (wrap64 (x6_5 + 1)), .int .u8 41] rfl Zb ?_; (with_reducible refine (Yl.calls kj5 a0 (wrap64 (x6_5 + 1)) 41 t343 _ A25.out).mono ?_); rintro e w29 ⟨rfl, hb⟩; refine ⟨_, rfl, ?_⟩; have n0_ := Aside0.mk (Kd.R_below ZT hb); have n1_ := Aside0.mk (YQ (g := gb342) (o := .cells #[.int .i64 3, .string (⟨#[]⟩ : ByteArray), .int .i64 x5_1] 59 (0, 0)) ZS hb); have n2_ := Aside0.mk (YN Zk hb); clear HO_4; clear BK342; clear HB; have HO_4 := n0_; have BK342 := n1_; have HB := n2_; clear n0_ n1_ n2_; (try clear hb); (try clear hb2); (try clear hk); (try clear hi)))
                 go_ret2
                 exact Z1L
                ·rw [if_neg c26] at H
                 obtain ⟨c26b0, c26b1⟩ := neB c26
                 by_cases c30 : (wrap64 ((wrap64 (t343 - x6_5)) - 1)) > 255
                 ·rw [if_pos c30] at H
                  have c30b0 := decide_eq_true c30
                  clear c30
                  simp only [Option.some.injEq, Prod.mk.injEq] at H
                  obtain ⟨rfl, rfl⟩ := H
                  go_wp2_with (first | ((with_reducible refine Ym (f := 42) rfl ?_); refine YL (some 43) rfl rfl Try.func42 Z2 rfl #[.string (a0.extract (x5_1 : Int).toNat (x6_5 : Int).toNat)] rfl Zb ?_; (with_reducible refine (YI.calls (a0.extract (x5_1 : Int).toNat (x6_5 : Int).toNat) true _ A13.out).mono ?_); rintro e w' ⟨rfl, ⟨nd, rfl⟩⟩; refine ⟨_, rfl, ?_⟩; (try (rw [Ub wc]; generalize hq_ : World.drewN wc _ = wc; have n0_ : Aside0 (Kd.R k59 59 wc w.heap.size (fun _ => True) u4 x4_1) := ⟨ZY⟩; have n1_ : Aside0 (Below w.heap.size w wc) := ⟨ZU⟩; clear HO_4 HB hq_; have HO_4 := n0_; have HB := n1_; clear n0_ n1_))) | ((with_reducible refine Vm (N := 8) rfl ?_); refine Uu ?hg (N := 8) ?hd (cs := #[.int .i64 0, .string (⟨#[]⟩ : ByteArray), .int .i64 0]) (t := 59) ?hr ?_; (case hd => rfl); (case hg => rfl); (case hr => exact Zx); intro gb342 hg w31 hbox hb; have n0_ := Aside0.mk (Kd.R_below (Kd.R_elderB (Zr HO_4.out) gb342 (Nat.le_of_eq hg.symm)) hb); have n1_ := Aside0.mk (YN Z6 hb); have n2_ := Aside0.mk (hbox); have n3_ := Aside0.mk ((by rw [hg]; exact (YK Z6) : w.heap.size ≤ gb342)); have n4_ := Aside0.mk ((by rw [hg]; exact (YK Z6) : w.heap.size ≤ gb342)); clear HO_4; clear HB; have HO_4 := n0_; have HB := n1_; have BK342 := n2_; have GW342 := n3_; have GE342 := n4_; clear n0_ n1_ n2_ n3_ n4_; clear hb hbox hg; have hcz32_0 : w31.cell? ⟨gb342, 0, none⟩ = some (.int .i64 0) := (Ya BK342.out 0).trans rfl; have hcz32_1 : w31.cell? ⟨gb342, 1, none⟩ = some (.string (⟨#[]⟩ : ByteArray)) := (Ya BK342.out 1).trans rfl; have hcz32_2 : w31.cell? ⟨gb342, 2, none⟩ = some (.int .i64 0) := (Ya BK342.out 2).trans rfl; have hfz32_0 := Yf BK342.out 0; have hfz32_1 := Yf BK342.out 1; have hfz32_2 := Yf BK342.out 2) | ((with_reducible refine Ym (f := 44) rfl ?_); refine YL (some 80) rfl rfl Try.func44 Z2 rfl #[.string a0, .int .i64 (wrap64 (x6_5 + 1)), .int .u8 41] rfl Zb ?_; (with_reducible refine (Yl.calls kj5 a0 (wrap64 (x6_5 + 1)) 41 t343 _ A25.out).mono ?_); rintro e w33 ⟨rfl, hb⟩; refine ⟨_, rfl, ?_⟩; have n0_ := Aside0.mk (Kd.R_below ZT hb); have n1_ := Aside0.mk (YQ (g := gb342) (o := .cells #[.int .i64 3, .string (⟨#[]⟩ : ByteArray), .int .i64 x5_1] 59 (0, 0)) ZS hb); have n2_ := Aside0.mk (YN Zk hb); clear HO_4; clear BK342; clear HB; have HO_4 := n0_; have BK342 := n1_; have HB := n2_; clear n0_ n1_ n2_; (try clear hb); (try clear hb2); (try clear hk); (try clear hi)))
                  go_ret2
                  exact Z1L
                 ·rw [if_neg c30] at H
                  have c30b0 := decide_eq_false c30
                  clear c30
                  obtain ⟨ji34, hji34⟩ : ∃ j_ : Int, (wrap64 (x6_5 + 1)) = j_ := ⟨_, rfl⟩
                  replace H : (if 0 ≤ (ji34) then (if (ji34) ≤ t343 then (if t343 ≤ (a0.size : Int) then (if x4_1.length < 4398046511104 then (Ye.l0 kj5 a0 (x4_1 ++ [(⟨3, a0.extract ((ji34) : Int).toNat (t343 : Int).toNat, x5_1⟩ : S59)]) (wrap64 (t343 + 1))) else (none)) else (none)) else (none)) else (none)) = some (r1, r2) := by first | (rw [hji34] at H; exact H) | (simp only [hji34] at H ⊢; exact H)
                  (try rw [hji34] at A13)
                  (try rw [hji34] at A25)
                  have hji34w : (IntKind.i64.wrap (x6_5 + 1)) = ji34 := (YH _).trans hji34
                  by_cases c35 : 0 ≤ (ji34)
                  ·rw [if_pos c35] at H
                   have c35b0 := eq_true c35
                   have c35b1 := decide_eq_true c35
                   clear c35
                   by_cases c36 : (ji34) ≤ t343
                   ·rw [if_pos c36] at H
                    have c36b0 := eq_true c36
                    have c36b1 := decide_eq_true c36
                    clear c36
                    by_cases c37 : t343 ≤ (a0.size : Int)
                    ·rw [if_pos c37] at H
                     have c37b0 := eq_true c37
                     have c37b1 := decide_eq_true c37
                     clear c37
                     by_cases c38 : x4_1.length < 4398046511104
                     ·rw [if_pos c38] at H
                      have LMc38 := Aside0.mk c38
                      clear c38
                      obtain ⟨y344, Ny344⟩ := aE (x4_1 ++ [(⟨3, a0.extract ((ji34) : Int).toNat (t343 : Int).toNat, x5_1⟩ : S59)]); rw [← Ny344.out] at H; try rw [Option.bind_some] at H
                      have H' := Aside0.mk H
                      clear H
                      go_wp2_with (first | ((with_reducible refine Ym (f := 42) rfl ?_); refine YL (some 43) rfl rfl Try.func42 Z2 rfl #[.string (a0.extract (x5_1 : Int).toNat (x6_5 : Int).toNat)] rfl Zb ?_; (with_reducible refine (YI.calls (a0.extract (x5_1 : Int).toNat (x6_5 : Int).toNat) true _ A13.out).mono ?_); rintro e w' ⟨rfl, ⟨nd, rfl⟩⟩; refine ⟨_, rfl, ?_⟩; (try (rw [Ub wc]; generalize hq_ : World.drewN wc _ = wc; have n0_ : Aside0 (Kd.R k59 59 wc w.heap.size (fun _ => True) u4 x4_1) := ⟨ZY⟩; have n1_ : Aside0 (Below w.heap.size w wc) := ⟨ZU⟩; clear HO_4 HB hq_; have HO_4 := n0_; have HB := n1_; clear n0_ n1_))) | ((with_reducible refine Vm (N := 8) rfl ?_); refine Uu ?hg (N := 8) ?hd (cs := #[.int .i64 0, .string (⟨#[]⟩ : ByteArray), .int .i64 0]) (t := 59) ?hr ?_; (case hd => rfl); (case hg => rfl); (case hr => exact Zx); intro gb342 hg w39 hbox hb; have n0_ := Aside0.mk (Kd.R_below (Kd.R_elderB (Zr HO_4.out) gb342 (Nat.le_of_eq hg.symm)) hb); have n1_ := Aside0.mk (YN Z6 hb); have n2_ := Aside0.mk (hbox); have n3_ := Aside0.mk ((by rw [hg]; exact (YK Z6) : w.heap.size ≤ gb342)); have n4_ := Aside0.mk ((by rw [hg]; exact (YK Z6) : w.heap.size ≤ gb342)); clear HO_4; clear HB; have HO_4 := n0_; have HB := n1_; have BK342 := n2_; have GW342 := n3_; have GE342 := n4_; clear n0_ n1_ n2_ n3_ n4_; clear hb hbox hg; have hcz40_0 : w39.cell? ⟨gb342, 0, none⟩ = some (.int .i64 0) := (Ya BK342.out 0).trans rfl; have hcz40_1 : w39.cell? ⟨gb342, 1, none⟩ = some (.string (⟨#[]⟩ : ByteArray)) := (Ya BK342.out 1).trans rfl; have hcz40_2 : w39.cell? ⟨gb342, 2, none⟩ = some (.int .i64 0) := (Ya BK342.out 2).trans rfl; have hfz40_0 := Yf BK342.out 0; have hfz40_1 := Yf BK342.out 1; have hfz40_2 := Yf BK342.out 2) | ((with_reducible refine Ym (f := 44) rfl ?_); refine YL (some 80) rfl rfl Try.func44 Z2 rfl #[.string a0, .int .i64 ji34, .int .u8 41] rfl (by (try simp only [List.map_toArray, List.map_cons, List.map_nil]); first | done | (simp only [hji34]; rfl) | rfl | (simp only [List.length_drop, List.length_take]; rfl)) ?_; (with_reducible refine (Yl.calls kj5 a0 ji34 41 t343 _ A25.out).mono ?_); rintro e w41 ⟨rfl, hb⟩; refine ⟨_, rfl, ?_⟩; have n0_ := Aside0.mk (Kd.R_below ZT hb); have n1_ := Aside0.mk (YQ (g := gb342) (o := .cells #[.int .i64 3, .string (⟨#[]⟩ : ByteArray), .int .i64 x5_1] 59 (0, 0)) ZS hb); have n2_ := Aside0.mk (YN Zk hb); clear HO_4; clear BK342; clear HB; have HO_4 := n0_; have BK342 := n1_; have HB := n2_; clear n0_ n1_ n2_; (try clear hb); (try clear hb2); (try clear hk); (try clear hi); have hcz42_0 : w41.cell? ⟨gb342, 0, none⟩ = some (.int .i64 3) := (Ya BK342.out 0).trans rfl; have hcz42_1 : w41.cell? ⟨gb342, 1, none⟩ = some (.string (⟨#[]⟩ : ByteArray)) := (Ya BK342.out 1).trans rfl; have hcz42_2 : w41.cell? ⟨gb342, 2, none⟩ = some (.int .i64 x5_1) := (Ya BK342.out 2).trans rfl; have hfz42_0 := Yf BK342.out 0; have hfz42_1 := Yf BK342.out 1; have hfz42_2 := Yf BK342.out 2) | ((with_reducible refine Xj (b := .append) (xs := #[.tmp 115, .tmp 117]) rfl ?_); at_builtin; refine Kd.R_append k59 (w0 := w) w.heap.size rfl (.tmp 115) (.tmp 117) 48 59 (.agg #[(.int .i64 0), (.string ⟨#[]⟩), (.int .i64 0)]) 32 rfl Try.underlying48 YaC rfl Z1 Z0 u4 x4_1 (⟨3, a0.extract ((ji34) : Int).toNat (t343 : Int).toNat, x5_1⟩ : S59) [.int .i64 3, .string (a0.extract ((ji34) : Int).toNat (t343 : Int).toNat), .int .i64 x5_1] (fun k_ => k_ ≠ gb342) (fun _ => False) rfl Zx ?aP (fun _ hk => hk.elim) ?aF ?aO ?aB ?aS ?aL ?_; (case aP => exact JG _ _ _ (⟨3, a0.extract ((ji34) : Int).toNat (t343 : Int).toNat, x5_1⟩ : S59)); (case aB => exact Zk); (case aF => exact (by exact (fun k_ hk => Kd.freshB (g := gb342) (o := .cells #[.int .i64 3, .string (a0.extract ((ji34) : Int).toNat (t343 : Int).toNat), .int .i64 x5_1] 59 (0, 0)) Z1e k_ hk))); (case aO => exact (by (with_reducible repeat (first | apply Kd.R_alloc | apply Kd.R_drewN | apply Kd.R_drew)); exact Kd.R_mono (Kd.R_far (p := ⟨gb342, 1, none⟩) (Kd.R_mono HO_4.out (fun k_ hk => (⟨hk, hk.2⟩ : _ ∧ k_ ≠ gb342))) (fun _ hk => hk.2) (.string (a0.extract ((ji34) : Int).toNat (t343 : Int).toNat))) (fun _ hk => hk.1.2))); (case aS => exact (YK Zk)); (case aL => exact (Zo LMc38.out)); intro v345 w43 ho hb hg hat; rw [← Ny344.out] at ho; have n0_ := Aside0.mk (XU (g := gb342) (o := .cells #[.int .i64 3, .string (a0.extract ((ji34) : Int).toNat (t343 : Int).toNat), .int .i64 x5_1] 59 (0, 0)) Z1e hg (Kd.R_away HO_4.out (fun _ hk => hk.2))); have n1_ := Aside0.mk (hb); have n2_ := Aside0.mk (ho); clear BK342; clear HB; clear HO_4; have BK342 := n0_; have HB := n1_; have HO346 := n2_; clear n0_ n1_ n2_; clear ho hb hg hat))
                      go_roundg kj5
                      case measure => have := HK1.out; have := HJ5.out; omega
                      case rel => exact ⟨(y344), (wrap64 (t343 + 1)), Z4, H', ⟨(Zo (And.intro HK1.out HJ5.out))⟩, ⟨(by (with_reducible repeat (first | apply Kd.R_alloc | apply Kd.R_drewN | apply Kd.R_drew)); exact Kd.R_mono HO346.out (fun _ hk => trivial))⟩, ⟨Zk⟩⟩
                     ·rw [if_neg c38] at H
                      exact absurd H Z3
                    ·rw [if_neg c37] at H
                     exact absurd H Z3
                   ·rw [if_neg c36] at H
                    exact absurd H Z3
                  ·rw [if_neg c35] at H
                   exact absurd H Z3
               ·rw [if_neg c24] at H
                obtain ⟨c24b0, c24b1⟩ := neB c24
                replace H := bE H; obtain ⟨⟨t347, t348, t349⟩, A44, H⟩ := H; try dsimp only at H
                by_cases c45 : t349 = 0
                ·rw [if_pos c45] at H
                 obtain ⟨c45b0, c45b1⟩ := eqB c45
                 clear c45
                 by_cases c46 : (a0.extract (x5_1 : Int).toNat (x6_5 : Int).toNat).toList = ([34] : List UInt8)
                 ·rw [if_pos c46] at H
                  obtain ⟨c46b0, c46b1⟩ := eqB c46
                  clear c46
                  by_cases c47 : x4_1.length < 4398046511104
                  ·rw [if_pos c47] at H
                   have LMc47 := Aside0.mk c47
                   clear c47
                   obtain ⟨y350, Ny350⟩ := aE (x4_1 ++ [(⟨2, t347, x5_1⟩ : S59)]); rw [← Ny350.out] at H; try rw [Option.bind_some] at H
                   have H' := Aside0.mk H
                   clear H
                   go_wp2_with (first | ((with_reducible refine Ym (f := 42) rfl ?_); refine YL (some 43) rfl rfl Try.func42 Z2 rfl #[.string (a0.extract (x5_1 : Int).toNat (x6_5 : Int).toNat)] rfl Zb ?_; (with_reducible refine (YI.calls (a0.extract (x5_1 : Int).toNat (x6_5 : Int).toNat) true _ A13.out).mono ?_); rintro e w' ⟨rfl, ⟨nd, rfl⟩⟩; refine ⟨_, rfl, ?_⟩; (try (rw [Ub wc]; generalize hq_ : World.drewN wc _ = wc; have n0_ : Aside0 (Kd.R k59 59 wc w.heap.size (fun _ => True) u4 x4_1) := ⟨ZY⟩; have n1_ : Aside0 (Below w.heap.size w wc) := ⟨ZU⟩; clear HO_4 HB hq_; have HO_4 := n0_; have HB := n1_; clear n0_ n1_))) | ((with_reducible refine Vm (N := 8) rfl ?_); refine Uu ?hg (N := 8) ?hd (cs := #[.int .i64 0, .string (⟨#[]⟩ : ByteArray), .int .i64 0]) (t := 59) ?hr ?_; (case hd => rfl); (case hg => rfl); (case hr => exact Zx); intro gb342 hg w48 hbox hb; have n0_ := Aside0.mk (Kd.R_below (Kd.R_elderB (Zr HO_4.out) gb342 (Nat.le_of_eq hg.symm)) hb); have n1_ := Aside0.mk (YN Z6 hb); have n2_ := Aside0.mk (hbox); have n3_ := Aside0.mk ((by rw [hg]; exact (YK Z6) : w.heap.size ≤ gb342)); have n4_ := Aside0.mk ((by rw [hg]; exact (YK Z6) : w.heap.size ≤ gb342)); clear HO_4; clear HB; have HO_4 := n0_; have HB := n1_; have BK342 := n2_; have GW342 := n3_; have GE342 := n4_; clear n0_ n1_ n2_ n3_ n4_; clear hb hbox hg; have hcz49_0 : w48.cell? ⟨gb342, 0, none⟩ = some (.int .i64 0) := (Ya BK342.out 0).trans rfl; have hcz49_1 : w48.cell? ⟨gb342, 1, none⟩ = some (.string (⟨#[]⟩ : ByteArray)) := (Ya BK342.out 1).trans rfl; have hcz49_2 : w48.cell? ⟨gb342, 2, none⟩ = some (.int .i64 0) := (Ya BK342.out 2).trans rfl; have hfz49_0 := Yf BK342.out 0; have hfz49_1 := Yf BK342.out 1; have hfz49_2 := Yf BK342.out 2) | ((with_reducible refine Ym (f := 45) rfl ?_); refine YL (some 102) rfl rfl Try.func45 Z2 rfl #[.string a0, .int .i64 (wrap64 (x6_5 + 1))] rfl Zb ?_; (with_reducible refine (Yb.calls kj5 a0 (wrap64 (x6_5 + 1)) t347 t348 t349 _ A44.out).mono ?_); rintro e w50 ⟨rfl, hb⟩; refine ⟨_, rfl, ?_⟩; have n0_ := Aside0.mk (Kd.R_below ZT hb); have n1_ := Aside0.mk (YQ (g := gb342) (o := .cells #[.int .i64 3, .string (⟨#[]⟩ : ByteArray), .int .i64 x5_1] 59 (0, 0)) ZS hb); have n2_ := Aside0.mk (YN Zk hb); clear HO_4; clear BK342; clear HB; have HO_4 := n0_; have BK342 := n1_; have HB := n2_; clear n0_ n1_ n2_; (try clear hb); (try clear hb2); (try clear hk); (try clear hi); have hcz51_0 : w50.cell? ⟨gb342, 0, none⟩ = some (.int .i64 3) := (Ya BK342.out 0).trans rfl; have hcz51_1 : w50.cell? ⟨gb342, 1, none⟩ = some (.string (⟨#[]⟩ : ByteArray)) := (Ya BK342.out 1).trans rfl; have hcz51_2 : w50.cell? ⟨gb342, 2, none⟩ = some (.int .i64 x5_1) := (Ya BK342.out 2).trans rfl; have hfz51_0 := Yf BK342.out 0; have hfz51_1 := Yf BK342.out 1; have hfz51_2 := Yf BK342.out 2) | ((with_reducible refine Xj (b := .append) (xs := #[.tmp 115, .tmp 117]) rfl ?_); at_builtin; refine Kd.R_append k59 (w0 := w) w.heap.size rfl (.tmp 115) (.tmp 117) 48 59 (.agg #[(.int .i64 0), (.string ⟨#[]⟩), (.int .i64 0)]) 32 rfl Try.underlying48 YaC rfl Z1 Z0 u4 x4_1 (⟨2, t347, x5_1⟩ : S59) [.int .i64 2, .string t347, .int .i64 x5_1] (fun k_ => k_ ≠ gb342) (fun _ => False) rfl Zx ?aP (fun _ hk => hk.elim) ?aF ?aO ?aB ?aS ?aL ?_; (case aP => exact JG _ _ _ (⟨2, t347, x5_1⟩ : S59)); (case aB => exact Zk); (case aF => exact (by exact (fun k_ hk => Kd.freshB (g := gb342) (o := .cells #[.int .i64 2, .string t347, .int .i64 x5_1] 59 (0, 0)) Z20 k_ hk))); (case aO => exact (by (with_reducible repeat (first | apply Kd.R_alloc | apply Kd.R_drewN | apply Kd.R_drew)); exact Kd.R_mono (Kd.R_far (p := ⟨gb342, 1, none⟩) (Kd.R_far (p := ⟨gb342, 0, none⟩) (Kd.R_mono HO_4.out (fun k_ hk => (⟨hk, hk.2⟩ : _ ∧ k_ ≠ gb342))) (fun _ hk => hk.2) (.int .i64 2)) (fun _ hk => hk.2) (.string t347)) (fun _ hk => hk.1.2))); (case aS => exact (YK Zk)); (case aL => exact (Zo LMc47.out)); intro v351 w52 ho hb hg hat; rw [← Ny350.out] at ho; have n0_ := Aside0.mk (XU (g := gb342) (o := .cells #[.int .i64 2, .string t347, .int .i64 x5_1] 59 (0, 0)) Z20 hg (Kd.R_away HO_4.out (fun _ hk => hk.2))); have n1_ := Aside0.mk (hb); have n2_ := Aside0.mk (ho); clear BK342; clear HB; clear HO_4; have BK342 := n0_; have HB := n1_; have HO352 := n2_; clear n0_ n1_ n2_; clear ho hb hg hat))
                   go_roundg kj5
                   case measure => have := HK1.out; have := HJ5.out; omega
                   case rel => exact ⟨(y350), (t348), Z4, H', ⟨(Zo (And.intro HK1.out HJ5.out))⟩, ⟨(by (with_reducible repeat (first | apply Kd.R_alloc | apply Kd.R_drewN | apply Kd.R_drew)); exact Kd.R_mono HO352.out (fun _ hk => trivial))⟩, ⟨Zk⟩⟩
                  ·rw [if_neg c47] at H
                   exact absurd H Z3
                 ·rw [if_neg c46] at H
                  obtain ⟨c46b0, c46b1⟩ := neB c46
                  by_cases c53 : x4_1.length < 4398046511104
                  ·rw [if_pos c53] at H
                   have LMc53 := Aside0.mk c53
                   clear c53
                   obtain ⟨y353, Ny353⟩ := aE (x4_1 ++ [(⟨3, t347, x5_1⟩ : S59)]); rw [← Ny353.out] at H; try rw [Option.bind_some] at H
                   have H' := Aside0.mk H
                   clear H
                   go_wp2_with (first | ((with_reducible refine Ym (f := 42) rfl ?_); refine YL (some 43) rfl rfl Try.func42 Z2 rfl #[.string (a0.extract (x5_1 : Int).toNat (x6_5 : Int).toNat)] rfl Zb ?_; (with_reducible refine (YI.calls (a0.extract (x5_1 : Int).toNat (x6_5 : Int).toNat) true _ A13.out).mono ?_); rintro e w' ⟨rfl, ⟨nd, rfl⟩⟩; refine ⟨_, rfl, ?_⟩; (try (rw [Ub wc]; generalize hq_ : World.drewN wc _ = wc; have n0_ : Aside0 (Kd.R k59 59 wc w.heap.size (fun _ => True) u4 x4_1) := ⟨ZY⟩; have n1_ : Aside0 (Below w.heap.size w wc) := ⟨ZU⟩; clear HO_4 HB hq_; have HO_4 := n0_; have HB := n1_; clear n0_ n1_))) | ((with_reducible refine Vm (N := 8) rfl ?_); refine Uu ?hg (N := 8) ?hd (cs := #[.int .i64 0, .string (⟨#[]⟩ : ByteArray), .int .i64 0]) (t := 59) ?hr ?_; (case hd => rfl); (case hg => rfl); (case hr => exact Zx); intro gb342 hg w54 hbox hb; have n0_ := Aside0.mk (Kd.R_below (Kd.R_elderB (Zr HO_4.out) gb342 (Nat.le_of_eq hg.symm)) hb); have n1_ := Aside0.mk (YN Z6 hb); have n2_ := Aside0.mk (hbox); have n3_ := Aside0.mk ((by rw [hg]; exact (YK Z6) : w.heap.size ≤ gb342)); have n4_ := Aside0.mk ((by rw [hg]; exact (YK Z6) : w.heap.size ≤ gb342)); clear HO_4; clear HB; have HO_4 := n0_; have HB := n1_; have BK342 := n2_; have GW342 := n3_; have GE342 := n4_; clear n0_ n1_ n2_ n3_ n4_; clear hb hbox hg; have hcz55_0 : w54.cell? ⟨gb342, 0, none⟩ = some (.int .i64 0) := (Ya BK342.out 0).trans rfl; have hcz55_1 : w54.cell? ⟨gb342, 1, none⟩ = some (.string (⟨#[]⟩ : ByteArray)) := (Ya BK342.out 1).trans rfl; have hcz55_2 : w54.cell? ⟨gb342, 2, none⟩ = some (.int .i64 0) := (Ya BK342.out 2).trans rfl; have hfz55_0 := Yf BK342.out 0; have hfz55_1 := Yf BK342.out 1; have hfz55_2 := Yf BK342.out 2) | ((with_reducible refine Ym (f := 45) rfl ?_); refine YL (some 102) rfl rfl Try.func45 Z2 rfl #[.string a0, .int .i64 (wrap64 (x6_5 + 1))] rfl Zb ?_; (with_reducible refine (Yb.calls kj5 a0 (wrap64 (x6_5 + 1)) t347 t348 t349 _ A44.out).mono ?_); rintro e w56 ⟨rfl, hb⟩; refine ⟨_, rfl, ?_⟩; have n0_ := Aside0.mk (Kd.R_below ZT hb); have n1_ := Aside0.mk (YQ (g := gb342) (o := .cells #[.int .i64 3, .string (⟨#[]⟩ : ByteArray), .int .i64 x5_1] 59 (0, 0)) ZS hb); have n2_ := Aside0.mk (YN Zk hb); clear HO_4; clear BK342; clear HB; have HO_4 := n0_; have BK342 := n1_; have HB := n2_; clear n0_ n1_ n2_; (try clear hb); (try clear hb2); (try clear hk); (try clear hi); have hcz57_0 : w56.cell? ⟨gb342, 0, none⟩ = some (.int .i64 3) := (Ya BK342.out 0).trans rfl; have hcz57_1 : w56.cell? ⟨gb342, 1, none⟩ = some (.string (⟨#[]⟩ : ByteArray)) := (Ya BK342.out 1).trans rfl; have hcz57_2 : w56.cell? ⟨gb342, 2, none⟩ = some (.int .i64 x5_1) := (Ya BK342.out 2).trans rfl; have hfz57_0 := Yf BK342.out 0; have hfz57_1 := Yf BK342.out 1; have hfz57_2 := Yf BK342.out 2) | ((with_reducible refine Xj (b := .append) (xs := #[.tmp 115, .tmp 117]) rfl ?_); at_builtin; refine Kd.R_append k59 (w0 := w) w.heap.size rfl (.tmp 115) (.tmp 117) 48 59 (.agg #[(.int .i64 0), (.string ⟨#[]⟩), (.int .i64 0)]) 32 rfl Try.underlying48 YaC rfl Z1 Z0 u4 x4_1 (⟨3, t347, x5_1⟩ : S59) [.int .i64 3, .string t347, .int .i64 x5_1] (fun k_ => k_ ≠ gb342) (fun _ => False) rfl Zx ?aP (fun _ hk => hk.elim) ?aF ?aO ?aB ?aS ?aL ?_; (case aP => exact JG _ _ _ (⟨3, t347, x5_1⟩ : S59)); (case aB => exact Zk); (case aF => exact (by exact (fun k_ hk => Kd.freshB (g := gb342) (o := .cells #[.int .i64 3, .string t347, .int .i64 x5_1] 59 (0, 0)) Z1e k_ hk))); (case aO => exact (by (with_reducible repeat (first | apply Kd.R_alloc | apply Kd.R_drewN | apply Kd.R_drew)); exact Kd.R_mono (Kd.R_far (p := ⟨gb342, 1, none⟩) (Kd.R_mono HO_4.out (fun k_ hk => (⟨hk, hk.2⟩ : _ ∧ k_ ≠ gb342))) (fun _ hk => hk.2) (.string t347)) (fun _ hk => hk.1.2))); (case aS => exact (YK Zk)); (case aL => exact (Zo LMc53.out)); intro v354 w58 ho hb hg hat; rw [← Ny353.out] at ho; have n0_ := Aside0.mk (XU (g := gb342) (o := .cells #[.int .i64 3, .string t347, .int .i64 x5_1] 59 (0, 0)) Z1e hg (Kd.R_away HO_4.out (fun _ hk => hk.2))); have n1_ := Aside0.mk (hb); have n2_ := Aside0.mk (ho); clear BK342; clear HB; clear HO_4; have BK342 := n0_; have HB := n1_; have HO355 := n2_; clear n0_ n1_ n2_; clear ho hb hg hat))
                   go_roundg kj5
                   case measure => have := HK1.out; have := HJ5.out; omega
                   case rel => exact ⟨(y353), (t348), Z4, H', ⟨(Zo (And.intro HK1.out HJ5.out))⟩, ⟨(by (with_reducible repeat (first | apply Kd.R_alloc | apply Kd.R_drewN | apply Kd.R_drew)); exact Kd.R_mono HO355.out (fun _ hk => trivial))⟩, ⟨Zk⟩⟩
                  ·rw [if_neg c53] at H
                   exact absurd H Z3
                ·rw [if_neg c45] at H
                 obtain ⟨c45b0, c45b1⟩ := neB c45
                 simp only [Option.some.injEq, Prod.mk.injEq] at H
                 obtain ⟨rfl, rfl⟩ := H
                 go_wp2_with (first | ((with_reducible refine Ym (f := 42) rfl ?_); refine YL (some 43) rfl rfl Try.func42 Z2 rfl #[.string (a0.extract (x5_1 : Int).toNat (x6_5 : Int).toNat)] rfl Zb ?_; (with_reducible refine (YI.calls (a0.extract (x5_1 : Int).toNat (x6_5 : Int).toNat) true _ A13.out).mono ?_); rintro e w' ⟨rfl, ⟨nd, rfl⟩⟩; refine ⟨_, rfl, ?_⟩; (try (rw [Ub wc]; generalize hq_ : World.drewN wc _ = wc; have n0_ : Aside0 (Kd.R k59 59 wc w.heap.size (fun _ => True) u4 x4_1) := ⟨ZY⟩; have n1_ : Aside0 (Below w.heap.size w wc) := ⟨ZU⟩; clear HO_4 HB hq_; have HO_4 := n0_; have HB := n1_; clear n0_ n1_))) | ((with_reducible refine Vm (N := 8) rfl ?_); refine Uu ?hg (N := 8) ?hd (cs := #[.int .i64 0, .string (⟨#[]⟩ : ByteArray), .int .i64 0]) (t := 59) ?hr ?_; (case hd => rfl); (case hg => rfl); (case hr => exact Zx); intro gb342 hg w59 hbox hb; have n0_ := Aside0.mk (Kd.R_below (Kd.R_elderB (Zr HO_4.out) gb342 (Nat.le_of_eq hg.symm)) hb); have n1_ := Aside0.mk (YN Z6 hb); have n2_ := Aside0.mk (hbox); have n3_ := Aside0.mk ((by rw [hg]; exact (YK Z6) : w.heap.size ≤ gb342)); have n4_ := Aside0.mk ((by rw [hg]; exact (YK Z6) : w.heap.size ≤ gb342)); clear HO_4; clear HB; have HO_4 := n0_; have HB := n1_; have BK342 := n2_; have GW342 := n3_; have GE342 := n4_; clear n0_ n1_ n2_ n3_ n4_; clear hb hbox hg; have hcz60_0 : w59.cell? ⟨gb342, 0, none⟩ = some (.int .i64 0) := (Ya BK342.out 0).trans rfl; have hcz60_1 : w59.cell? ⟨gb342, 1, none⟩ = some (.string (⟨#[]⟩ : ByteArray)) := (Ya BK342.out 1).trans rfl; have hcz60_2 : w59.cell? ⟨gb342, 2, none⟩ = some (.int .i64 0) := (Ya BK342.out 2).trans rfl; have hfz60_0 := Yf BK342.out 0; have hfz60_1 := Yf BK342.out 1; have hfz60_2 := Yf BK342.out 2) | ((with_reducible refine Ym (f := 45) rfl ?_); refine YL (some 102) rfl rfl Try.func45 Z2 rfl #[.string a0, .int .i64 (wrap64 (x6_5 + 1))] rfl Zb ?_; (with_reducible refine (Yb.calls kj5 a0 (wrap64 (x6_5 + 1)) t347 t348 t349 _ A44.out).mono ?_); rintro e w61 ⟨rfl, hb⟩; refine ⟨_, rfl, ?_⟩; have n0_ := Aside0.mk (Kd.R_below ZT hb); have n1_ := Aside0.mk (YQ (g := gb342) (o := .cells #[.int .i64 3, .string (⟨#[]⟩ : ByteArray), .int .i64 x5_1] 59 (0, 0)) ZS hb); have n2_ := Aside0.mk (YN Zk hb); clear HO_4; clear BK342; clear HB; have HO_4 := n0_; have BK342 := n1_; have HB := n2_; clear n0_ n1_ n2_; (try clear hb); (try clear hb2); (try clear hk); (try clear hi)))
                 go_ret2
                 exact Z1L
           ·replace c14 := Bool.eq_false_iff.mpr c14
            subst c14
            rw [if_neg Z1] at H
            replace H := bE H; obtain ⟨t336, A62, H⟩ := H
            by_cases c63 : x4_1.length < 4398046511104
            ·rw [if_pos c63] at H
             have LMc63 := Aside0.mk c63
             clear c63
             obtain ⟨y337, Ny337⟩ := aE (x4_1 ++ [(⟨1, t336, x5_1⟩ : S59)]); rw [← Ny337.out] at H; try rw [Option.bind_some] at H
             have H' := Aside0.mk H
             clear H
             go_wp2_with (first | ((with_reducible refine Ym (f := 42) rfl ?_); refine YL (some 43) rfl rfl Try.func42 Z2 rfl #[.string (a0.extract (x5_1 : Int).toNat (x6_5 : Int).toNat)] rfl Zb ?_; (with_reducible refine (YI.calls (a0.extract (x5_1 : Int).toNat (x6_5 : Int).toNat) false _ A13.out).mono ?_); rintro e w' ⟨rfl, ⟨nd, rfl⟩⟩; refine ⟨_, rfl, ?_⟩) | ((with_reducible refine Ym (f := 43) rfl ?_); refine YL (some 47) rfl rfl Try.func43 Z2 rfl #[.string (a0.extract (x5_1 : Int).toNat (x6_5 : Int).toNat)] rfl Zb ?_; (with_reducible refine (Ys.calls kj5 (a0.extract (x5_1 : Int).toNat (x6_5 : Int).toNat) t336 _ A62.out).mono ?_); rintro e w64 ⟨rfl, hb⟩; refine ⟨_, rfl, ?_⟩; have n0_ := Aside0.mk (Kd.R_below (Zr HO_4.out) hb); have n1_ := Aside0.mk (YN Z6 hb); clear HO_4; clear HB; have HO_4 := n0_; have HB := n1_; clear n0_ n1_; (try clear hb); (try clear hb2); (try clear hk); (try clear hi)) | ((with_reducible refine Xj (b := .append) (xs := #[.tmp 45, .tmp 50]) rfl ?_); at_builtin; refine Kd.R_append k59 (w0 := w) w.heap.size rfl (.tmp 45) (.tmp 50) 48 59 (.agg #[(.int .i64 0), (.string ⟨#[]⟩), (.int .i64 0)]) 32 rfl Try.underlying48 YaC rfl Z1 Z0 u4 x4_1 (⟨1, t336, x5_1⟩ : S59) [.int .i64 1, .string t336, .int .i64 x5_1] (fun _ => True) (fun _ => False) rfl rfl ?aP (fun _ hk => hk.elim) ?aF ?aO ?aB ?aS ?aL ?_; (case aP => exact JG _ _ _ (⟨1, t336, x5_1⟩ : S59)); (case aB => exact Z6); (case aF => exact (fun _ _ => trivial)); (case aO => exact (Zr HO_4.out)); (case aS => exact (YK Z6)); (case aL => exact (Zo LMc63.out)); intro v338 w65 ho hb hg hat; rw [← Ny337.out] at ho; have n0_ := Aside0.mk (hb); have n1_ := Aside0.mk (ho); clear HB; clear HO_4; have HB := n0_; have HO339 := n1_; clear n0_ n1_; clear ho hb hg hat))
             go_roundg kj5
             case measure => have := HK1.out; have := HJ5.out; omega
             case rel => exact ⟨(y337), (x6_5), Z4, H', ⟨(Zo (And.intro HK1.out HJ5.out))⟩, ⟨(Zr HO339.out)⟩, ⟨Z6⟩⟩
            ·rw [if_neg c63] at H
             exact absurd H Z3
          ·rw [if_neg c12] at H
           exact absurd H Z3
         ·rw [if_neg c11] at H
          exact absurd H Z3
        ·rw [if_neg c10] at H
         exact absurd H Z3
    ·rw [if_neg c3] at H
     have c3b0 := decide_eq_false c3
     clear c3
     simp only [Option.some.injEq, Prod.mk.injEq] at H
     obtain ⟨rfl, rfl⟩ := H
     go_wp2
     go_ret2
     exact Z2k
end Go.Proofs.Ytehmhgpogpbjiaa.PFccTokens
