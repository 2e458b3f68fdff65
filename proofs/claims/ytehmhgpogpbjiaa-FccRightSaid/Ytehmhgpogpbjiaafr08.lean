import Derived.Test.Ytehmhgpogpbjiaafr07
set_option linter.unusedVariables false
set_option linter.unusedSimpArgs false
set_option maxRecDepth 100000
set_option maxHeartbeats 8000000
namespace Go.Proofs.Ytehmhgpogpbjiaa.PFccTokens
open Go.RowKit Go.Proofs.YtehmhgpogpbjiaaW.PrintWords Go.Proofs.YtehmhgpogpbjiaaW.PrintLast Go.Proofs.YtehmhgpogpbjiaaW.PrintMore
attribute [local go_sem] Vx Vv VV VU Ve Vd Vw Vu
mutual
def Yd.l0 : Nat → List Int → ByteArray → Int → Option (ByteArray × Int × ByteArray × Int)
 | 0, _, _, _ => none
 | k + 1, x4, x1000, x1001 => (Yk.f x1000 x1001 34).bind fun bt121 => (if bt121.2.1 = true then (if x4.length + bt121.1.size < 140737488355328 then ((some (x4 ++ Xl bt121.1 : List Int)).bind fun y125 => (if bt121.2.2.2 = (bt121.2.2.1.size : Int) then (Yd.j1 k y125 true bt121.2.2.1 bt121.2.2.2) else (if 0 ≤ bt121.2.2.2 then (if bt121.2.2.2 < (bt121.2.2.1.size : Int) then ((YU.f (bt bt121.2.2.1 bt121.2.2.2)).bind fun t128 => (Yd.j1 k y125 t128 bt121.2.2.1 bt121.2.2.2)) else (none)) else (none)))) else (none)) else (some ((⟨#[]⟩ : ByteArray), 15, bt121.2.2.1, bt121.2.2.2)))
def Yd.j1 : Nat → List Int → Bool → ByteArray → Int → Option (ByteArray × Int × ByteArray × Int)
 | 0, _, _, _, _ => none
 | k + 1, x4, x18, x1000, x1001 => if x18 = true then ((XC.f (strOfNums x4)).bind fun bt129 => (some (bt129.1, bt129.2, x1000, x1001))) else (if 0 ≤ x1001 then (if x1001 < (x1000.size : Int) then (if (bt x1000 x1001) = 40 then ((Yk.f x1000 (wrap64 (x1001 + 1)) 41).bind fun bt131 => (if bt131.2.1 = true then ((Yo.f k x4 bt131.1).bind fun bt135 => (if bt135.2 = true then (Yd.l0 k bt135.1 bt131.2.2.1 bt131.2.2.2) else (some ((⟨#[]⟩ : ByteArray), 15, bt131.2.2.1, bt131.2.2.2)))) else (some ((⟨#[]⟩ : ByteArray), 15, bt131.2.2.1, bt131.2.2.2)))) else (some ((⟨#[]⟩ : ByteArray), 15, x1000, x1001))) else (none)) else (none))
end
def Yd.f (k : Nat) (s0_0 : ByteArray) (s0_1 : Int) : Option (ByteArray × Int × ByteArray × Int) := Yd.l0 k ([] : List Int) s0_0 s0_1
theorem Yd.mono_l : ∀ k, (∀ y0 y1 y2, LeO (Yd.l0 k y0 y1 y2) (Yd.l0 (k + 1) y0 y1 y2)) ∧ (∀ y0 y1 y2 y3, LeO (Yd.j1 k y0 y1 y2 y3) (Yd.j1 (k + 1) y0 y1 y2 y3))
 | 0 => ⟨fun _ _ _ r h => by simp [Yd.l0] at h, fun _ _ _ _ r h => by simp [Yd.j1] at h⟩
 | k + 1 => by
  obtain ⟨ih0, ih1⟩ := Yd.mono_l k
  refine ⟨?_, ?_⟩
  ·intro y0 y1 y2
   unfold Yd.l0
   have ih7 := @Yo.mono; exact XI
  ·intro y0 y1 y2 y3
   unfold Yd.j1
   have ih7 := @Yo.mono; exact XI
theorem Yd.mono : ∀ a0 a1 k, LeO (Yd.f k a0 a1) (Yd.f (k + 1) a0 a1) := by
 intro a0 a1 k
 obtain ⟨ih0, ih1⟩ := Yd.mono_l k
 unfold Yd.f
 have ih7 := @Yo.mono; exact XI
theorem Yd.calls (k : Nat) (g : Nat) (s0_0 : ByteArray) (s0_1 : Int) (r1 : ByteArray) (r2 : Int) (r3 : ByteArray) (r4 : Int) (w0 w : World) (hI : IsS88 w0 w g s0_0 s0_1) (hB : Below w0.heap.size w0 w) (h : Yd.f k s0_0 s0_1 = some (r1, r2, r3, r4)) :
 Calls Try.prog 60 #[.pointer (some ⟨g, 0, none⟩)] w fun e w' => e = .returned (.tuple #[.string r1, .int .i64 r2]) ∧ IsS88 w0 w' g r3 r4 ∧ Below w0.heap.size w0 w' ∧ Yw w w' g none := by
 have HI0 := Aside0.mk hI
 have HK := Aside0.mk (Yw.refl w g none)
 have HL := Aside0.mk hB.size
 clear hI
 have HW0 := Aside0.mk hB.size
 have HB := Aside0.mk hB
 clear hB
 have H : (Yd.l0 k ([] : List Int) s0_0 s0_1) = some (r1, r2, r3, r4) := h
 clear h
 have H' := Aside0.mk H
 clear H
 go_enter Try.func60, Try.ntmps60
 go_wp2
 repeat (go_quiet (fail); try go_wp2)
 go_loopg [4] k (fun kq v4 w' => ∃ (x4_1 : List Int) (x1000_1 : ByteArray) (x1001_1 : Int), Aside0 (Yd.l0 kq x4_1 x1000_1 x1001_1 = some (r1, r2, r3, r4)) ∧ Aside0 (kq ≤ k) ∧ Aside0 (Kd.R (Kd.int .u8) 5 w' w.heap.size (fun _ => True) v4 x4_1) ∧ Aside0 (IsS88 w0 w' g x1000_1 x1001_1) ∧ Aside0 (Yw w w' g none) ∧ Aside0 (Below w0.heap.size w0 w'))
 case atStart => exact ⟨(([] : List Int)), (s0_0), (s0_1), H', ⟨Nat.le_refl _⟩, ⟨Zl⟩, ⟨Z9⟩, ⟨Za⟩, ⟨Zd⟩⟩
 case round =>
  clear H'
  obtain ⟨x4_1, x1000_1, x1001_1, HA, HK1, HO_4, HI0, HK, HB⟩ := hrel
  cases gk with
  | zero => exact absurd HA.out (by simp [Yd.l0])
  | succ k1 =>
   have H := HA.out
   clear HA
   simp only [Yd.l0] at H
   replace H := bE H; obtain ⟨⟨t121, t122, t123, t124⟩, A2, H⟩ := H; try dsimp only at H
   by_cases c3 : t122 = true
   ·subst c3
    rw [if_pos rfl] at H
    by_cases c4 : x4_1.length + t121.size < 140737488355328
    ·rw [if_pos c4] at H
     have LMc4 := Aside0.mk c4
     clear c4
     obtain ⟨y125, Ny125⟩ := aE (x4_1 ++ Xl t121); rw [← Ny125.out] at H; try rw [Option.bind_some] at H
     have HC5 := Aside0.mk H
     clear H
     go_upto_region 6 with (first | (go_at_call 58; (with_reducible refine (Yk.calls g x1000_1 x1001_1 34 t121 true t123 t124 w0 _ ?side1 ?side2 A2.out).mono ?_); (case side1 => exact Z9); (case side2 => exact Zd); rintro e w6 ⟨rfl, hi, hb, hk⟩; have n0_ := Aside0.mk (Kd.R_mono (Kd.R_keep (IsS88.apart (show IsS88 w0 _ g x1000_1 x1001_1 from Z9) (Zr HO_4.out) Z1) hk (fun _ h => h.2)) (fun _ h => h.1)); have n1_ := Aside0.mk (Yw.trans Za hk (.inl rfl)); have n2_ := Aside0.mk (hb); have n3_ := Aside0.mk (hi); clear HO_4; clear HK; clear HB; clear HI0; have HO_4 := n0_; have HK := n1_; have HB := n2_; have HI0 := n3_; clear n0_ n1_ n2_ n3_; (try clear hb); (try clear hb2); (try clear hk); (try clear hi)) | (at_builtin; refine Vt w.heap.size rfl (.tmp 15) _ 29 9 5 rfl Try.underlying29 Try.underlying9 VL u4 x4_1 t121 rfl rfl ?aO (Below.refl _ _) ?aS ?aL ?_; (case aO => exact Z1I); (case aS => exact (VG (w := w) (g := g) (row := none) Za)); (case aL => exact (Zo LMc4.out)); intro v126 w7 ho0 hb hg; have ho := Kd.R_of_own (h1 := fun _ => rfl) (ok := fun _ => True) ho0 (fun _ _ => trivial); clear ho0; have hat := True.intro; rw [← Ny125.out] at ho; change Kd.R (Kd.int .u8) 5 w7 w.heap.size (fun _ => True) v126 y125 at ho; have n0_ := Aside0.mk (IsS88.grown Z9 hg (IsS88.own_ne HI0.out HO_4.out Z1)); have n1_ := Aside0.mk (UP Zd HL.out hb); have n2_ := Aside0.mk (Yw.trans Za (Yw.of_grown hg g) (Kd.R_base2 HO_4.out)); have n3_ := Aside0.mk (ho); clear HI0; clear HB; clear HK; clear HO_4; have HI0 := n0_; have HB := n1_; have HK := n2_; have HO127 := n3_; clear n0_ n1_ n2_ n3_; clear ho hb hg hat))
     repeat (go_quiet (first | (go_at_call 58; (with_reducible refine (Yk.calls g x1000_1 x1001_1 34 t121 true t123 t124 w0 _ ?side1 ?side2 A2.out).mono ?_); (case side1 => exact Z9); (case side2 => exact Zd); rintro e w6 ⟨rfl, hi, hb, hk⟩; have n0_ := Aside0.mk (Kd.R_mono (Kd.R_keep (IsS88.apart (show IsS88 w0 _ g x1000_1 x1001_1 from Z9) (Zr HO_4.out) Z1) hk (fun _ h => h.2)) (fun _ h => h.1)); have n1_ := Aside0.mk (Yw.trans Za hk (.inl rfl)); have n2_ := Aside0.mk (hb); have n3_ := Aside0.mk (hi); clear HO_4; clear HK; clear HB; clear HI0; have HO_4 := n0_; have HK := n1_; have HB := n2_; have HI0 := n3_; clear n0_ n1_ n2_ n3_; (try clear hb); (try clear hb2); (try clear hk); (try clear hi)) | (at_builtin; refine Vt w.heap.size rfl (.tmp 15) _ 29 9 5 rfl Try.underlying29 Try.underlying9 VL u4 x4_1 t121 rfl rfl ?aO (Below.refl _ _) ?aS ?aL ?_; (case aO => exact Z1I); (case aS => exact (VG (w := w) (g := g) (row := none) Za)); (case aL => exact (Zo LMc4.out)); intro v126 w7 ho0 hb hg; have ho := Kd.R_of_own (h1 := fun _ => rfl) (ok := fun _ => True) ho0 (fun _ _ => trivial); clear ho0; have hat := True.intro; rw [← Ny125.out] at ho; change Kd.R (Kd.int .u8) 5 w7 w.heap.size (fun _ => True) v126 y125 at ho; have n0_ := Aside0.mk (IsS88.grown Z9 hg (IsS88.own_ne HI0.out HO_4.out Z1)); have n1_ := Aside0.mk (UP Zd HL.out hb); have n2_ := Aside0.mk (Yw.trans Za (Yw.of_grown hg g) (Kd.R_base2 HO_4.out)); have n3_ := Aside0.mk (ho); clear HI0; clear HB; clear HK; clear HO_4; have HI0 := n0_; have HB := n1_; have HK := n2_; have HO127 := n3_; clear n0_ n1_ n2_ n3_; clear ho hb hg hat)); go_upto_region 6 with (first | (go_at_call 58; (with_reducible refine (Yk.calls g x1000_1 x1001_1 34 t121 true t123 t124 w0 _ ?side1 ?side2 A2.out).mono ?_); (case side1 => exact Z9); (case side2 => exact Zd); rintro e w6 ⟨rfl, hi, hb, hk⟩; have n0_ := Aside0.mk (Kd.R_mono (Kd.R_keep (IsS88.apart (show IsS88 w0 _ g x1000_1 x1001_1 from Z9) (Zr HO_4.out) Z1) hk (fun _ h => h.2)) (fun _ h => h.1)); have n1_ := Aside0.mk (Yw.trans Za hk (.inl rfl)); have n2_ := Aside0.mk (hb); have n3_ := Aside0.mk (hi); clear HO_4; clear HK; clear HB; clear HI0; have HO_4 := n0_; have HK := n1_; have HB := n2_; have HI0 := n3_; clear n0_ n1_ n2_ n3_; (try clear hb); (try clear hb2); (try clear hk); (try clear hi)) | (at_builtin; refine Vt w.heap.size rfl (.tmp 15) _ 29 9 5 rfl Try.underlying29 Try.underlying9 VL u4 x4_1 t121 rfl rfl ?aO (Below.refl _ _) ?aS ?aL ?_; (case aO => exact Z1I); (case aS => exact (VG (w := w) (g := g) (row := none) Za)); (case aL => exact (Zo LMc4.out)); intro v126 w7 ho0 hb hg; have ho := Kd.R_of_own (h1 := fun _ => rfl) (ok := fun _ => True) ho0 (fun _ _ => trivial); clear ho0; have hat := True.intro; rw [← Ny125.out] at ho; change Kd.R (Kd.int .u8) 5 w7 w.heap.size (fun _ => True) v126 y125 at ho; have n0_ := Aside0.mk (IsS88.grown Z9 hg (IsS88.own_ne HI0.out HO_4.out Z1)); have n1_ := Aside0.mk (UP Zd HL.out hb); have n2_ := Aside0.mk (Yw.trans Za (Yw.of_grown hg g) (Kd.R_base2 HO_4.out)); have n3_ := Aside0.mk (ho); clear HI0; clear HB; clear HK; clear HO_4; have HI0 := n0_; have HB := n1_; have HK := n2_; have HO127 := n3_; clear n0_ n1_ n2_ n3_; clear ho hb hg hat)))
     (try simp only [Act.put, List.setIfInBounds_toArray, List.set_cons_zero, List.set_cons_succ])
     go_cut [18] (fun v18 wc => ∃ (kq : Nat) (x18_4 : Bool), v18 = .bool x18_4 ∧ Aside0 (Yd.j1 kq y125 x18_4 t123 t124 = some (r1, r2, r3, r4)) ∧ Aside0 (kq ≤ k1) ∧ Aside0 (Kd.R (Kd.int .u8) 5 wc w.heap.size (fun _ => True) v126 y125) ∧ Aside0 (IsS88 w0 wc g t123 t124) ∧ Aside0 (Yw w wc g none) ∧ Aside0 (Below w0.heap.size w0 wc))
     case first =>
      have H := HC5.out
      clear HC5
      by_cases c8 : t124 = (t123.size : Int)
      ·rw [if_pos c8] at H
       obtain ⟨c8b0, c8b1⟩ := eqB c8
       clear c8
       (first | rw [c8b0] | (simp only [YH, YJ]; rw [c8b0]) | skip)
       have H' := Aside0.mk H
       clear H
       obtain ⟨HGz9, hgz9⟩ := HI0.out
       have hcz9_0 := Xx HGz9
       have hcz9_1 := Xw HGz9
       have hfz9_0 := Yf HGz9 0
       have hfz9_1 := Yf HGz9 1
       clear HGz9 hgz9
       go_wp2
       repeat (go_quiet (fail); try go_wp2)
       go_meet
       case rel => exact ⟨_, (true), Z4, H', ⟨(Zo HK1.out)⟩, ⟨(Zr HO127.out)⟩, ⟨Z9⟩, ⟨Za⟩, ⟨Zd⟩⟩
      ·rw [if_neg c8] at H
       obtain ⟨c8b0, c8b1⟩ := neB c8
       (first | rw [c8b0] | (simp only [YH, YJ]; rw [c8b0]) | skip)
       by_cases c10 : 0 ≤ t124
       ·rw [if_pos c10] at H
        have c10b0 := decide_eq_true c10
        clear c10
        by_cases c11 : t124 < (t123.size : Int)
        ·rw [if_pos c11] at H
         have c11b0 := decide_eq_true c11
         clear c11
         replace H := bE H; obtain ⟨t128, A13, H⟩ := H
         have H' := Aside0.mk H
         clear H
         obtain ⟨HGz14, hgz14⟩ := HI0.out
         have hcz14_0 := Xx HGz14
         have hcz14_1 := Xw HGz14
         have hfz14_0 := Yf HGz14 0
         have hfz14_1 := Yf HGz14 1
         clear HGz14 hgz14
         have p12 : 0 ≤ (t124 : Int) := of_decide_eq_true Z5
         have q12 : t124 < (t123.size : Int) := of_decide_eq_true Z5
         have hx12 := XD t123 t124
         replace p12 := eq_true p12
         replace q12 := eq_true q12
         go_wp2_with (first | (go_at_call 57; (with_reducible refine (YU.calls (bt t123 t124) t128 _ A13.out).mono ?_); rintro e w' ⟨rfl, ⟨nd, rfl⟩⟩; (try first | exact ⟨rfl, _, World.drewN_drewN _ _ _⟩ | exact ⟨rfl, _, Eq.trans (World.drewN_drewN _ _ _) (congrArg (World.drewN _) (Nat.add_assoc _ _ _))⟩)))
         repeat (go_quiet (first | (go_at_call 57; (with_reducible refine (YU.calls (bt t123 t124) t128 _ A13.out).mono ?_); rintro e w' ⟨rfl, ⟨nd, rfl⟩⟩; (try first | exact ⟨rfl, _, World.drewN_drewN _ _ _⟩ | exact ⟨rfl, _, Eq.trans (World.drewN_drewN _ _ _) (congrArg (World.drewN _) (Nat.add_assoc _ _ _))⟩))); try go_wp2_with (first | (go_at_call 57; (with_reducible refine (YU.calls (bt t123 t124) t128 _ A13.out).mono ?_); rintro e w' ⟨rfl, ⟨nd, rfl⟩⟩; (try first | exact ⟨rfl, _, World.drewN_drewN _ _ _⟩ | exact ⟨rfl, _, Eq.trans (World.drewN_drewN _ _ _) (congrArg (World.drewN _) (Nat.add_assoc _ _ _))⟩))))
         go_meet
         case rel => exact ⟨_, (t128), Z4, H', ⟨(Zo HK1.out)⟩, ⟨(Zr HO127.out)⟩, ⟨Z9⟩, ⟨Za⟩, ⟨Zd⟩⟩
        ·rw [if_neg c11] at H
         exact absurd H Z3
       ·rw [if_neg c10] at H
        exact absurd H Z3
     case rest =>
      clear HC5
      try clear c1
      try clear p1
      try clear q1
      try clear hx1
      try clear p2
      try clear c3
      try clear c4
      try clear c6
      try clear c8
      try clear c8b0
      try clear c8b1
      try clear c10
      try clear c10b0
      try clear c11
      try clear c11b0
      try clear p12
      try clear q12
      try clear hx12
      try clear hcz14_0
      try clear hcz14_1
      try clear hcz9_0
      try clear hcz9_1
      try clear hfz14_0
      try clear hfz14_1
      try clear hfz9_0
      try clear hfz9_1
      try clear p12
      try clear q12
      obtain ⟨kq, x18_4, rfl, HA, HJ4, HO_4, HI0, HK, HB⟩ := hcut
      cases kq with
      | zero => exact absurd HA.out (by simp [Yd.j1])
      | succ kj4 =>
       have H := HA.out
       clear HA
       simp only [Yd.j1] at H
       by_cases c15 : x18_4 = true
       ·subst c15
        rw [if_pos rfl] at H
        replace H := bE H; obtain ⟨⟨t129, t130⟩, A16, H⟩ := H; try dsimp only at H
        simp only [Option.some.injEq, Prod.mk.injEq] at H
        obtain ⟨rfl, rfl, rfl, rfl⟩ := H
        have hcv17 := JC (P := Try.prog) Try.underlying29 Try.underlying5 Try.underlying9 (Kd.own_of_R HO_4.out)
        go_wp2_with (first | (go_at_call 59; (with_reducible refine (XC.calls (strOfNums y125) t129 t130 _ A16.out).mono ?_); rintro e w' ⟨rfl, ⟨nd, rfl⟩⟩; (try first | exact ⟨rfl, _, World.drewN_drewN _ _ _⟩ | exact ⟨rfl, _, Eq.trans (World.drewN_drewN _ _ _) (congrArg (World.drewN _) (Nat.add_assoc _ _ _))⟩)))
        repeat (go_quiet (first | (go_at_call 59; (with_reducible refine (XC.calls (strOfNums y125) t129 t130 _ A16.out).mono ?_); rintro e w' ⟨rfl, ⟨nd, rfl⟩⟩; (try first | exact ⟨rfl, _, World.drewN_drewN _ _ _⟩ | exact ⟨rfl, _, Eq.trans (World.drewN_drewN _ _ _) (congrArg (World.drewN _) (Nat.add_assoc _ _ _))⟩))); try go_wp2_with (first | (go_at_call 59; (with_reducible refine (XC.calls (strOfNums y125) t129 t130 _ A16.out).mono ?_); rintro e w' ⟨rfl, ⟨nd, rfl⟩⟩; (try first | exact ⟨rfl, _, World.drewN_drewN _ _ _⟩ | exact ⟨rfl, _, Eq.trans (World.drewN_drewN _ _ _) (congrArg (World.drewN _) (Nat.add_assoc _ _ _))⟩))))
        go_ret2
        exact Zu
       ·replace c15 := Bool.eq_false_iff.mpr c15
        subst c15
        rw [if_neg Z1] at H
        by_cases c18 : 0 ≤ t124
        ·rw [if_pos c18] at H
         have c18b0 := decide_eq_true c18
         clear c18
         by_cases c19 : t124 < (t123.size : Int)
         ·rw [if_pos c19] at H
          have c19b0 := decide_eq_true c19
          clear c19
          by_cases c21 : (bt t123 t124) = 40
          ·rw [if_pos c21] at H
           obtain ⟨c21b0, c21b1⟩ := eqB c21
           clear c21
           replace H := bE H; obtain ⟨⟨t131, t132, t133, t134⟩, A22, H⟩ := H; try dsimp only at H
           by_cases c23 : t132 = true
           ·subst c23
            rw [if_pos rfl] at H
            replace H := bE H; obtain ⟨⟨t135, t138⟩, A24, H⟩ := H; try dsimp only at H
            by_cases c25 : t138 = true
            ·subst c25
             rw [if_pos rfl] at H
             have H' := Aside0.mk H
             clear H
             obtain ⟨HGz26, hgz26⟩ := HI0.out
             have hcz26_0 := Xx HGz26
             have hcz26_1 := Xw HGz26
             have hfz26_0 := Yf HGz26 0
             have hfz26_1 := Yf HGz26 1
             clear HGz26 hgz26
             have p20 : 0 ≤ (t124 : Int) := of_decide_eq_true Z5
             have q20 : t124 < (t123.size : Int) := of_decide_eq_true Z5
             have hx20 := XD t123 t124
             replace p20 := eq_true p20
             replace q20 := eq_true q20
             go_wp2_with (first | (go_at_call 58; (with_reducible refine (Yk.calls g t123 (wrap64 (t124 + 1)) 41 t131 true t133 t134 w0 _ ?side1 ?side2 A22.out).mono ?_); (case side1 => exact Z9); (case side2 => exact Zd); rintro e w27 ⟨rfl, hi, hb, hk⟩; have n0_ := Aside0.mk (Kd.R_mono (Kd.R_keep (IsS88.apart (show IsS88 w0 _ g t123 (wrap64 (t124 + 1)) from Z9) ZE Z1) hk (fun _ h => h.2)) (fun _ h => h.1)); have n1_ := Aside0.mk (Yw.trans Za hk (.inl rfl)); have n2_ := Aside0.mk (hb); have n3_ := Aside0.mk (hi); clear HO_4; clear HK; clear HB; clear HI0; have HO_4 := n0_; have HK := n1_; have HB := n2_; have HI0 := n3_; clear n0_ n1_ n2_ n3_; (try clear hb); (try clear hb2); (try clear hk); (try clear hi); obtain ⟨Ao28, co28, eo28⟩ := Kd.R_slice HO_4.out; subst eo28) | (go_at_call 85; (with_reducible refine (Yo.calls kj4 (fun k_ => some k_ = (.slice Ao28 y125.length co28 : Value).ownBlock) (.slice Ao28 y125.length co28) y125 t131 t135 true w0 _ ?side1 ?side2 A24.out).mono ?_); (case side1 => exact Zd); (case side2 => exact Kd.R_lower (Kd.R_tight rfl HO_4.out) HL.out); rintro e w29 ⟨v136, rfl, ho0, hb, hkp⟩; have n0_ := Aside0.mk (IsS88.kept Z9 hkp (fun hs_ => (fun e_ => (IsS88.own_ne HI0.out HO_4.out Z1) e_) hs_)); have n1_ := Aside0.mk (Kd.R_mono (ok' := fun k_ => True) (Kd.R_raise (d := (Kd.int .u8)) (b := w0.heap.size) (b' := w.heap.size) (fun _ _ _ _ h_ => h_) ho0 (fun k_ e_ => Or.elim (ho0.1 k_ e_) (fun hs_ => (fun e_ => Kd.R_base HO_4.out k_ e_.symm) hs_) (fun hn_ => Nat.le_trans (VG (w := w) (g := g) (row := none) Za) hn_))) (fun k_ hk_ => trivial)); have n2_ := Aside0.mk (Kept.keepG Za hkp (fun k_ hs_ => (fun e_ => .inr (Kd.R_base HO_4.out k_ e_.symm)) hs_)); have n3_ := Aside0.mk (hb); clear HI0; clear HK; clear HB; clear HO_4; have HI0 := n0_; have HO137 := n1_; have HK := n2_; have HB := n3_; clear n0_ n1_ n2_ n3_; (try clear hb); (try clear hkp); (try clear ho0)))
             repeat (go_quiet (first | (go_at_call 58; (with_reducible refine (Yk.calls g t123 (wrap64 (t124 + 1)) 41 t131 true t133 t134 w0 _ ?side1 ?side2 A22.out).mono ?_); (case side1 => exact Z9); (case side2 => exact Zd); rintro e w27 ⟨rfl, hi, hb, hk⟩; have n0_ := Aside0.mk (Kd.R_mono (Kd.R_keep (IsS88.apart (show IsS88 w0 _ g t123 (wrap64 (t124 + 1)) from Z9) ZE Z1) hk (fun _ h => h.2)) (fun _ h => h.1)); have n1_ := Aside0.mk (Yw.trans Za hk (.inl rfl)); have n2_ := Aside0.mk (hb); have n3_ := Aside0.mk (hi); clear HO_4; clear HK; clear HB; clear HI0; have HO_4 := n0_; have HK := n1_; have HB := n2_; have HI0 := n3_; clear n0_ n1_ n2_ n3_; (try clear hb); (try clear hb2); (try clear hk); (try clear hi); obtain ⟨Ao28, co28, eo28⟩ := Kd.R_slice HO_4.out; subst eo28) | (go_at_call 85; (with_reducible refine (Yo.calls kj4 (fun k_ => some k_ = (.slice Ao28 y125.length co28 : Value).ownBlock) (.slice Ao28 y125.length co28) y125 t131 t135 true w0 _ ?side1 ?side2 A24.out).mono ?_); (case side1 => exact Zd); (case side2 => exact Kd.R_lower (Kd.R_tight rfl HO_4.out) HL.out); rintro e w29 ⟨v136, rfl, ho0, hb, hkp⟩; have n0_ := Aside0.mk (IsS88.kept Z9 hkp (fun hs_ => (fun e_ => (IsS88.own_ne HI0.out HO_4.out Z1) e_) hs_)); have n1_ := Aside0.mk (Kd.R_mono (ok' := fun k_ => True) (Kd.R_raise (d := (Kd.int .u8)) (b := w0.heap.size) (b' := w.heap.size) (fun _ _ _ _ h_ => h_) ho0 (fun k_ e_ => Or.elim (ho0.1 k_ e_) (fun hs_ => (fun e_ => Kd.R_base HO_4.out k_ e_.symm) hs_) (fun hn_ => Nat.le_trans (VG (w := w) (g := g) (row := none) Za) hn_))) (fun k_ hk_ => trivial)); have n2_ := Aside0.mk (Kept.keepG Za hkp (fun k_ hs_ => (fun e_ => .inr (Kd.R_base HO_4.out k_ e_.symm)) hs_)); have n3_ := Aside0.mk (hb); clear HI0; clear HK; clear HB; clear HO_4; have HI0 := n0_; have HO137 := n1_; have HK := n2_; have HB := n3_; clear n0_ n1_ n2_ n3_; (try clear hb); (try clear hkp); (try clear ho0))); try go_wp2_with (first | (go_at_call 58; (with_reducible refine (Yk.calls g t123 (wrap64 (t124 + 1)) 41 t131 true t133 t134 w0 _ ?side1 ?side2 A22.out).mono ?_); (case side1 => exact Z9); (case side2 => exact Zd); rintro e w27 ⟨rfl, hi, hb, hk⟩; have n0_ := Aside0.mk (Kd.R_mono (Kd.R_keep (IsS88.apart (show IsS88 w0 _ g t123 (wrap64 (t124 + 1)) from Z9) ZE Z1) hk (fun _ h => h.2)) (fun _ h => h.1)); have n1_ := Aside0.mk (Yw.trans Za hk (.inl rfl)); have n2_ := Aside0.mk (hb); have n3_ := Aside0.mk (hi); clear HO_4; clear HK; clear HB; clear HI0; have HO_4 := n0_; have HK := n1_; have HB := n2_; have HI0 := n3_; clear n0_ n1_ n2_ n3_; (try clear hb); (try clear hb2); (try clear hk); (try clear hi); obtain ⟨Ao28, co28, eo28⟩ := Kd.R_slice HO_4.out; subst eo28) | (go_at_call 85; (with_reducible refine (Yo.calls kj4 (fun k_ => some k_ = (.slice Ao28 y125.length co28 : Value).ownBlock) (.slice Ao28 y125.length co28) y125 t131 t135 true w0 _ ?side1 ?side2 A24.out).mono ?_); (case side1 => exact Zd); (case side2 => exact Kd.R_lower (Kd.R_tight rfl HO_4.out) HL.out); rintro e w29 ⟨v136, rfl, ho0, hb, hkp⟩; have n0_ := Aside0.mk (IsS88.kept Z9 hkp (fun hs_ => (fun e_ => (IsS88.own_ne HI0.out HO_4.out Z1) e_) hs_)); have n1_ := Aside0.mk (Kd.R_mono (ok' := fun k_ => True) (Kd.R_raise (d := (Kd.int .u8)) (b := w0.heap.size) (b' := w.heap.size) (fun _ _ _ _ h_ => h_) ho0 (fun k_ e_ => Or.elim (ho0.1 k_ e_) (fun hs_ => (fun e_ => Kd.R_base HO_4.out k_ e_.symm) hs_) (fun hn_ => Nat.le_trans (VG (w := w) (g := g) (row := none) Za) hn_))) (fun k_ hk_ => trivial)); have n2_ := Aside0.mk (Kept.keepG Za hkp (fun k_ hs_ => (fun e_ => .inr (Kd.R_base HO_4.out k_ e_.symm)) hs_)); have n3_ := Aside0.mk (hb); clear HI0; clear HK; clear HB; clear HO_4; have HI0 := n0_; have HO137 := n1_; have HK := n2_; have HB := n3_; clear n0_ n1_ n2_ n3_; (try clear hb); (try clear hkp); (try clear ho0))))
             go_roundg kj4
             case measure => have := HK1.out; have := HJ4.out; omega
             case rel => exact ⟨(t135), (t133), (t134), H', ⟨(Zo (And.intro HK1.out HJ4.out))⟩, ⟨(Zr HO137.out)⟩, ⟨Z9⟩, ⟨Za⟩, ⟨Zd⟩⟩
            ·replace c25 := Bool.eq_false_iff.mpr c25
             subst c25
             rw [if_neg Z1] at H
             simp only [Option.some.injEq, Prod.mk.injEq] at H
             obtain ⟨rfl, rfl, rfl, rfl⟩ := H
             obtain ⟨HGz30, hgz30⟩ := HI0.out
             have hcz30_0 := Xx HGz30
             have hcz30_1 := Xw HGz30
             have hfz30_0 := Yf HGz30 0
             have hfz30_1 := Yf HGz30 1
             clear HGz30 hgz30
             have p20 : 0 ≤ (t124 : Int) := of_decide_eq_true Z5
             have q20 : t124 < (t123.size : Int) := of_decide_eq_true Z5
             have hx20 := XD t123 t124
             replace p20 := eq_true p20
             replace q20 := eq_true q20
             go_wp2_with (first | (go_at_call 58; (with_reducible refine (Yk.calls g t123 (wrap64 (t124 + 1)) 41 t131 true t133 t134 w0 _ ?side1 ?side2 A22.out).mono ?_); (case side1 => exact Z9); (case side2 => exact Zd); rintro e w31 ⟨rfl, hi, hb, hk⟩; have n0_ := Aside0.mk (Kd.R_mono (Kd.R_keep (IsS88.apart (show IsS88 w0 _ g t123 (wrap64 (t124 + 1)) from Z9) ZE Z1) hk (fun _ h => h.2)) (fun _ h => h.1)); have n1_ := Aside0.mk (Yw.trans Za hk (.inl rfl)); have n2_ := Aside0.mk (hb); have n3_ := Aside0.mk (hi); clear HO_4; clear HK; clear HB; clear HI0; have HO_4 := n0_; have HK := n1_; have HB := n2_; have HI0 := n3_; clear n0_ n1_ n2_ n3_; (try clear hb); (try clear hb2); (try clear hk); (try clear hi); obtain ⟨Ao32, co32, eo32⟩ := Kd.R_slice HO_4.out; subst eo32) | (go_at_call 85; (with_reducible refine (Yo.calls kj4 (fun k_ => some k_ = (.slice Ao32 y125.length co32 : Value).ownBlock) (.slice Ao32 y125.length co32) y125 t131 t135 false w0 _ ?side1 ?side2 A24.out).mono ?_); (case side1 => exact Zd); (case side2 => exact Kd.R_lower (Kd.R_tight rfl HO_4.out) HL.out); rintro e w33 ⟨v136, rfl, ho0, hb, hkp⟩; have n0_ := Aside0.mk (IsS88.kept Z9 hkp (fun hs_ => (fun e_ => (IsS88.own_ne HI0.out HO_4.out Z1) e_) hs_)); have n1_ := Aside0.mk (Kd.R_mono (ok' := fun k_ => True) (Kd.R_raise (d := (Kd.int .u8)) (b := w0.heap.size) (b' := w.heap.size) (fun _ _ _ _ h_ => h_) ho0 (fun k_ e_ => Or.elim (ho0.1 k_ e_) (fun hs_ => (fun e_ => Kd.R_base HO_4.out k_ e_.symm) hs_) (fun hn_ => Nat.le_trans (VG (w := w) (g := g) (row := none) Za) hn_))) (fun k_ hk_ => trivial)); have n2_ := Aside0.mk (Kept.keepG Za hkp (fun k_ hs_ => (fun e_ => .inr (Kd.R_base HO_4.out k_ e_.symm)) hs_)); have n3_ := Aside0.mk (hb); clear HI0; clear HK; clear HB; clear HO_4; have HI0 := n0_; have HO137 := n1_; have HK := n2_; have HB := n3_; clear n0_ n1_ n2_ n3_; (try clear hb); (try clear hkp); (try clear ho0)))
             repeat (go_quiet (first | (go_at_call 58; (with_reducible refine (Yk.calls g t123 (wrap64 (t124 + 1)) 41 t131 true t133 t134 w0 _ ?side1 ?side2 A22.out).mono ?_); (case side1 => exact Z9); (case side2 => exact Zd); rintro e w31 ⟨rfl, hi, hb, hk⟩; have n0_ := Aside0.mk (Kd.R_mono (Kd.R_keep (IsS88.apart (show IsS88 w0 _ g t123 (wrap64 (t124 + 1)) from Z9) ZE Z1) hk (fun _ h => h.2)) (fun _ h => h.1)); have n1_ := Aside0.mk (Yw.trans Za hk (.inl rfl)); have n2_ := Aside0.mk (hb); have n3_ := Aside0.mk (hi); clear HO_4; clear HK; clear HB; clear HI0; have HO_4 := n0_; have HK := n1_; have HB := n2_; have HI0 := n3_; clear n0_ n1_ n2_ n3_; (try clear hb); (try clear hb2); (try clear hk); (try clear hi); obtain ⟨Ao32, co32, eo32⟩ := Kd.R_slice HO_4.out; subst eo32) | (go_at_call 85; (with_reducible refine (Yo.calls kj4 (fun k_ => some k_ = (.slice Ao32 y125.length co32 : Value).ownBlock) (.slice Ao32 y125.length co32) y125 t131 t135 false w0 _ ?side1 ?side2 A24.out).mono ?_); (case side1 => exact Zd); (case side2 => exact Kd.R_lower (Kd.R_tight rfl HO_4.out) HL.out); rintro e w33 ⟨v136, rfl, ho0, hb, hkp⟩; have n0_ := Aside0.mk (IsS88.kept Z9 hkp (fun hs_ => (fun e_ => (IsS88.own_ne HI0.out HO_4.out Z1) e_) hs_)); have n1_ := Aside0.mk (Kd.R_mono (ok' := fun k_ => True) (Kd.R_raise (d := (Kd.int .u8)) (b := w0.heap.size) (b' := w.heap.size) (fun _ _ _ _ h_ => h_) ho0 (fun k_ e_ => Or.elim (ho0.1 k_ e_) (fun hs_ => (fun e_ => Kd.R_base HO_4.out k_ e_.symm) hs_) (fun hn_ => Nat.le_trans (VG (w := w) (g := g) (row := none) Za) hn_))) (fun k_ hk_ => trivial)); have n2_ := Aside0.mk (Kept.keepG Za hkp (fun k_ hs_ => (fun e_ => .inr (Kd.R_base HO_4.out k_ e_.symm)) hs_)); have n3_ := Aside0.mk (hb); clear HI0; clear HK; clear HB; clear HO_4; have HI0 := n0_; have HO137 := n1_; have HK := n2_; have HB := n3_; clear n0_ n1_ n2_ n3_; (try clear hb); (try clear hkp); (try clear ho0))); try go_wp2_with (first | (go_at_call 58; (with_reducible refine (Yk.calls g t123 (wrap64 (t124 + 1)) 41 t131 true t133 t134 w0 _ ?side1 ?side2 A22.out).mono ?_); (case side1 => exact Z9); (case side2 => exact Zd); rintro e w31 ⟨rfl, hi, hb, hk⟩; have n0_ := Aside0.mk (Kd.R_mono (Kd.R_keep (IsS88.apart (show IsS88 w0 _ g t123 (wrap64 (t124 + 1)) from Z9) ZE Z1) hk (fun _ h => h.2)) (fun _ h => h.1)); have n1_ := Aside0.mk (Yw.trans Za hk (.inl rfl)); have n2_ := Aside0.mk (hb); have n3_ := Aside0.mk (hi); clear HO_4; clear HK; clear HB; clear HI0; have HO_4 := n0_; have HK := n1_; have HB := n2_; have HI0 := n3_; clear n0_ n1_ n2_ n3_; (try clear hb); (try clear hb2); (try clear hk); (try clear hi); obtain ⟨Ao32, co32, eo32⟩ := Kd.R_slice HO_4.out; subst eo32) | (go_at_call 85; (with_reducible refine (Yo.calls kj4 (fun k_ => some k_ = (.slice Ao32 y125.length co32 : Value).ownBlock) (.slice Ao32 y125.length co32) y125 t131 t135 false w0 _ ?side1 ?side2 A24.out).mono ?_); (case side1 => exact Zd); (case side2 => exact Kd.R_lower (Kd.R_tight rfl HO_4.out) HL.out); rintro e w33 ⟨v136, rfl, ho0, hb, hkp⟩; have n0_ := Aside0.mk (IsS88.kept Z9 hkp (fun hs_ => (fun e_ => (IsS88.own_ne HI0.out HO_4.out Z1) e_) hs_)); have n1_ := Aside0.mk (Kd.R_mono (ok' := fun k_ => True) (Kd.R_raise (d := (Kd.int .u8)) (b := w0.heap.size) (b' := w.heap.size) (fun _ _ _ _ h_ => h_) ho0 (fun k_ e_ => Or.elim (ho0.1 k_ e_) (fun hs_ => (fun e_ => Kd.R_base HO_4.out k_ e_.symm) hs_) (fun hn_ => Nat.le_trans (VG (w := w) (g := g) (row := none) Za) hn_))) (fun k_ hk_ => trivial)); have n2_ := Aside0.mk (Kept.keepG Za hkp (fun k_ hs_ => (fun e_ => .inr (Kd.R_base HO_4.out k_ e_.symm)) hs_)); have n3_ := Aside0.mk (hb); clear HI0; clear HK; clear HB; clear HO_4; have HI0 := n0_; have HO137 := n1_; have HK := n2_; have HB := n3_; clear n0_ n1_ n2_ n3_; (try clear hb); (try clear hkp); (try clear ho0))))
             go_ret2
             exact Zu
           ·replace c23 := Bool.eq_false_iff.mpr c23
            subst c23
            rw [if_neg Z1] at H
            simp only [Option.some.injEq, Prod.mk.injEq] at H
            obtain ⟨rfl, rfl, rfl, rfl⟩ := H
            obtain ⟨HGz34, hgz34⟩ := HI0.out
            have hcz34_0 := Xx HGz34
            have hcz34_1 := Xw HGz34
            have hfz34_0 := Yf HGz34 0
            have hfz34_1 := Yf HGz34 1
            clear HGz34 hgz34
            have p20 : 0 ≤ (t124 : Int) := of_decide_eq_true Z5
            have q20 : t124 < (t123.size : Int) := of_decide_eq_true Z5
            have hx20 := XD t123 t124
            replace p20 := eq_true p20
            replace q20 := eq_true q20
            go_wp2_with (first | (go_at_call 58; (with_reducible refine (Yk.calls g t123 (wrap64 (t124 + 1)) 41 t131 false t133 t134 w0 _ ?side1 ?side2 A22.out).mono ?_); (case side1 => exact Z9); (case side2 => exact Zd); rintro e w35 ⟨rfl, hi, hb, hk⟩; have n0_ := Aside0.mk (Kd.R_mono (Kd.R_keep (IsS88.apart (show IsS88 w0 _ g t123 (wrap64 (t124 + 1)) from Z9) ZE Z1) hk (fun _ h => h.2)) (fun _ h => h.1)); have n1_ := Aside0.mk (Yw.trans Za hk (.inl rfl)); have n2_ := Aside0.mk (hb); have n3_ := Aside0.mk (hi); clear HO_4; clear HK; clear HB; clear HI0; have HO_4 := n0_; have HK := n1_; have HB := n2_; have HI0 := n3_; clear n0_ n1_ n2_ n3_; (try clear hb); (try clear hb2); (try clear hk); (try clear hi)))
            repeat (go_quiet (first | (go_at_call 58; (with_reducible refine (Yk.calls g t123 (wrap64 (t124 + 1)) 41 t131 false t133 t134 w0 _ ?side1 ?side2 A22.out).mono ?_); (case side1 => exact Z9); (case side2 => exact Zd); rintro e w35 ⟨rfl, hi, hb, hk⟩; have n0_ := Aside0.mk (Kd.R_mono (Kd.R_keep (IsS88.apart (show IsS88 w0 _ g t123 (wrap64 (t124 + 1)) from Z9) ZE Z1) hk (fun _ h => h.2)) (fun _ h => h.1)); have n1_ := Aside0.mk (Yw.trans Za hk (.inl rfl)); have n2_ := Aside0.mk (hb); have n3_ := Aside0.mk (hi); clear HO_4; clear HK; clear HB; clear HI0; have HO_4 := n0_; have HK := n1_; have HB := n2_; have HI0 := n3_; clear n0_ n1_ n2_ n3_; (try clear hb); (try clear hb2); (try clear hk); (try clear hi))); try go_wp2_with (first | (go_at_call 58; (with_reducible refine (Yk.calls g t123 (wrap64 (t124 + 1)) 41 t131 false t133 t134 w0 _ ?side1 ?side2 A22.out).mono ?_); (case side1 => exact Z9); (case side2 => exact Zd); rintro e w35 ⟨rfl, hi, hb, hk⟩; have n0_ := Aside0.mk (Kd.R_mono (Kd.R_keep (IsS88.apart (show IsS88 w0 _ g t123 (wrap64 (t124 + 1)) from Z9) ZE Z1) hk (fun _ h => h.2)) (fun _ h => h.1)); have n1_ := Aside0.mk (Yw.trans Za hk (.inl rfl)); have n2_ := Aside0.mk (hb); have n3_ := Aside0.mk (hi); clear HO_4; clear HK; clear HB; clear HI0; have HO_4 := n0_; have HK := n1_; have HB := n2_; have HI0 := n3_; clear n0_ n1_ n2_ n3_; (try clear hb); (try clear hb2); (try clear hk); (try clear hi))))
            go_ret2
            exact Zu
          ·rw [if_neg c21] at H
           obtain ⟨c21b0, c21b1⟩ := neB c21
           simp only [Option.some.injEq, Prod.mk.injEq] at H
           obtain ⟨rfl, rfl, rfl, rfl⟩ := H
           obtain ⟨HGz36, hgz36⟩ := HI0.out
           have hcz36_0 := Xx HGz36
           have hcz36_1 := Xw HGz36
           have hfz36_0 := Yf HGz36 0
           have hfz36_1 := Yf HGz36 1
           clear HGz36 hgz36
           have p20 : 0 ≤ (t124 : Int) := of_decide_eq_true Z5
           have q20 : t124 < (t123.size : Int) := of_decide_eq_true Z5
           have hx20 := XD t123 t124
           replace p20 := eq_true p20
           replace q20 := eq_true q20
           go_wp2
           repeat (go_quiet (fail); try go_wp2)
           go_ret2
           exact Zu
         ·rw [if_neg c19] at H
          exact absurd H Z3
        ·rw [if_neg c18] at H
         exact absurd H Z3
    ·rw [if_neg c4] at H
     exact absurd H Z3
   ·replace c3 := Bool.eq_false_iff.mpr c3
    subst c3
    rw [if_neg Z1] at H
    simp only [Option.some.injEq, Prod.mk.injEq] at H
    obtain ⟨rfl, rfl, rfl, rfl⟩ := H
    go_wp2_with (first | (go_at_call 58; (with_reducible refine (Yk.calls g x1000_1 x1001_1 34 t121 false t123 t124 w0 _ ?side1 ?side2 A2.out).mono ?_); (case side1 => exact Z9); (case side2 => exact Zd); rintro e w37 ⟨rfl, hi, hb, hk⟩; have n0_ := Aside0.mk (Kd.R_mono (Kd.R_keep (IsS88.apart (show IsS88 w0 _ g x1000_1 x1001_1 from Z9) (Zr HO_4.out) Z1) hk (fun _ h => h.2)) (fun _ h => h.1)); have n1_ := Aside0.mk (Yw.trans Za hk (.inl rfl)); have n2_ := Aside0.mk (hb); have n3_ := Aside0.mk (hi); clear HO_4; clear HK; clear HB; clear HI0; have HO_4 := n0_; have HK := n1_; have HB := n2_; have HI0 := n3_; clear n0_ n1_ n2_ n3_; (try clear hb); (try clear hb2); (try clear hk); (try clear hi)))
    repeat (go_quiet (first | (go_at_call 58; (with_reducible refine (Yk.calls g x1000_1 x1001_1 34 t121 false t123 t124 w0 _ ?side1 ?side2 A2.out).mono ?_); (case side1 => exact Z9); (case side2 => exact Zd); rintro e w37 ⟨rfl, hi, hb, hk⟩; have n0_ := Aside0.mk (Kd.R_mono (Kd.R_keep (IsS88.apart (show IsS88 w0 _ g x1000_1 x1001_1 from Z9) (Zr HO_4.out) Z1) hk (fun _ h => h.2)) (fun _ h => h.1)); have n1_ := Aside0.mk (Yw.trans Za hk (.inl rfl)); have n2_ := Aside0.mk (hb); have n3_ := Aside0.mk (hi); clear HO_4; clear HK; clear HB; clear HI0; have HO_4 := n0_; have HK := n1_; have HB := n2_; have HI0 := n3_; clear n0_ n1_ n2_ n3_; (try clear hb); (try clear hb2); (try clear hk); (try clear hi))); try go_wp2_with (first | (go_at_call 58; (with_reducible refine (Yk.calls g x1000_1 x1001_1 34 t121 false t123 t124 w0 _ ?side1 ?side2 A2.out).mono ?_); (case side1 => exact Z9); (case side2 => exact Zd); rintro e w37 ⟨rfl, hi, hb, hk⟩; have n0_ := Aside0.mk (Kd.R_mono (Kd.R_keep (IsS88.apart (show IsS88 w0 _ g x1000_1 x1001_1 from Z9) (Zr HO_4.out) Z1) hk (fun _ h => h.2)) (fun _ h => h.1)); have n1_ := Aside0.mk (Yw.trans Za hk (.inl rfl)); have n2_ := Aside0.mk (hb); have n3_ := Aside0.mk (hi); clear HO_4; clear HK; clear HB; clear HI0; have HO_4 := n0_; have HK := n1_; have HB := n2_; have HI0 := n3_; clear n0_ n1_ n2_ n3_; (try clear hb); (try clear hb2); (try clear hk); (try clear hi))))
    go_ret2
    exact Zu
def Yt.f (k : Nat) (s0_0 : ByteArray) (s0_1 : Int) (a1 : ByteArray) : Option (Int × ByteArray × Int × ByteArray × Int) := if a1.toList = ([92] : List UInt8) then ((Yk.f s0_0 s0_1 10).bind fun bt139 => (if bt139.2.1 = true then (some (0, (⟨#[]⟩ : ByteArray), 0, bt139.2.2.1, bt139.2.2.2)) else (some (0, (⟨#[]⟩ : ByteArray), 0, bt139.2.2.1, (bt139.2.2.1.size : Int))))) else (if a1.toList = ([40] : List UInt8) then ((Yk.f s0_0 s0_1 41).bind fun bt143 => (if bt143.2.1 = true then (some (0, (⟨#[]⟩ : ByteArray), 0, bt143.2.2.1, bt143.2.2.2)) else (some (0, (⟨#[]⟩ : ByteArray), 15, bt143.2.2.1, bt143.2.2.2)))) else (if s0_1 = (s0_0.size : Int) then (some (0, (⟨#[]⟩ : ByteArray), 15, s0_0, s0_1)) else (if a1.toList = ([46, 40] : List UInt8) then ((Yk.f s0_0 (wrap64 (s0_1 + 1)) 41).bind fun bt147 => (if bt147.2.1 = true then ((XC.f bt147.1).bind fun bt151 => (some (3, bt151.1, bt151.2, bt147.2.2.1, bt147.2.2.2))) else (some (0, (⟨#[]⟩ : ByteArray), 15, bt147.2.2.1, bt147.2.2.2)))) else ((Yd.f k s0_0 (wrap64 (s0_1 + 1))).bind fun bt153 => (if a1.toList = ([34] : List UInt8) then (some (2, bt153.1, bt153.2.1, bt153.2.2.1, bt153.2.2.2)) else (some (3, bt153.1, bt153.2.1, bt153.2.2.1, bt153.2.2.2)))))))
theorem Yt.mono : ∀ a0 a1 a2 k, LeO (Yt.f k a0 a1 a2) (Yt.f (k + 1) a0 a1 a2) := by
 intro a0 a1 a2 k
 unfold Yt.f
 have ih7 := @Yd.mono; exact XI
theorem Yt.calls (k : Nat) (g : Nat) (s0_0 : ByteArray) (s0_1 : Int) (a1 : ByteArray) (r1 : Int) (r2 : ByteArray) (r3 : Int) (r4 : ByteArray) (r5 : Int) (w0 w : World) (hI : IsS88 w0 w g s0_0 s0_1) (hB : Below w0.heap.size w0 w) (h : Yt.f k s0_0 s0_1 a1 = some (r1, r2, r3, r4, r5)) :
 Calls Try.prog 33 #[.pointer (some ⟨g, 0, none⟩), .string a1] w fun e w' => e = .returned (.tuple #[.int .i64 r1, .string r2, .int .i64 r3]) ∧ IsS88 w0 w' g r4 r5 ∧ Below w0.heap.size w0 w' ∧ Yw w w' g none := by
 have HI0 := Aside0.mk hI
 have HK := Aside0.mk (Yw.refl w g none)
 have HL := Aside0.mk hB.size
 clear hI
 have HW0 := Aside0.mk hB.size
 have HB := Aside0.mk hB
 clear hB
 have H : (if a1.toList = ([92] : List UInt8) then ((Yk.f s0_0 s0_1 10).bind fun bt139 => (if bt139.2.1 = true then (some (0, (⟨#[]⟩ : ByteArray), 0, bt139.2.2.1, bt139.2.2.2)) else (some (0, (⟨#[]⟩ : ByteArray), 0, bt139.2.2.1, (bt139.2.2.1.size : Int))))) else (if a1.toList = ([40] : List UInt8) then ((Yk.f s0_0 s0_1 41).bind fun bt143 => (if bt143.2.1 = true then (some (0, (⟨#[]⟩ : ByteArray), 0, bt143.2.2.1, bt143.2.2.2)) else (some (0, (⟨#[]⟩ : ByteArray), 15, bt143.2.2.1, bt143.2.2.2)))) else (if s0_1 = (s0_0.size : Int) then (some (0, (⟨#[]⟩ : ByteArray), 15, s0_0, s0_1)) else (if a1.toList = ([46, 40] : List UInt8) then ((Yk.f s0_0 (wrap64 (s0_1 + 1)) 41).bind fun bt147 => (if bt147.2.1 = true then ((XC.f bt147.1).bind fun bt151 => (some (3, bt151.1, bt151.2, bt147.2.2.1, bt147.2.2.2))) else (some (0, (⟨#[]⟩ : ByteArray), 15, bt147.2.2.1, bt147.2.2.2)))) else ((Yd.f k s0_0 (wrap64 (s0_1 + 1))).bind fun bt153 => (if a1.toList = ([34] : List UInt8) then (some (2, bt153.1, bt153.2.1, bt153.2.2.1, bt153.2.2.2)) else (some (3, bt153.1, bt153.2.1, bt153.2.2.1, bt153.2.2.2)))))))) = some (r1, r2, r3, r4, r5) := h
 clear h
 by_cases c3 : a1.toList = ([92] : List UInt8)
 ·rw [if_pos c3] at H
  obtain ⟨c3b0, c3b1⟩ := eqB c3
  clear c3
  replace H := bE H; obtain ⟨⟨t139, t140, t141, t142⟩, A4, H⟩ := H; try dsimp only at H
  by_cases c5 : t140 = true
  ·subst c5
   rw [if_pos rfl] at H
   simp only [Option.some.injEq, Prod.mk.injEq] at H
   obtain ⟨rfl, rfl, rfl, rfl, rfl⟩ := H
   go_enter Try.func33, Try.ntmps33
   go_wp2_with (first | (go_at_call 58; (with_reducible refine (Yk.calls g s0_0 s0_1 10 t139 true t141 t142 w0 _ ?side1 ?side2 A4.out).mono ?_); (case side1 => exact Z9); (case side2 => exact Zd); rintro e w6 ⟨rfl, hi, hb, hk⟩; have n0_ := Aside0.mk (Yw.trans Za hk (.inl rfl)); have n1_ := Aside0.mk (hb); have n2_ := Aside0.mk (hi); clear HK; clear HB; clear HI0; have HK := n0_; have HB := n1_; have HI0 := n2_; clear n0_ n1_ n2_; (try clear hb); (try clear hb2); (try clear hk); (try clear hi)))
   repeat (go_quiet (first | (go_at_call 58; (with_reducible refine (Yk.calls g s0_0 s0_1 10 t139 true t141 t142 w0 _ ?side1 ?side2 A4.out).mono ?_); (case side1 => exact Z9); (case side2 => exact Zd); rintro e w6 ⟨rfl, hi, hb, hk⟩; have n0_ := Aside0.mk (Yw.trans Za hk (.inl rfl)); have n1_ := Aside0.mk (hb); have n2_ := Aside0.mk (hi); clear HK; clear HB; clear HI0; have HK := n0_; have HB := n1_; have HI0 := n2_; clear n0_ n1_ n2_; (try clear hb); (try clear hb2); (try clear hk); (try clear hi))); try go_wp2_with (first | (go_at_call 58; (with_reducible refine (Yk.calls g s0_0 s0_1 10 t139 true t141 t142 w0 _ ?side1 ?side2 A4.out).mono ?_); (case side1 => exact Z9); (case side2 => exact Zd); rintro e w6 ⟨rfl, hi, hb, hk⟩; have n0_ := Aside0.mk (Yw.trans Za hk (.inl rfl)); have n1_ := Aside0.mk (hb); have n2_ := Aside0.mk (hi); clear HK; clear HB; clear HI0; have HK := n0_; have HB := n1_; have HI0 := n2_; clear n0_ n1_ n2_; (try clear hb); (try clear hb2); (try clear hk); (try clear hi))))
   go_ret3
   exact Zu
  ·replace c5 := Bool.eq_false_iff.mpr c5
   subst c5
   rw [if_neg Z1] at H
   simp only [Option.some.injEq, Prod.mk.injEq] at H
   obtain ⟨rfl, rfl, rfl, rfl, rfl⟩ := H
   go_enter Try.func33, Try.ntmps33
   go_wp2_with (first | (go_at_call 58; (with_reducible refine (Yk.calls g s0_0 s0_1 10 t139 false t141 t142 w0 _ ?side1 ?side2 A4.out).mono ?_); (case side1 => exact Z9); (case side2 => exact Zd); rintro e w7 ⟨rfl, hi, hb, hk⟩; have n0_ := Aside0.mk (Yw.trans Za hk (.inl rfl)); have n1_ := Aside0.mk (hb); have n2_ := Aside0.mk (hi); clear HK; clear HB; clear HI0; have HK := n0_; have HB := n1_; have HI0 := n2_; clear n0_ n1_ n2_; (try clear hb); (try clear hb2); (try clear hk); (try clear hi); obtain ⟨HGz8, hgz8⟩ := HI0.out; have hcz8_0 := Xx HGz8; have hcz8_1 := Xw HGz8; have hfz8_0 := Yf HGz8 0; have hfz8_1 := Yf HGz8 1; clear HGz8 hgz8))
   repeat (go_quiet (first | (go_at_call 58; (with_reducible refine (Yk.calls g s0_0 s0_1 10 t139 false t141 t142 w0 _ ?side1 ?side2 A4.out).mono ?_); (case side1 => exact Z9); (case side2 => exact Zd); rintro e w7 ⟨rfl, hi, hb, hk⟩; have n0_ := Aside0.mk (Yw.trans Za hk (.inl rfl)); have n1_ := Aside0.mk (hb); have n2_ := Aside0.mk (hi); clear HK; clear HB; clear HI0; have HK := n0_; have HB := n1_; have HI0 := n2_; clear n0_ n1_ n2_; (try clear hb); (try clear hb2); (try clear hk); (try clear hi); obtain ⟨HGz8, hgz8⟩ := HI0.out; have hcz8_0 := Xx HGz8; have hcz8_1 := Xw HGz8; have hfz8_0 := Yf HGz8 0; have hfz8_1 := Yf HGz8 1; clear HGz8 hgz8)); try go_wp2_with (first | (go_at_call 58; (with_reducible refine (Yk.calls g s0_0 s0_1 10 t139 false t141 t142 w0 _ ?side1 ?side2 A4.out).mono ?_); (case side1 => exact Z9); (case side2 => exact Zd); rintro e w7 ⟨rfl, hi, hb, hk⟩; have n0_ := Aside0.mk (Yw.trans Za hk (.inl rfl)); have n1_ := Aside0.mk (hb); have n2_ := Aside0.mk (hi); clear HK; clear HB; clear HI0; have HK := n0_; have HB := n1_; have HI0 := n2_; clear n0_ n1_ n2_; (try clear hb); (try clear hb2); (try clear hk); (try clear hi); obtain ⟨HGz8, hgz8⟩ := HI0.out; have hcz8_0 := Xx HGz8; have hcz8_1 := Xw HGz8; have hfz8_0 := Yf HGz8 0; have hfz8_1 := Yf HGz8 1; clear HGz8 hgz8)))
   go_ret3
   exact Zu
 ·rw [if_neg c3] at H
  obtain ⟨c3b0, c3b1⟩ := neB c3
  by_cases c9 : a1.toList = ([40] : List UInt8)
  ·rw [if_pos c9] at H
   obtain ⟨c9b0, c9b1⟩ := eqB c9
   clear c9
   replace H := bE H; obtain ⟨⟨t143, t144, t145, t146⟩, A10, H⟩ := H; try dsimp only at H
   by_cases c11 : t144 = true
   ·subst c11
    rw [if_pos rfl] at H
    simp only [Option.some.injEq, Prod.mk.injEq] at H
    obtain ⟨rfl, rfl, rfl, rfl, rfl⟩ := H
    go_enter Try.func33, Try.ntmps33
    go_wp2_with (first | (go_at_call 58; (with_reducible refine (Yk.calls g s0_0 s0_1 41 t143 true t145 t146 w0 _ ?side1 ?side2 A10.out).mono ?_); (case side1 => exact Z9); (case side2 => exact Zd); rintro e w12 ⟨rfl, hi, hb, hk⟩; have n0_ := Aside0.mk (Yw.trans Za hk (.inl rfl)); have n1_ := Aside0.mk (hb); have n2_ := Aside0.mk (hi); clear HK; clear HB; clear HI0; have HK := n0_; have HB := n1_; have HI0 := n2_; clear n0_ n1_ n2_; (try clear hb); (try clear hb2); (try clear hk); (try clear hi)))
    repeat (go_quiet (first | (go_at_call 58; (with_reducible refine (Yk.calls g s0_0 s0_1 41 t143 true t145 t146 w0 _ ?side1 ?side2 A10.out).mono ?_); (case side1 => exact Z9); (case side2 => exact Zd); rintro e w12 ⟨rfl, hi, hb, hk⟩; have n0_ := Aside0.mk (Yw.trans Za hk (.inl rfl)); have n1_ := Aside0.mk (hb); have n2_ := Aside0.mk (hi); clear HK; clear HB; clear HI0; have HK := n0_; have HB := n1_; have HI0 := n2_; clear n0_ n1_ n2_; (try clear hb); (try clear hb2); (try clear hk); (try clear hi))); try go_wp2_with (first | (go_at_call 58; (with_reducible refine (Yk.calls g s0_0 s0_1 41 t143 true t145 t146 w0 _ ?side1 ?side2 A10.out).mono ?_); (case side1 => exact Z9); (case side2 => exact Zd); rintro e w12 ⟨rfl, hi, hb, hk⟩; have n0_ := Aside0.mk (Yw.trans Za hk (.inl rfl)); have n1_ := Aside0.mk (hb); have n2_ := Aside0.mk (hi); clear HK; clear HB; clear HI0; have HK := n0_; have HB := n1_; have HI0 := n2_; clear n0_ n1_ n2_; (try clear hb); (try clear hb2); (try clear hk); (try clear hi))))
    go_ret3
    exact Zu
   ·replace c11 := Bool.eq_false_iff.mpr c11
    subst c11
    rw [if_neg Z1] at H
    simp only [Option.some.injEq, Prod.mk.injEq] at H
    obtain ⟨rfl, rfl, rfl, rfl, rfl⟩ := H
    go_enter Try.func33, Try.ntmps33
    go_wp2_with (first | (go_at_call 58; (with_reducible refine (Yk.calls g s0_0 s0_1 41 t143 false t145 t146 w0 _ ?side1 ?side2 A10.out).mono ?_); (case side1 => exact Z9); (case side2 => exact Zd); rintro e w13 ⟨rfl, hi, hb, hk⟩; have n0_ := Aside0.mk (Yw.trans Za hk (.inl rfl)); have n1_ := Aside0.mk (hb); have n2_ := Aside0.mk (hi); clear HK; clear HB; clear HI0; have HK := n0_; have HB := n1_; have HI0 := n2_; clear n0_ n1_ n2_; (try clear hb); (try clear hb2); (try clear hk); (try clear hi)))
    repeat (go_quiet (first | (go_at_call 58; (with_reducible refine (Yk.calls g s0_0 s0_1 41 t143 false t145 t146 w0 _ ?side1 ?side2 A10.out).mono ?_); (case side1 => exact Z9); (case side2 => exact Zd); rintro e w13 ⟨rfl, hi, hb, hk⟩; have n0_ := Aside0.mk (Yw.trans Za hk (.inl rfl)); have n1_ := Aside0.mk (hb); have n2_ := Aside0.mk (hi); clear HK; clear HB; clear HI0; have HK := n0_; have HB := n1_; have HI0 := n2_; clear n0_ n1_ n2_; (try clear hb); (try clear hb2); (try clear hk); (try clear hi))); try go_wp2_with (first | (go_at_call 58; (with_reducible refine (Yk.calls g s0_0 s0_1 41 t143 false t145 t146 w0 _ ?side1 ?side2 A10.out).mono ?_); (case side1 => exact Z9); (case side2 => exact Zd); rintro e w13 ⟨rfl, hi, hb, hk⟩; have n0_ := Aside0.mk (Yw.trans Za hk (.inl rfl)); have n1_ := Aside0.mk (hb); have n2_ := Aside0.mk (hi); clear HK; clear HB; clear HI0; have HK := n0_; have HB := n1_; have HI0 := n2_; clear n0_ n1_ n2_; (try clear hb); (try clear hb2); (try clear hk); (try clear hi))))
    go_ret3
    exact Zu
  ·rw [if_neg c9] at H
   obtain ⟨c9b0, c9b1⟩ := neB c9
   by_cases c14 : s0_1 = (s0_0.size : Int)
   ·rw [if_pos c14] at H
    obtain ⟨c14b0, c14b1⟩ := eqB c14
    clear c14
    simp only [Option.some.injEq, Prod.mk.injEq] at H
    obtain ⟨rfl, rfl, rfl, rfl, rfl⟩ := H
    obtain ⟨HGz15, hgz15⟩ := HI0.out
    have hcz15_0 := Xx HGz15
    have hcz15_1 := Xw HGz15
    have hfz15_0 := Yf HGz15 0
    have hfz15_1 := Yf HGz15 1
    clear HGz15 hgz15
    go_enter Try.func33, Try.ntmps33
    go_wp2
    repeat (go_quiet (fail); try go_wp2)
    go_ret3
    exact Zu
   ·rw [if_neg c14] at H
    obtain ⟨c14b0, c14b1⟩ := neB c14
    by_cases c16 : a1.toList = ([46, 40] : List UInt8)
    ·rw [if_pos c16] at H
     obtain ⟨c16b0, c16b1⟩ := eqB c16
     clear c16
     replace H := bE H; obtain ⟨⟨t147, t148, t149, t150⟩, A17, H⟩ := H; try dsimp only at H
     by_cases c18 : t148 = true
     ·subst c18
      rw [if_pos rfl] at H
      replace H := bE H; obtain ⟨⟨t151, t152⟩, A19, H⟩ := H; try dsimp only at H
      simp only [Option.some.injEq, Prod.mk.injEq] at H
      obtain ⟨rfl, rfl, rfl, rfl, rfl⟩ := H
      obtain ⟨HGz20, hgz20⟩ := HI0.out
      have hcz20_0 := Xx HGz20
      have hcz20_1 := Xw HGz20
      have hfz20_0 := Yf HGz20 0
      have hfz20_1 := Yf HGz20 1
      clear HGz20 hgz20
      go_enter Try.func33, Try.ntmps33
      go_wp2_with (first | (go_at_call 58; (with_reducible refine (Yk.calls g s0_0 (wrap64 (s0_1 + 1)) 41 t147 true t149 t150 w0 _ ?side1 ?side2 A17.out).mono ?_); (case side1 => exact Z9); (case side2 => exact Zd); rintro e w21 ⟨rfl, hi, hb, hk⟩; have n0_ := Aside0.mk (Yw.trans Za hk (.inl rfl)); have n1_ := Aside0.mk (hb); have n2_ := Aside0.mk (hi); clear HK; clear HB; clear HI0; have HK := n0_; have HB := n1_; have HI0 := n2_; clear n0_ n1_ n2_; (try clear hb); (try clear hb2); (try clear hk); (try clear hi)) | (go_at_call 59; (with_reducible refine (XC.calls t147 t151 t152 _ A19.out).mono ?_); rintro e w' ⟨rfl, ⟨nd, rfl⟩⟩; (try first | exact ⟨rfl, _, World.drewN_drewN _ _ _⟩ | exact ⟨rfl, _, Eq.trans (World.drewN_drewN _ _ _) (congrArg (World.drewN _) (Nat.add_assoc _ _ _))⟩)))
      repeat (go_quiet (first | (go_at_call 58; (with_reducible refine (Yk.calls g s0_0 (wrap64 (s0_1 + 1)) 41 t147 true t149 t150 w0 _ ?side1 ?side2 A17.out).mono ?_); (case side1 => exact Z9); (case side2 => exact Zd); rintro e w21 ⟨rfl, hi, hb, hk⟩; have n0_ := Aside0.mk (Yw.trans Za hk (.inl rfl)); have n1_ := Aside0.mk (hb); have n2_ := Aside0.mk (hi); clear HK; clear HB; clear HI0; have HK := n0_; have HB := n1_; have HI0 := n2_; clear n0_ n1_ n2_; (try clear hb); (try clear hb2); (try clear hk); (try clear hi)) | (go_at_call 59; (with_reducible refine (XC.calls t147 t151 t152 _ A19.out).mono ?_); rintro e w' ⟨rfl, ⟨nd, rfl⟩⟩; (try first | exact ⟨rfl, _, World.drewN_drewN _ _ _⟩ | exact ⟨rfl, _, Eq.trans (World.drewN_drewN _ _ _) (congrArg (World.drewN _) (Nat.add_assoc _ _ _))⟩))); try go_wp2_with (first | (go_at_call 58; (with_reducible refine (Yk.calls g s0_0 (wrap64 (s0_1 + 1)) 41 t147 true t149 t150 w0 _ ?side1 ?side2 A17.out).mono ?_); (case side1 => exact Z9); (case side2 => exact Zd); rintro e w21 ⟨rfl, hi, hb, hk⟩; have n0_ := Aside0.mk (Yw.trans Za hk (.inl rfl)); have n1_ := Aside0.mk (hb); have n2_ := Aside0.mk (hi); clear HK; clear HB; clear HI0; have HK := n0_; have HB := n1_; have HI0 := n2_; clear n0_ n1_ n2_; (try clear hb); (try clear hb2); (try clear hk); (try clear hi)) | (go_at_call 59; (with_reducible refine (XC.calls t147 t151 t152 _ A19.out).mono ?_); rintro e w' ⟨rfl, ⟨nd, rfl⟩⟩; (try first | exact ⟨rfl, _, World.drewN_drewN _ _ _⟩ | exact ⟨rfl, _, Eq.trans (World.drewN_drewN _ _ _) (congrArg (World.drewN _) (Nat.add_assoc _ _ _))⟩))))
      go_ret3
      exact Zu
     ·replace c18 := Bool.eq_false_iff.mpr c18
      subst c18
      rw [if_neg Z1] at H
      simp only [Option.some.injEq, Prod.mk.injEq] at H
      obtain ⟨rfl, rfl, rfl, rfl, rfl⟩ := H
      obtain ⟨HGz22, hgz22⟩ := HI0.out
      have hcz22_0 := Xx HGz22
      have hcz22_1 := Xw HGz22
      have hfz22_0 := Yf HGz22 0
      have hfz22_1 := Yf HGz22 1
      clear HGz22 hgz22
      go_enter Try.func33, Try.ntmps33
      go_wp2_with (first | (go_at_call 58; (with_reducible refine (Yk.calls g s0_0 (wrap64 (s0_1 + 1)) 41 t147 false t149 t150 w0 _ ?side1 ?side2 A17.out).mono ?_); (case side1 => exact Z9); (case side2 => exact Zd); rintro e w23 ⟨rfl, hi, hb, hk⟩; have n0_ := Aside0.mk (Yw.trans Za hk (.inl rfl)); have n1_ := Aside0.mk (hb); have n2_ := Aside0.mk (hi); clear HK; clear HB; clear HI0; have HK := n0_; have HB := n1_; have HI0 := n2_; clear n0_ n1_ n2_; (try clear hb); (try clear hb2); (try clear hk); (try clear hi)))
      repeat (go_quiet (first | (go_at_call 58; (with_reducible refine (Yk.calls g s0_0 (wrap64 (s0_1 + 1)) 41 t147 false t149 t150 w0 _ ?side1 ?side2 A17.out).mono ?_); (case side1 => exact Z9); (case side2 => exact Zd); rintro e w23 ⟨rfl, hi, hb, hk⟩; have n0_ := Aside0.mk (Yw.trans Za hk (.inl rfl)); have n1_ := Aside0.mk (hb); have n2_ := Aside0.mk (hi); clear HK; clear HB; clear HI0; have HK := n0_; have HB := n1_; have HI0 := n2_; clear n0_ n1_ n2_; (try clear hb); (try clear hb2); (try clear hk); (try clear hi))); try go_wp2_with (first | (go_at_call 58; (with_reducible refine (Yk.calls g s0_0 (wrap64 (s0_1 + 1)) 41 t147 false t149 t150 w0 _ ?side1 ?side2 A17.out).mono ?_); (case side1 => exact Z9); (case side2 => exact Zd); rintro e w23 ⟨rfl, hi, hb, hk⟩; have n0_ := Aside0.mk (Yw.trans Za hk (.inl rfl)); have n1_ := Aside0.mk (hb); have n2_ := Aside0.mk (hi); clear HK; clear HB; clear HI0; have HK := n0_; have HB := n1_; have HI0 := n2_; clear n0_ n1_ n2_; (try clear hb); (try clear hb2); (try clear hk); (try clear hi))))
      go_ret3
      exact Zu
    ·rw [if_neg c16] at H
     obtain ⟨c16b0, c16b1⟩ := neB c16
     replace H := bE H; obtain ⟨⟨t153, t154, t155, t156⟩, A24, H⟩ := H; try dsimp only at H
     by_cases c25 : a1.toList = ([34] : List UInt8)
     ·rw [if_pos c25] at H
      obtain ⟨c25b0, c25b1⟩ := eqB c25
      clear c25
      simp only [Option.some.injEq, Prod.mk.injEq] at H
      obtain ⟨rfl, rfl, rfl, rfl, rfl⟩ := H
      obtain ⟨HGz26, hgz26⟩ := HI0.out
      have hcz26_0 := Xx HGz26
      have hcz26_1 := Xw HGz26
      have hfz26_0 := Yf HGz26 0
      have hfz26_1 := Yf HGz26 1
      clear HGz26 hgz26
      go_enter Try.func33, Try.ntmps33
      go_wp2_with (first | (go_at_call 60; (with_reducible refine (Yd.calls k g s0_0 (wrap64 (s0_1 + 1)) t153 t154 t155 t156 w0 _ ?side1 ?side2 A24.out).mono ?_); (case side1 => exact Z9); (case side2 => exact Zd); rintro e w27 ⟨rfl, hi, hb, hk⟩; have n0_ := Aside0.mk (Yw.trans Za hk (.inl rfl)); have n1_ := Aside0.mk (hb); have n2_ := Aside0.mk (hi); clear HK; clear HB; clear HI0; have HK := n0_; have HB := n1_; have HI0 := n2_; clear n0_ n1_ n2_; (try clear hb); (try clear hb2); (try clear hk); (try clear hi)))
      repeat (go_quiet (first | (go_at_call 60; (with_reducible refine (Yd.calls k g s0_0 (wrap64 (s0_1 + 1)) t153 t154 t155 t156 w0 _ ?side1 ?side2 A24.out).mono ?_); (case side1 => exact Z9); (case side2 => exact Zd); rintro e w27 ⟨rfl, hi, hb, hk⟩; have n0_ := Aside0.mk (Yw.trans Za hk (.inl rfl)); have n1_ := Aside0.mk (hb); have n2_ := Aside0.mk (hi); clear HK; clear HB; clear HI0; have HK := n0_; have HB := n1_; have HI0 := n2_; clear n0_ n1_ n2_; (try clear hb); (try clear hb2); (try clear hk); (try clear hi))); try go_wp2_with (first | (go_at_call 60; (with_reducible refine (Yd.calls k g s0_0 (wrap64 (s0_1 + 1)) t153 t154 t155 t156 w0 _ ?side1 ?side2 A24.out).mono ?_); (case side1 => exact Z9); (case side2 => exact Zd); rintro e w27 ⟨rfl, hi, hb, hk⟩; have n0_ := Aside0.mk (Yw.trans Za hk (.inl rfl)); have n1_ := Aside0.mk (hb); have n2_ := Aside0.mk (hi); clear HK; clear HB; clear HI0; have HK := n0_; have HB := n1_; have HI0 := n2_; clear n0_ n1_ n2_; (try clear hb); (try clear hb2); (try clear hk); (try clear hi))))
      go_ret3
      exact Zu
     ·rw [if_neg c25] at H
      obtain ⟨c25b0, c25b1⟩ := neB c25
      simp only [Option.some.injEq, Prod.mk.injEq] at H
      obtain ⟨rfl, rfl, rfl, rfl, rfl⟩ := H
      obtain ⟨HGz28, hgz28⟩ := HI0.out
      have hcz28_0 := Xx HGz28
      have hcz28_1 := Xw HGz28
      have hfz28_0 := Yf HGz28 0
      have hfz28_1 := Yf HGz28 1
      clear HGz28 hgz28
      go_enter Try.func33, Try.ntmps33
      go_wp2_with (first | (go_at_call 60; (with_reducible refine (Yd.calls k g s0_0 (wrap64 (s0_1 + 1)) t153 t154 t155 t156 w0 _ ?side1 ?side2 A24.out).mono ?_); (case side1 => exact Z9); (case side2 => exact Zd); rintro e w29 ⟨rfl, hi, hb, hk⟩; have n0_ := Aside0.mk (Yw.trans Za hk (.inl rfl)); have n1_ := Aside0.mk (hb); have n2_ := Aside0.mk (hi); clear HK; clear HB; clear HI0; have HK := n0_; have HB := n1_; have HI0 := n2_; clear n0_ n1_ n2_; (try clear hb); (try clear hb2); (try clear hk); (try clear hi)))
      repeat (go_quiet (first | (go_at_call 60; (with_reducible refine (Yd.calls k g s0_0 (wrap64 (s0_1 + 1)) t153 t154 t155 t156 w0 _ ?side1 ?side2 A24.out).mono ?_); (case side1 => exact Z9); (case side2 => exact Zd); rintro e w29 ⟨rfl, hi, hb, hk⟩; have n0_ := Aside0.mk (Yw.trans Za hk (.inl rfl)); have n1_ := Aside0.mk (hb); have n2_ := Aside0.mk (hi); clear HK; clear HB; clear HI0; have HK := n0_; have HB := n1_; have HI0 := n2_; clear n0_ n1_ n2_; (try clear hb); (try clear hb2); (try clear hk); (try clear hi))); try go_wp2_with (first | (go_at_call 60; (with_reducible refine (Yd.calls k g s0_0 (wrap64 (s0_1 + 1)) t153 t154 t155 t156 w0 _ ?side1 ?side2 A24.out).mono ?_); (case side1 => exact Z9); (case side2 => exact Zd); rintro e w29 ⟨rfl, hi, hb, hk⟩; have n0_ := Aside0.mk (Yw.trans Za hk (.inl rfl)); have n1_ := Aside0.mk (hb); have n2_ := Aside0.mk (hi); clear HK; clear HB; clear HI0; have HK := n0_; have HB := n1_; have HI0 := n2_; clear n0_ n1_ n2_; (try clear hb); (try clear hb2); (try clear hk); (try clear hi))))
      go_ret3
      exact Zu
end Go.Proofs.Ytehmhgpogpbjiaa.PFccTokens
