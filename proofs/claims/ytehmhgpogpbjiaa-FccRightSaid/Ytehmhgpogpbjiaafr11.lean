import Derived.Test.Ytehmhgpogpbjiaafr10
set_option linter.unusedVariables false
set_option linter.unusedSimpArgs false
set_option maxRecDepth 100000
set_option maxHeartbeats 8000000
namespace Go.Proofs.Ytehmhgpogpbjiaa.PFccTokens
open Go.RowKit Go.Proofs.YtehmhgpogpbjiaaW.PrintWords Go.Proofs.YtehmhgpogpbjiaaW.PrintLast Go.Proofs.YtehmhgpogpbjiaaW.PrintMore
attribute [local go_sem] Vx Vv VV VU Ve Vd Vw Vu
mutual
def Yb.l0 : Nat → ByteArray → Int → List Int → Option (ByteArray × Int × Int)
 | 0, _, _, _ => none
 | k + 1, x0, x1, x7 => (Yl.f k x0 x1 34).bind fun t320 => (if t320 = (x0.size : Int) then (some ((⟨#[]⟩ : ByteArray), 0, 15)) else (if 0 ≤ x1 then (if x1 ≤ t320 then (if t320 ≤ (x0.size : Int) then (if x7.length + (x0.extract (x1 : Int).toNat (t320 : Int).toNat).size < 140737488355328 then ((some (x7 ++ Xl (x0.extract (x1 : Int).toNat (t320 : Int).toNat) : List Int)).bind fun y321 => (if (wrap64 (t320 + 1)) < (x0.size : Int) then (if 0 ≤ (wrap64 (t320 + 1)) then (Yb.j1 k x0 y321 t320 ((bt x0 (wrap64 (t320 + 1))) == 40)) else (none)) else (Yb.j1 k x0 y321 t320 false))) else (none)) else (none)) else (none)) else (none)))
def Yb.j1 : Nat → ByteArray → List Int → Int → Bool → Option (ByteArray × Int × Int)
 | 0, _, _, _, _ => none
 | k + 1, x0, x7, x8, x36 => if x36 = true then ((Yl.f k x0 x8 41).bind fun t324 => (if t324 = (x0.size : Int) then (some ((⟨#[]⟩ : ByteArray), 0, 15)) else (if 0 ≤ (wrap64 (x8 + 2)) then (if (wrap64 (x8 + 2)) ≤ t324 then (if t324 ≤ (x0.size : Int) then ((Yj.f k (x0.extract ((wrap64 (x8 + 2)) : Int).toNat (t324 : Int).toNat)).bind fun bt325 => (if bt325.2 = true then (if x7.length + bt325.1.length < 140737488355328 then (Yb.l0 k x0 (wrap64 (t324 + 1)) (x7 ++ bt325.1)) else (none)) else (some ((⟨#[]⟩ : ByteArray), 0, 15)))) else (none)) else (none)) else (none)))) else (if (wrap64 (x8 + 1)) < (x0.size : Int) then ((Xb.f x0 (wrap64 (x8 + 1))).bind fun t332 => (Yb.j2 k x7 x8 (!t332))) else (Yb.j2 k x7 x8 false))
def Yb.j2 : Nat → List Int → Int → Bool → Option (ByteArray × Int × Int)
 | 0, _, _, _ => none
 | k + 1, x7, x8, x71 => if x71 = true then (some ((⟨#[]⟩ : ByteArray), 0, 15)) else (if (x7.length : Int) > 255 then (some ((⟨#[]⟩ : ByteArray), 0, 3)) else (some (strOfNums x7, wrap64 (x8 + 1), 0)))
end
def Yb.f (k : Nat) (a0 : ByteArray) (a1 : Int) : Option (ByteArray × Int × Int) := Yb.l0 k a0 a1 ([] : List Int)
theorem Yb.mono_l : ∀ k, (∀ y0 y1 y2, LeO (Yb.l0 k y0 y1 y2) (Yb.l0 (k + 1) y0 y1 y2)) ∧ (∀ y0 y1 y2 y3, LeO (Yb.j1 k y0 y1 y2 y3) (Yb.j1 (k + 1) y0 y1 y2 y3)) ∧ (∀ y0 y1 y2, LeO (Yb.j2 k y0 y1 y2) (Yb.j2 (k + 1) y0 y1 y2))
 | 0 => ⟨fun _ _ _ r h => by simp [Yb.l0] at h, fun _ _ _ _ r h => by simp [Yb.j1] at h, fun _ _ _ r h => by simp [Yb.j2] at h⟩
 | k + 1 => by
  obtain ⟨ih0, ih1, ih2⟩ := Yb.mono_l k
  refine ⟨?_, ?_, ?_⟩
  ·intro y0 y1 y2
   unfold Yb.l0
   have ih7 := @Yj.mono; have ih6 := @Yl.mono; exact XI
  ·intro y0 y1 y2 y3
   unfold Yb.j1
   have ih7 := @Yj.mono; have ih6 := @Yl.mono; exact XI
  ·intro y0 y1 y2
   unfold Yb.j2
   have ih7 := @Yj.mono; have ih6 := @Yl.mono; exact XI
theorem Yb.mono : ∀ a0 a1 k, LeO (Yb.f k a0 a1) (Yb.f (k + 1) a0 a1) := by
 intro a0 a1 k
 obtain ⟨ih0, ih1, ih2⟩ := Yb.mono_l k
 unfold Yb.f
 have ih7 := @Yj.mono; have ih6 := @Yl.mono; exact XI
theorem Yb.calls (k : Nat) (a0 : ByteArray) (a1 : Int) (r1 : ByteArray) (r2 : Int) (r3 : Int) (w : World) (h : Yb.f k a0 a1 = some (r1, r2, r3)) :
 Calls Try.prog 45 #[.string a0, .int .i64 a1] w fun e w' => e = .returned (.tuple #[.string r1, .int .i64 r2, .int .i64 r3]) ∧ Below w.heap.size w w' := by
 have HB := Aside0.mk (Below.refl w.heap.size w)
 have H : (Yb.l0 k a0 a1 ([] : List Int)) = some (r1, r2, r3) := h
 clear h
 have H' := Aside0.mk H
 clear H
 go_enter Try.func45, Try.ntmps45
 go_wp2
 go_loopg [1, 7] k (fun kq v1 v7 w' => ∃ (x1_1 : Int) (x7_1 : List Int), v1 = .int .i64 x1_1 ∧ Aside0 (Yb.l0 kq a0 x1_1 x7_1 = some (r1, r2, r3)) ∧ Aside0 (kq ≤ k) ∧ Aside0 (Kd.R (Kd.int .u8) 5 w' w.heap.size (fun _ => True) v7 x7_1) ∧ Aside0 (Below w.heap.size w w'))
 case atStart => exact ⟨(a1), (([] : List Int)), Z4, H', ⟨Nat.le_refl _⟩, ⟨Zl⟩, ⟨Z6⟩⟩
 case round =>
  clear H'
  try clear p2
  obtain ⟨x1_1, x7_1, rfl, HA, HK1, HO_7, HB⟩ := hrel
  cases gk with
  | zero => exact absurd HA.out (by simp [Yb.l0])
  | succ k1 =>
   have H := HA.out
   clear HA
   simp only [Yb.l0] at H
   replace H := bE H; obtain ⟨t320, A3, H⟩ := H
   by_cases c4 : t320 = (a0.size : Int)
   ·rw [if_pos c4] at H
    obtain ⟨c4b0, c4b1⟩ := eqB c4
    clear c4
    simp only [Option.some.injEq, Prod.mk.injEq] at H
    obtain ⟨rfl, rfl, rfl⟩ := H
    go_wp2_with (first | ((with_reducible refine Ym (f := 44) rfl ?_); refine YL (some 14) rfl rfl Try.func44 Z2 rfl #[.string a0, .int .i64 x1_1, .int .u8 34] rfl Zb ?_; (with_reducible refine (Yl.calls k1 a0 x1_1 34 t320 _ A3.out).mono ?_); rintro e w5 ⟨rfl, hb⟩; refine ⟨_, rfl, ?_⟩; have n0_ := Aside0.mk (Kd.R_below (Zr HO_7.out) hb); have n1_ := Aside0.mk (YN Z6 hb); clear HO_7; clear HB; have HO_7 := n0_; have HB := n1_; clear n0_ n1_; (try clear hb); (try clear hb2); (try clear hk); (try clear hi)))
    go_ret3
    exact Z12
   ·rw [if_neg c4] at H
    obtain ⟨c4b0, c4b1⟩ := neB c4
    by_cases c6 : 0 ≤ x1_1
    ·rw [if_pos c6] at H
     have c6b0 := eq_true c6
     have c6b1 := decide_eq_true c6
     clear c6
     by_cases c7 : x1_1 ≤ t320
     ·rw [if_pos c7] at H
      have c7b0 := eq_true c7
      have c7b1 := decide_eq_true c7
      clear c7
      by_cases c8 : t320 ≤ (a0.size : Int)
      ·rw [if_pos c8] at H
       have c8b0 := eq_true c8
       have c8b1 := decide_eq_true c8
       clear c8
       by_cases c9 : x7_1.length + (a0.extract (x1_1 : Int).toNat (t320 : Int).toNat).size < 140737488355328
       ·rw [if_pos c9] at H
        have LMc9 := Aside0.mk c9
        clear c9
        obtain ⟨y321, Ny321⟩ := aE (x7_1 ++ Xl (a0.extract (x1_1 : Int).toNat (t320 : Int).toNat)); rw [← Ny321.out] at H; try rw [Option.bind_some] at H
        have HC10 := Aside0.mk H
        clear H
        go_upto_region 6 with (first | ((with_reducible refine Ym (f := 44) rfl ?_); refine YL (some 14) rfl rfl Try.func44 Z2 rfl #[.string a0, .int .i64 x1_1, .int .u8 34] rfl Zb ?_; (with_reducible refine (Yl.calls k1 a0 x1_1 34 t320 _ A3.out).mono ?_); rintro e w11 ⟨rfl, hb⟩; refine ⟨_, rfl, ?_⟩; have n0_ := Aside0.mk (Kd.R_below (Zr HO_7.out) hb); have n1_ := Aside0.mk (YN Z6 hb); clear HO_7; clear HB; have HO_7 := n0_; have HB := n1_; clear n0_ n1_; (try clear hb); (try clear hb2); (try clear hk); (try clear hi)) | (at_builtin; refine Vt (w0 := w) w.heap.size rfl (.tmp 19) _ 29 9 5 rfl Try.underlying29 Try.underlying9 VL u7 x7_1 (a0.extract (x1_1 : Int).toNat (t320 : Int).toNat) rfl rfl ?aO ?aB ?aS ?aL ?_; (case aB => exact Z6); (case aO => exact (by exact (Kd.own_of_R (Zr HO_7.out)))); (case aS => exact (YK Z6)); (case aL => exact (Zo LMc9.out)); intro v322 w12 ho0 hb hg; have ho := Kd.R_of_own (h1 := fun _ => rfl) (ok := fun _ => True) ho0 (fun _ _ => trivial); clear ho0; have hat := True.intro; rw [← Ny321.out] at ho; change Kd.R (Kd.int .u8) 5 w12 w.heap.size (fun _ => True) v322 y321 at ho; have n0_ := Aside0.mk (hb); have n1_ := Aside0.mk (ho); clear HB; clear HO_7; have HB := n0_; have HO323 := n1_; clear n0_ n1_; clear ho hb hg hat))
        (try simp only [Act.put, List.setIfInBounds_toArray, List.set_cons_zero, List.set_cons_succ])
        go_cut [36] (fun v36 wc => ∃ (kq : Nat) (x36_9 : Bool), v36 = .bool x36_9 ∧ Aside0 (Yb.j1 kq a0 y321 t320 x36_9 = some (r1, r2, r3)) ∧ Aside0 (kq ≤ k1) ∧ Aside0 (Kd.R (Kd.int .u8) 5 wc w.heap.size (fun _ => True) v322 y321) ∧ Aside0 (Below w.heap.size w wc))
        case first =>
         have H := HC10.out
         clear HC10
         by_cases c13 : (wrap64 (t320 + 1)) < (a0.size : Int)
         ·rw [if_pos c13] at H
          have c13b0 := decide_eq_true c13
          clear c13
          (first | rw [c13b0] | (simp only [YH, YJ]; rw [c13b0]) | skip)
          obtain ⟨ji14, hji14⟩ : ∃ j_ : Int, (wrap64 (t320 + 1)) = j_ := ⟨_, rfl⟩
          replace H : (if 0 ≤ (ji14) then (Yb.j1 k1 a0 y321 t320 ((bt a0 (ji14)) == 40)) else (none)) = some (r1, r2, r3) := by first | (rw [hji14] at H; exact H) | (simp only [hji14] at H ⊢; exact H)
          (try rw [hji14] at c13b0)
          have hji14w : (IntKind.i64.wrap (t320 + 1)) = ji14 := (YH _).trans hji14
          by_cases c15 : 0 ≤ (ji14)
          ·rw [if_pos c15] at H
           have c15b0 := decide_eq_true c15
           clear c15
           have H' := Aside0.mk H
           clear H
           have p16 : 0 ≤ ((ji14) : Int) := of_decide_eq_true Z5
           have q16 : (ji14) < (a0.size : Int) := of_decide_eq_true Z5
           have hx16 := XD a0 (ji14)
           replace p16 := eq_true p16
           replace q16 := eq_true q16
           go_wp2
           go_meet
           case rel => exact ⟨_, (((bt a0 (ji14)) == 40)), (by first | rfl | (simp; done) | (simp only [← hji14] <;> (first | rfl | simp)) | (simp [*]; done) | (simp <;> omega) | (simp [*] <;> omega)), H', ⟨(Zo HK1.out)⟩, ⟨(Zr HO323.out)⟩, ⟨Z6⟩⟩
          ·rw [if_neg c15] at H
           exact absurd H Z3
         ·rw [if_neg c13] at H
          have c13b0 := decide_eq_false c13
          clear c13
          (first | rw [c13b0] | (simp only [YH, YJ]; rw [c13b0]) | skip)
          have H' := Aside0.mk H
          clear H
          go_wp2
          go_meet
          case rel => exact ⟨_, (false), Z4, H', ⟨(Zo HK1.out)⟩, ⟨(Zr HO323.out)⟩, ⟨Z6⟩⟩
        case rest =>
         clear HC10
         try clear c1
         try clear p1
         try clear q1
         try clear hx1
         try clear p2
         try clear c4
         try clear c4b0
         try clear c4b1
         try clear c6
         try clear c6b0
         try clear c6b1
         try clear p6
         try clear c7
         try clear c7b0
         try clear c7b1
         try clear c8
         try clear c8b0
         try clear c8b1
         try clear c9
         try clear c13
         try clear c13b0
         try clear c15
         try clear c15b0
         try clear p16
         try clear q16
         try clear hx16
         try clear p16
         try clear p2
         try clear q16
         obtain ⟨kq, x36_9, rfl, HA, HJ9, HO_7, HB⟩ := hcut
         cases kq with
         | zero => exact absurd HA.out (by simp [Yb.j1])
         | succ kj9 =>
          have H := HA.out
          clear HA
          simp only [Yb.j1] at H
          by_cases c17 : x36_9 = true
          ·subst c17
           rw [if_pos rfl] at H
           replace H := bE H; obtain ⟨t324, A18, H⟩ := H
           by_cases c19 : t324 = (a0.size : Int)
           ·rw [if_pos c19] at H
            obtain ⟨c19b0, c19b1⟩ := eqB c19
            clear c19
            simp only [Option.some.injEq, Prod.mk.injEq] at H
            obtain ⟨rfl, rfl, rfl⟩ := H
            go_wp2_with (first | ((with_reducible refine Ym (f := 44) rfl ?_); refine YL (some 39) rfl rfl Try.func44 Z2 rfl #[.string a0, .int .i64 t320, .int .u8 41] rfl Zb ?_; (with_reducible refine (Yl.calls kj9 a0 t320 41 t324 _ A18.out).mono ?_); rintro e w20 ⟨rfl, hb⟩; refine ⟨_, rfl, ?_⟩; have n0_ := Aside0.mk (Kd.R_below (Zr HO_7.out) hb); have n1_ := Aside0.mk (YN Z6 hb); clear HO_7; clear HB; have HO_7 := n0_; have HB := n1_; clear n0_ n1_; (try clear hb); (try clear hb2); (try clear hk); (try clear hi)))
            go_ret3
            exact Z12
           ·rw [if_neg c19] at H
            obtain ⟨c19b0, c19b1⟩ := neB c19
            obtain ⟨ji21, hji21⟩ : ∃ j_ : Int, (wrap64 (t320 + 2)) = j_ := ⟨_, rfl⟩
            replace H : (if 0 ≤ (ji21) then (if (ji21) ≤ t324 then (if t324 ≤ (a0.size : Int) then ((Yj.f kj9 (a0.extract ((ji21) : Int).toNat (t324 : Int).toNat)).bind fun bt325 => (if bt325.2 = true then (if y321.length + bt325.1.length < 140737488355328 then (Yb.l0 kj9 a0 (wrap64 (t324 + 1)) (y321 ++ bt325.1)) else (none)) else (some ((⟨#[]⟩ : ByteArray), 0, 15)))) else (none)) else (none)) else (none)) = some (r1, r2, r3) := by first | (rw [hji21] at H; exact H) | (simp only [hji21] at H ⊢; exact H)
            (try rw [hji21] at A18)
            have hji21w : (IntKind.i64.wrap (t320 + 2)) = ji21 := (YH _).trans hji21
            by_cases c22 : 0 ≤ (ji21)
            ·rw [if_pos c22] at H
             have c22b0 := eq_true c22
             have c22b1 := decide_eq_true c22
             clear c22
             by_cases c23 : (ji21) ≤ t324
             ·rw [if_pos c23] at H
              have c23b0 := eq_true c23
              have c23b1 := decide_eq_true c23
              clear c23
              by_cases c24 : t324 ≤ (a0.size : Int)
              ·rw [if_pos c24] at H
               have c24b0 := eq_true c24
               have c24b1 := decide_eq_true c24
               clear c24
               replace H := bE H; obtain ⟨⟨t325, t326⟩, A25, H⟩ := H; try dsimp only at H
               by_cases c26 : t326 = true
               ·subst c26
                rw [if_pos rfl] at H
                by_cases c27 : y321.length + t325.length < 140737488355328
                ·rw [if_pos c27] at H
                 have LMc27 := Aside0.mk c27
                 clear c27
                 obtain ⟨y329, Ny329⟩ := aE (y321 ++ t325); rw [← Ny329.out] at H; try rw [Option.bind_some] at H
                 have H' := Aside0.mk H
                 clear H
                 go_wp2_with (first | ((with_reducible refine Ym (f := 44) rfl ?_); refine YL (some 39) rfl rfl Try.func44 Z2 rfl #[.string a0, .int .i64 t320, .int .u8 41] rfl Zb ?_; (with_reducible refine (Yl.calls kj9 a0 t320 41 t324 _ A18.out).mono ?_); rintro e w28 ⟨rfl, hb⟩; refine ⟨_, rfl, ?_⟩; have n0_ := Aside0.mk (Kd.R_below (Zr HO_7.out) hb); have n1_ := Aside0.mk (YN Z6 hb); clear HO_7; clear HB; have HO_7 := n0_; have HB := n1_; clear n0_ n1_; (try clear hb); (try clear hb2); (try clear hk); (try clear hi)) | ((with_reducible refine Ym (f := 69) rfl ?_); refine YL (some 50) rfl rfl Try.func69 Z2 rfl #[.string (a0.extract ((ji21) : Int).toNat (t324 : Int).toNat)] rfl Z21 ?_; (with_reducible refine (Yj.calls kj9 (a0.extract ((ji21) : Int).toNat (t324 : Int).toNat) t325 true _ A25.out).mono ?_); rintro e w29 ⟨v327, rfl, ho0, hb⟩; refine ⟨_, rfl, ?_⟩; have n0_ := Aside0.mk (Kd.R_elder' (Zr HO_7.out) (Kd.R_base ho0) hb); have n1_ := Aside0.mk (Kd.R_lower (Kd.R_new' ho0 (Kd.R_lt (Zr HO_7.out))) (YK Z6)); have n2_ := Aside0.mk (YN Z6 hb); clear HO_7; clear HB; have HO_7 := n0_; have HO328 := n1_; have HB := n2_; clear n0_ n1_ n2_; (try clear hb); (try clear hb2); (try clear hk); (try clear hi); (try clear ho0); obtain ⟨Ao31, co31, eo31⟩ := Kd.R_slice HO328.out; subst eo31) | ((with_reducible refine Xj (b := .append) (xs := #[.tmp 55, .tmp 56]) rfl ?_); at_builtin; refine Kd.R_append_rows (Kd.int .u8) (w0 := w) w.heap.size rfl (.tmp 55) (.tmp 56) 29 5 (.int .u8 0) 1 rfl Try.underlying29 VL rfl Z1 Z0 v322 y321 t325 _ _ _ (fun k_ => some k_ ≠ (.slice Ao31 t325.length co31 : Value).ownBlock) (fun _ => False) rfl rfl ?aO ?aR (fun _ _ h => h) (fun _ h => h.elim) ?aF ?aB ?aS ?aL ?_; (case aR => exact (by repeat (first | exact (Kd.R_reads' HO328.out).2.2 | (with_reducible refine Kd.C_alloc ?_ _) | (with_reducible refine Kd.C_drewN ?_ _) | (with_reducible refine Kd.C_drew ?_)))); (case aB => exact Z6); (case aF => exact (by exact (fun k_ hk => Kd.fresh' (Kd.R_lt (Zr HO328.out)) k_ hk))); (case aO => exact (by (with_reducible repeat (first | apply Kd.R_alloc | apply Kd.R_drewN | apply Kd.R_drew)); exact Kd.R_mono HO_7.out (fun _ hk => hk.2))); (case aS => exact (YK Z6)); (case aL => exact (Zo LMc27.out)); intro v330 w30 ho hb hg hat; rw [← Ny329.out] at ho; have n0_ := Aside0.mk (Kd.R_after (ok := (fun _ => True)) (Zr HO328.out) hg hat); have n1_ := Aside0.mk (hb); have n2_ := Aside0.mk (ho); clear HO328; clear HB; clear HO_7; have HO328 := n0_; have HB := n1_; have HO331 := n2_; clear n0_ n1_ n2_; clear ho hb hg hat))
                 go_roundg kj9
                 case measure => have := HK1.out; have := HJ9.out; omega
                 case rel => exact ⟨(wrap64 (t324 + 1)), (y329), Z4, H', ⟨(Zo (And.intro HK1.out HJ9.out))⟩, ⟨(by (with_reducible repeat (first | apply Kd.R_alloc | apply Kd.R_drewN | apply Kd.R_drew)); exact Kd.R_mono HO331.out (fun _ hk => trivial))⟩, ⟨Z6⟩⟩
                ·rw [if_neg c27] at H
                 exact absurd H Z3
               ·replace c26 := Bool.eq_false_iff.mpr c26
                subst c26
                rw [if_neg Z1] at H
                simp only [Option.some.injEq, Prod.mk.injEq] at H
                obtain ⟨rfl, rfl, rfl⟩ := H
                go_wp2_with (first | ((with_reducible refine Ym (f := 44) rfl ?_); refine YL (some 39) rfl rfl Try.func44 Z2 rfl #[.string a0, .int .i64 t320, .int .u8 41] rfl Zb ?_; (with_reducible refine (Yl.calls kj9 a0 t320 41 t324 _ A18.out).mono ?_); rintro e w32 ⟨rfl, hb⟩; refine ⟨_, rfl, ?_⟩; have n0_ := Aside0.mk (Kd.R_below (Zr HO_7.out) hb); have n1_ := Aside0.mk (YN Z6 hb); clear HO_7; clear HB; have HO_7 := n0_; have HB := n1_; clear n0_ n1_; (try clear hb); (try clear hb2); (try clear hk); (try clear hi)) | ((with_reducible refine Ym (f := 69) rfl ?_); refine YL (some 50) rfl rfl Try.func69 Z2 rfl #[.string (a0.extract ((ji21) : Int).toNat (t324 : Int).toNat)] rfl Z21 ?_; (with_reducible refine (Yj.calls kj9 (a0.extract ((ji21) : Int).toNat (t324 : Int).toNat) t325 false _ A25.out).mono ?_); rintro e w33 ⟨v327, rfl, ho0, hb⟩; refine ⟨_, rfl, ?_⟩; have n0_ := Aside0.mk (Kd.R_elder' (Zr HO_7.out) (Kd.R_base ho0) hb); have n1_ := Aside0.mk (Kd.R_lower (Kd.R_new' ho0 (Kd.R_lt (Zr HO_7.out))) (YK Z6)); have n2_ := Aside0.mk (YN Z6 hb); clear HO_7; clear HB; have HO_7 := n0_; have HO328 := n1_; have HB := n2_; clear n0_ n1_ n2_; (try clear hb); (try clear hb2); (try clear hk); (try clear hi); (try clear ho0)))
                go_ret3
                exact ⟨(by first | rfl | (simp [Xv, Xu] <;> rfl) | (simp only [← hji21]; first | rfl | (simp [Xv, Xu] <;> rfl)) | (simp [*, Xv, Xu] <;> rfl) | (simp [Xv, Xu] <;> omega) | (simp [*, Xv, Xu] <;> omega)), Z6⟩
              ·rw [if_neg c24] at H
               exact absurd H Z3
             ·rw [if_neg c23] at H
              exact absurd H Z3
            ·rw [if_neg c22] at H
             exact absurd H Z3
          ·replace c17 := Bool.eq_false_iff.mpr c17
           subst c17
           rw [if_neg Z1] at H
           have HC34 := Aside0.mk H
           clear H
           go_upto_region 15 with (fail)
           go_cut [71] (fun v71 wc => ∃ (kq : Nat) (x71_33 : Bool), v71 = .bool x71_33 ∧ Aside0 (Yb.j2 kq y321 t320 x71_33 = some (r1, r2, r3)) ∧ Aside0 (kq ≤ kj9) ∧ Aside0 (Kd.R (Kd.int .u8) 5 wc w.heap.size (fun _ => True) v322 y321) ∧ Aside0 (Below w.heap.size w wc))
           case first =>
            have H := HC34.out
            clear HC34
            by_cases c35 : (wrap64 (t320 + 1)) < (a0.size : Int)
            ·rw [if_pos c35] at H
             have c35b0 := decide_eq_true c35
             clear c35
             (first | rw [c35b0] | (simp only [YH, YJ]; rw [c35b0]) | skip)
             replace H := bE H; obtain ⟨t332, A36, H⟩ := H
             have H' := Aside0.mk H
             clear H
             go_wp2_with (first | (go_at_call 41; (with_reducible refine (Xb.calls a0 (wrap64 (t320 + 1)) t332 _ A36.out).mono ?_); rintro e w' ⟨rfl, ⟨nd, rfl⟩⟩))
             go_meet
             case rel => exact ⟨_, (!t332), Z4, H', ⟨(Zo (And.intro HK1.out HJ9.out))⟩, ⟨(Zr HO_7.out)⟩, ⟨Z6⟩⟩
            ·rw [if_neg c35] at H
             have c35b0 := decide_eq_false c35
             clear c35
             (first | rw [c35b0] | (simp only [YH, YJ]; rw [c35b0]) | skip)
             have H' := Aside0.mk H
             clear H
             go_wp2
             go_meet
             case rel => exact ⟨_, (false), Z4, H', ⟨(Zo (And.intro HK1.out HJ9.out))⟩, ⟨(Zr HO_7.out)⟩, ⟨Z6⟩⟩
           case rest =>
            clear HC34
            try clear c1
            try clear p1
            try clear q1
            try clear hx1
            try clear c2
            try clear p2
            try clear c3
            try clear c4
            try clear c4b0
            try clear c4b1
            try clear c6
            try clear c6b0
            try clear c6b1
            try clear p6
            try clear c7
            try clear c7b0
            try clear c7b1
            try clear c8
            try clear c8b0
            try clear c8b1
            try clear c9
            try clear c13
            try clear c13b0
            try clear c15
            try clear c15b0
            try clear p16
            try clear q16
            try clear hx16
            try clear c17
            try clear c19
            try clear c19b0
            try clear c19b1
            try clear c22
            try clear c22b0
            try clear c22b1
            try clear c23
            try clear c23b0
            try clear c23b1
            try clear c24
            try clear c24b0
            try clear c24b1
            try clear c26
            try clear c27
            try clear c35
            try clear c35b0
            try clear p1
            try clear p16
            try clear p2
            try clear p6
            try clear q1
            try clear q16
            obtain ⟨kq, x71_33, rfl, HA, HJ33, HO_7, HB⟩ := hcut
            cases kq with
            | zero => exact absurd HA.out (by simp [Yb.j2])
            | succ kj33 =>
             have H := HA.out
             clear HA
             simp only [Yb.j2] at H
             by_cases c37 : x71_33 = true
             ·subst c37
              rw [if_pos rfl] at H
              simp only [Option.some.injEq, Prod.mk.injEq] at H
              obtain ⟨rfl, rfl, rfl⟩ := H
              go_wp2
              go_ret3
              exact Z12
             ·replace c37 := Bool.eq_false_iff.mpr c37
              subst c37
              rw [if_neg Z1] at H
              by_cases c38 : (y321.length : Int) > 255
              ·rw [if_pos c38] at H
               have c38b0 := decide_eq_true c38
               have c38b1 : decide (255 < y321.length) = true := decide_eq_true Z0
               clear c38
               simp only [Option.some.injEq, Prod.mk.injEq] at H
               obtain ⟨rfl, rfl, rfl⟩ := H
               obtain ⟨Ao39, co39, eo39⟩ := Kd.R_slice HO_7.out
               subst eo39
               go_wp2
               go_ret3
               exact Z12
              ·rw [if_neg c38] at H
               have c38b0 := decide_eq_false c38
               have c38b1 : decide (255 < y321.length) = false := decide_eq_false Z0
               clear c38
               simp only [Option.some.injEq, Prod.mk.injEq] at H
               obtain ⟨rfl, rfl, rfl⟩ := H
               obtain ⟨Ao40, co40, eo40⟩ := Kd.R_slice HO_7.out
               subst eo40
               have hcv41 := JC (P := Try.prog) Try.underlying29 Try.underlying5 Try.underlying9 (Kd.own_of_R HO_7.out)
               go_wp2
               go_ret3
               exact Z12
       ·rw [if_neg c9] at H
        exact absurd H Z3
      ·rw [if_neg c8] at H
       exact absurd H Z3
     ·rw [if_neg c7] at H
      exact absurd H Z3
    ·rw [if_neg c6] at H
     exact absurd H Z3
end Go.Proofs.Ytehmhgpogpbjiaa.PFccTokens
