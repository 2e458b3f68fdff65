-- PRINTED BY print.sh 35421559b90ae4d0a3588c463048766b98c2df88dd9212a6774a882060cdf62d: not written by this session
import Derived.Test.YtdjpodpibkcnaaaPCellEuclidx0
import Derived.Test.YtdjpodpibkcnaaaPCellEuclidx1
namespace Go.Proofs.Ytdjpodpibkcnaaa.PCellEuclid
open Go.RowKit Go.Proofs.YtdjpodpibkcnaaaW.PrintWords Go.Proofs.YtdjpodpibkcnaaaW.PrintLast Go.Proofs.YtdjpodpibkcnaaaW.PrintMore
attribute [local go_sem] max2_int min2_int max_two min_two max_three min_three max_four min_four   -- for this text's walks alone
set_option linter.unusedVariables false
set_option linter.unusedSimpArgs false

/-! ### tinderlaw01_CellEuclid: function 5 -/
def tinderlaw01_CellEuclid.j0 : Nat → Int → Int → Int → Int → Int → Bool → Option (Bool)
  | 0, _, _, _, _, _, _ => none
  | k + 1, x0, x1, x5, x6, x7, x38 => if x38 = true then (if x7 = 0 then (if x5 = 2147483648 then (some (x6 == 0)) else (some false)) else (some false)) else ((cell_Signed.f x0).bind fun t123 => ((cell_Signed.f x1).bind fun t124 => ((cell_Signed.f x5).bind fun t125 => ((cell_Signed.f x6).bind fun t126 => (if x7 = 0 then (if (wrap64 ((wrap64 (t125 * t124)) + t126)) = t123 then (if t126 = 0 then (some (decide ((mx t126 (wrap64 (-t126))) < (mx t124 (wrap64 (-t124)))))) else (if ((decide (t126 < 0)) == (decide (t124 < 0))) = true then (some (decide ((mx t126 (wrap64 (-t126))) < (mx t124 (wrap64 (-t124)))))) else (some false))) else (some false)) else (some false))))))
def tinderlaw01_CellEuclid.f (k : Nat) (a0 : Int) (a1 : Int) : Option (Bool) := (tinderlaw01_alive.f k).bind fun t119 => (if t119 = true then ((cell_Divide.f k 42 a0 a1).bind fun bt120 => (if a1 = 0 then (if bt120.2.2 = 7 then (if bt120.1 = 0 then (some (bt120.2.1 == 0)) else (some false)) else (some false)) else (if a0 = 2147483648 then (tinderlaw01_CellEuclid.j0 k a0 a1 bt120.1 bt120.2.1 bt120.2.2 (a1 == 4294967295)) else (tinderlaw01_CellEuclid.j0 k a0 a1 bt120.1 bt120.2.1 bt120.2.2 false)))) else (some false))
theorem tinderlaw01_CellEuclid.mono_l : ∀ k, (∀ y0 y1 y2 y3 y4 y5, LeO (tinderlaw01_CellEuclid.j0 k y0 y1 y2 y3 y4 y5) (tinderlaw01_CellEuclid.j0 (k + 1) y0 y1 y2 y3 y4 y5))
  | 0 => fun _ _ _ _ _ _ r h => by simp [tinderlaw01_CellEuclid.j0] at h
  | k + 1 => by
    have ih0 := tinderlaw01_CellEuclid.mono_l k
    · intro y0 y1 y2 y3 y4 y5
      unfold tinderlaw01_CellEuclid.j0
      repeat' first
      | (with_reducible exact ih0 _ _ _ _ _ _)
      | (with_reducible exact cell_Divide.mono _ _ _ _)
      | (with_reducible exact tinderlaw01_alive.mono _)
      | (with_reducible exact LeO.refl _)
      | (with_reducible exact LeO.none _)
      | (with_reducible refine LeO.ite ?_ ?_)
      | (with_reducible refine LeO.bind ?_ (fun _ => ?_))
      | exact ih0 _ _ _ _ _ _
      | exact cell_Divide.mono _ _ _ _
      | exact tinderlaw01_alive.mono _
      | exact LeO.none _
      | refine LeO.ite ?_ ?_
      | refine LeO.bind ?_ (fun _ => ?_)
theorem tinderlaw01_CellEuclid.mono : ∀ a0 a1 k, LeO (tinderlaw01_CellEuclid.f k a0 a1) (tinderlaw01_CellEuclid.f (k + 1) a0 a1) := by
  intro a0 a1 k
  have ih0 := tinderlaw01_CellEuclid.mono_l k
  unfold tinderlaw01_CellEuclid.f
  repeat' first
      | (with_reducible exact ih0 _ _ _ _ _ _)
      | (with_reducible exact cell_Divide.mono _ _ _ _)
      | (with_reducible exact tinderlaw01_alive.mono _)
      | (with_reducible exact LeO.refl _)
      | (with_reducible exact LeO.none _)
      | (with_reducible refine LeO.ite ?_ ?_)
      | (with_reducible refine LeO.bind ?_ (fun _ => ?_))
      | exact ih0 _ _ _ _ _ _
      | exact cell_Divide.mono _ _ _ _
      | exact tinderlaw01_alive.mono _
      | exact LeO.none _
      | refine LeO.ite ?_ ?_
      | refine LeO.bind ?_ (fun _ => ?_)
set_option maxHeartbeats 8000000 in
set_option maxRecDepth 100000 in
theorem tinderlaw01_CellEuclid.calls (k : Nat) (a0 : Int) (a1 : Int) (r : Bool) (w : World) (h : tinderlaw01_CellEuclid.f k a0 a1 = some r) :
    Calls Try.prog 5 #[.int .u32 a0, .int .u32 a1] w fun e w' => e = .returned (.bool r) ∧ Below w.heap.size w w' := by
  have HB := Aside0.mk (Below.refl w.heap.size w)
  have H : ((tinderlaw01_alive.f k).bind fun t119 => (if t119 = true then ((cell_Divide.f k 42 a0 a1).bind fun bt120 => (if a1 = 0 then (if bt120.2.2 = 7 then (if bt120.1 = 0 then (some (bt120.2.1 == 0)) else (some false)) else (some false)) else (if a0 = 2147483648 then (tinderlaw01_CellEuclid.j0 k a0 a1 bt120.1 bt120.2.1 bt120.2.2 (a1 == 4294967295)) else (tinderlaw01_CellEuclid.j0 k a0 a1 bt120.1 bt120.2.1 bt120.2.2 false)))) else (some false))) = some r := h
  clear h
  replace H := Option.bind_eq_some_iff.mp H
  obtain ⟨t119, A30, H⟩ := H
  replace H : (if t119 = true then ((cell_Divide.f k 42 a0 a1).bind fun bt120 => (if a1 = 0 then (if bt120.2.2 = 7 then (if bt120.1 = 0 then (some (bt120.2.1 == 0)) else (some false)) else (some false)) else (if a0 = 2147483648 then (tinderlaw01_CellEuclid.j0 k a0 a1 bt120.1 bt120.2.1 bt120.2.2 (a1 == 4294967295)) else (tinderlaw01_CellEuclid.j0 k a0 a1 bt120.1 bt120.2.1 bt120.2.2 false)))) else (some false)) = some r := H
  have A3 := Aside0.mk A30
  clear A30
  by_cases c4 : t119 = true
  · subst c4
    have H1 : ((cell_Divide.f k 42 a0 a1).bind fun bt120 => (if a1 = 0 then (if bt120.2.2 = 7 then (if bt120.1 = 0 then (some (bt120.2.1 == 0)) else (some false)) else (some false)) else (if a0 = 2147483648 then (tinderlaw01_CellEuclid.j0 k a0 a1 bt120.1 bt120.2.1 bt120.2.2 (a1 == 4294967295)) else (tinderlaw01_CellEuclid.j0 k a0 a1 bt120.1 bt120.2.1 bt120.2.2 false)))) = some r := by rw [if_pos rfl] at H; exact H
    clear H
    have H := H1
    clear H1
    replace H := Option.bind_eq_some_iff.mp H
    obtain ⟨⟨t120, t121, t122⟩, A50, H⟩ := H
    replace H : (if a1 = 0 then (if t122 = 7 then (if t120 = 0 then (some (t121 == 0)) else (some false)) else (some false)) else (if a0 = 2147483648 then (tinderlaw01_CellEuclid.j0 k a0 a1 t120 t121 t122 (a1 == 4294967295)) else (tinderlaw01_CellEuclid.j0 k a0 a1 t120 t121 t122 false))) = some r := H
    have A5 := Aside0.mk A50
    clear A50
    by_cases c6 : a1 = 0
    · rw [if_pos c6] at H
      have c6b0 : (a1 == 0) = true := beq_iff_eq.mpr c6
      have c6b1 : (a1 != 0) = false := bne_eq_false_iff_eq.mpr c6
      clear c6
      by_cases c7 : t122 = 7
      · rw [if_pos c7] at H
        have c7b0 : (t122 == 7) = true := beq_iff_eq.mpr c7
        have c7b1 : (t122 != 7) = false := bne_eq_false_iff_eq.mpr c7
        clear c7
        by_cases c8 : t120 = 0
        · rw [if_pos c8] at H
          have c8b0 : (t120 == 0) = true := beq_iff_eq.mpr c8
          have c8b1 : (t120 != 0) = false := bne_eq_false_iff_eq.mpr c8
          clear c8
          obtain rfl := Option.some.inj H
          go_enter Try.func5, Try.ntmps5
          go_wp2_with (first | ((with_reducible refine gate_callee (f := 9) rfl ?_); refine goesL_ (some 12) rfl rfl Try.func9 (by kernel_rfl) rfl #[] rfl (by (try simp only [List.map_toArray, List.map_cons, List.map_nil]); first | done | rfl | (simp only [List.length_drop, List.length_take]; rfl)) ?_; (with_reducible refine (tinderlaw01_alive.calls k  true _ A3.out).mono ?_); rintro e w9 ⟨rfl, hb⟩; refine ⟨_, rfl, ?_⟩; have n0_ := Aside0.mk (below_step (by repeat (first | (with_reducible first | exact HB.out | apply below_alloc | apply pw_below_drewN | apply below_drew1) | exact HB.out)) hb); clear HB; have HB := n0_; clear n0_; (try clear hb); (try clear hb2); (try clear hk); (try clear hi)) | ((with_reducible refine gate_callee (f := 12) rfl ?_); refine goesL_ (some 17) rfl rfl Try.func12 (by kernel_rfl) rfl #[.int .i64 42, .int .u32 a0, .int .u32 a1] rfl (by (try simp only [List.map_toArray, List.map_cons, List.map_nil]); first | done | rfl | (simp only [List.length_drop, List.length_take]; rfl)) ?_; (with_reducible refine (cell_Divide.calls k 42 a0 a1 t120 t121 t122 _ A5.out).mono ?_); rintro e w' ⟨rfl, ⟨nd, rfl⟩⟩; refine ⟨_, rfl, ?_⟩))
          go_ret
          exact ⟨by first | rfl | (simp [errW_none, errW_some] <;> rfl) | (simp [*, errW_none, errW_some] <;> rfl), by repeat (first | (with_reducible first | exact HB.out | apply below_alloc | apply pw_below_drewN | apply below_drew1) | exact HB.out)⟩
        · rw [if_neg c8] at H
          have c8b0 : (t120 == 0) = false := beq_eq_false_iff_ne.mpr c8
          have c8b1 : (t120 != 0) = true := bne_iff_ne.mpr c8
          obtain rfl := Option.some.inj H
          go_enter Try.func5, Try.ntmps5
          go_wp2_with (first | ((with_reducible refine gate_callee (f := 9) rfl ?_); refine goesL_ (some 12) rfl rfl Try.func9 (by kernel_rfl) rfl #[] rfl (by (try simp only [List.map_toArray, List.map_cons, List.map_nil]); first | done | rfl | (simp only [List.length_drop, List.length_take]; rfl)) ?_; (with_reducible refine (tinderlaw01_alive.calls k  true _ A3.out).mono ?_); rintro e w10 ⟨rfl, hb⟩; refine ⟨_, rfl, ?_⟩; have n0_ := Aside0.mk (below_step (by repeat (first | (with_reducible first | exact HB.out | apply below_alloc | apply pw_below_drewN | apply below_drew1) | exact HB.out)) hb); clear HB; have HB := n0_; clear n0_; (try clear hb); (try clear hb2); (try clear hk); (try clear hi)) | ((with_reducible refine gate_callee (f := 12) rfl ?_); refine goesL_ (some 17) rfl rfl Try.func12 (by kernel_rfl) rfl #[.int .i64 42, .int .u32 a0, .int .u32 a1] rfl (by (try simp only [List.map_toArray, List.map_cons, List.map_nil]); first | done | rfl | (simp only [List.length_drop, List.length_take]; rfl)) ?_; (with_reducible refine (cell_Divide.calls k 42 a0 a1 t120 t121 t122 _ A5.out).mono ?_); rintro e w' ⟨rfl, ⟨nd, rfl⟩⟩; refine ⟨_, rfl, ?_⟩))
          go_ret
          exact ⟨by first | rfl | (simp [errW_none, errW_some] <;> rfl) | (simp [*, errW_none, errW_some] <;> rfl), by repeat (first | (with_reducible first | exact HB.out | apply below_alloc | apply pw_below_drewN | apply below_drew1) | exact HB.out)⟩
      · rw [if_neg c7] at H
        have c7b0 : (t122 == 7) = false := beq_eq_false_iff_ne.mpr c7
        have c7b1 : (t122 != 7) = true := bne_iff_ne.mpr c7
        obtain rfl := Option.some.inj H
        go_enter Try.func5, Try.ntmps5
        go_wp2_with (first | ((with_reducible refine gate_callee (f := 9) rfl ?_); refine goesL_ (some 12) rfl rfl Try.func9 (by kernel_rfl) rfl #[] rfl (by (try simp only [List.map_toArray, List.map_cons, List.map_nil]); first | done | rfl | (simp only [List.length_drop, List.length_take]; rfl)) ?_; (with_reducible refine (tinderlaw01_alive.calls k  true _ A3.out).mono ?_); rintro e w11 ⟨rfl, hb⟩; refine ⟨_, rfl, ?_⟩; have n0_ := Aside0.mk (below_step (by repeat (first | (with_reducible first | exact HB.out | apply below_alloc | apply pw_below_drewN | apply below_drew1) | exact HB.out)) hb); clear HB; have HB := n0_; clear n0_; (try clear hb); (try clear hb2); (try clear hk); (try clear hi)) | ((with_reducible refine gate_callee (f := 12) rfl ?_); refine goesL_ (some 17) rfl rfl Try.func12 (by kernel_rfl) rfl #[.int .i64 42, .int .u32 a0, .int .u32 a1] rfl (by (try simp only [List.map_toArray, List.map_cons, List.map_nil]); first | done | rfl | (simp only [List.length_drop, List.length_take]; rfl)) ?_; (with_reducible refine (cell_Divide.calls k 42 a0 a1 t120 t121 t122 _ A5.out).mono ?_); rintro e w' ⟨rfl, ⟨nd, rfl⟩⟩; refine ⟨_, rfl, ?_⟩))
        go_ret
        exact ⟨by first | rfl | (simp [errW_none, errW_some] <;> rfl) | (simp [*, errW_none, errW_some] <;> rfl), by repeat (first | (with_reducible first | exact HB.out | apply below_alloc | apply pw_below_drewN | apply below_drew1) | exact HB.out)⟩
    · rw [if_neg c6] at H
      have c6b0 : (a1 == 0) = false := beq_eq_false_iff_ne.mpr c6
      have c6b1 : (a1 != 0) = true := bne_iff_ne.mpr c6
      have HC12 := Aside0.mk H
      clear H
      go_enter Try.func5, Try.ntmps5
      go_upto_region 6 with (first | ((with_reducible refine gate_callee (f := 9) rfl ?_); refine goesL_ (some 12) rfl rfl Try.func9 (by kernel_rfl) rfl #[] rfl (by (try simp only [List.map_toArray, List.map_cons, List.map_nil]); first | done | rfl | (simp only [List.length_drop, List.length_take]; rfl)) ?_; (with_reducible refine (tinderlaw01_alive.calls k  true _ A3.out).mono ?_); rintro e w13 ⟨rfl, hb⟩; refine ⟨_, rfl, ?_⟩; have n0_ := Aside0.mk (below_step (by repeat (first | (with_reducible first | exact HB.out | apply below_alloc | apply pw_below_drewN | apply below_drew1) | exact HB.out)) hb); clear HB; have HB := n0_; clear n0_; (try clear hb); (try clear hb2); (try clear hk); (try clear hi)) | ((with_reducible refine gate_callee (f := 12) rfl ?_); refine goesL_ (some 17) rfl rfl Try.func12 (by kernel_rfl) rfl #[.int .i64 42, .int .u32 a0, .int .u32 a1] rfl (by (try simp only [List.map_toArray, List.map_cons, List.map_nil]); first | done | rfl | (simp only [List.length_drop, List.length_take]; rfl)) ?_; (with_reducible refine (cell_Divide.calls k 42 a0 a1 t120 t121 t122 _ A5.out).mono ?_); rintro e w' ⟨rfl, ⟨nd, rfl⟩⟩; refine ⟨_, rfl, ?_⟩))
      (try simp only [Act.put, List.setIfInBounds_toArray, List.set_cons_zero, List.set_cons_succ])
      go_cut [38] (fun v38 wc => ∃ (kq : Nat) (x38_11 : Bool), v38 = .bool x38_11 ∧ Aside0 (tinderlaw01_CellEuclid.j0 kq a0 a1 t120 t121 t122 x38_11 = some r) ∧ Aside0 (kq ≤ k) ∧ Aside0 (Below w.heap.size w wc))
      case first =>
        have H := HC12.out
        clear HC12
        by_cases c14 : a0 = 2147483648
        · rw [if_pos c14] at H
          have c14b0 : (a0 == 2147483648) = true := beq_iff_eq.mpr c14
          have c14b1 : (a0 != 2147483648) = false := bne_eq_false_iff_eq.mpr c14
          clear c14
          (first | rw [c14b0] | (simp only [i64_w, i32_w]; rw [c14b0]) | skip)
          have H' := Aside0.mk H
          clear H
          go_wp2
          go_meet
          case rel => exact ⟨_, ((a1 == 4294967295)), (by first | rfl | (simp; done) | (simp [*]; done)), H', ⟨by first | omega | exact Nat.le_refl _⟩, ⟨by repeat (first | (with_reducible first | exact HB.out | apply below_alloc | apply pw_below_drewN | apply below_drew1) | exact HB.out)⟩⟩
        · rw [if_neg c14] at H
          have c14b0 : (a0 == 2147483648) = false := beq_eq_false_iff_ne.mpr c14
          have c14b1 : (a0 != 2147483648) = true := bne_iff_ne.mpr c14
          (first | rw [c14b0] | (simp only [i64_w, i32_w]; rw [c14b0]) | skip)
          have H' := Aside0.mk H
          clear H
          go_wp2
          go_meet
          case rel => exact ⟨_, (false), (by first | rfl | (simp; done) | (simp [*]; done)), H', ⟨by first | omega | exact Nat.le_refl _⟩, ⟨by repeat (first | (with_reducible first | exact HB.out | apply below_alloc | apply pw_below_drewN | apply below_drew1) | exact HB.out)⟩⟩
      case rest =>
        clear HC12
        try clear c1
        try clear p2
        try clear c4
        try clear c5
        try clear c6
        try clear c6b0
        try clear c6b1
        try clear c7
        try clear c7b0
        try clear c7b1
        try clear c8
        try clear c8b0
        try clear c8b1
        try clear c9
        try clear c12
        try clear c14
        try clear c14b0
        try clear c14b1
        obtain ⟨kq, x38_11, rfl, HA, HJ11, HB⟩ := hcut
        cases kq with
        | zero => exact absurd HA.out (by simp [tinderlaw01_CellEuclid.j0])
        | succ kj11 =>
          have H := HA.out
          clear HA
          simp only [tinderlaw01_CellEuclid.j0] at H
          by_cases c15 : x38_11 = true
          · subst c15
            have H1 : (if t122 = 0 then (if t120 = 2147483648 then (some (t121 == 0)) else (some false)) else (some false)) = some r := by rw [if_pos rfl] at H; exact H
            clear H
            have H := H1
            clear H1
            by_cases c16 : t122 = 0
            · rw [if_pos c16] at H
              have c16b0 : (t122 == 0) = true := beq_iff_eq.mpr c16
              have c16b1 : (t122 != 0) = false := bne_eq_false_iff_eq.mpr c16
              clear c16
              by_cases c17 : t120 = 2147483648
              · rw [if_pos c17] at H
                have c17b0 : (t120 == 2147483648) = true := beq_iff_eq.mpr c17
                have c17b1 : (t120 != 2147483648) = false := bne_eq_false_iff_eq.mpr c17
                clear c17
                obtain rfl := Option.some.inj H
                go_wp2
                go_ret
                exact ⟨by first | rfl | (simp [errW_none, errW_some] <;> rfl) | (simp [*, errW_none, errW_some] <;> rfl), by repeat (first | (with_reducible first | exact HB.out | apply below_alloc | apply pw_below_drewN | apply below_drew1) | exact HB.out)⟩
              · rw [if_neg c17] at H
                have c17b0 : (t120 == 2147483648) = false := beq_eq_false_iff_ne.mpr c17
                have c17b1 : (t120 != 2147483648) = true := bne_iff_ne.mpr c17
                obtain rfl := Option.some.inj H
                go_wp2
                go_ret
                exact ⟨by first | rfl | (simp [errW_none, errW_some] <;> rfl) | (simp [*, errW_none, errW_some] <;> rfl), by repeat (first | (with_reducible first | exact HB.out | apply below_alloc | apply pw_below_drewN | apply below_drew1) | exact HB.out)⟩
            · rw [if_neg c16] at H
              have c16b0 : (t122 == 0) = false := beq_eq_false_iff_ne.mpr c16
              have c16b1 : (t122 != 0) = true := bne_iff_ne.mpr c16
              obtain rfl := Option.some.inj H
              go_wp2
              go_ret
              exact ⟨by first | rfl | (simp [errW_none, errW_some] <;> rfl) | (simp [*, errW_none, errW_some] <;> rfl), by repeat (first | (with_reducible first | exact HB.out | apply below_alloc | apply pw_below_drewN | apply below_drew1) | exact HB.out)⟩
          · replace c15 := Bool.eq_false_iff.mpr c15
            subst c15
            have H1 : ((cell_Signed.f a0).bind fun t123 => ((cell_Signed.f a1).bind fun t124 => ((cell_Signed.f t120).bind fun t125 => ((cell_Signed.f t121).bind fun t126 => (if t122 = 0 then (if (wrap64 ((wrap64 (t125 * t124)) + t126)) = t123 then (if t126 = 0 then (some (decide ((mx t126 (wrap64 (-t126))) < (mx t124 (wrap64 (-t124)))))) else (if ((decide (t126 < 0)) == (decide (t124 < 0))) = true then (some (decide ((mx t126 (wrap64 (-t126))) < (mx t124 (wrap64 (-t124)))))) else (some false))) else (some false)) else (some false)))))) = some r := by rw [if_neg (show ¬ (false = true) by decide)] at H; exact H
            clear H
            have H := H1
            clear H1
            replace H := Option.bind_eq_some_iff.mp H
            obtain ⟨t123, A180, H⟩ := H
            replace H : ((cell_Signed.f a1).bind fun t124 => ((cell_Signed.f t120).bind fun t125 => ((cell_Signed.f t121).bind fun t126 => (if t122 = 0 then (if (wrap64 ((wrap64 (t125 * t124)) + t126)) = t123 then (if t126 = 0 then (some (decide ((mx t126 (wrap64 (-t126))) < (mx t124 (wrap64 (-t124)))))) else (if ((decide (t126 < 0)) == (decide (t124 < 0))) = true then (some (decide ((mx t126 (wrap64 (-t126))) < (mx t124 (wrap64 (-t124)))))) else (some false))) else (some false)) else (some false))))) = some r := H
            have A18 := Aside0.mk A180
            clear A180
            replace H := Option.bind_eq_some_iff.mp H
            obtain ⟨t124, A190, H⟩ := H
            replace H : ((cell_Signed.f t120).bind fun t125 => ((cell_Signed.f t121).bind fun t126 => (if t122 = 0 then (if (wrap64 ((wrap64 (t125 * t124)) + t126)) = t123 then (if t126 = 0 then (some (decide ((mx t126 (wrap64 (-t126))) < (mx t124 (wrap64 (-t124)))))) else (if ((decide (t126 < 0)) == (decide (t124 < 0))) = true then (some (decide ((mx t126 (wrap64 (-t126))) < (mx t124 (wrap64 (-t124)))))) else (some false))) else (some false)) else (some false)))) = some r := H
            have A19 := Aside0.mk A190
            clear A190
            replace H := Option.bind_eq_some_iff.mp H
            obtain ⟨t125, A200, H⟩ := H
            replace H : ((cell_Signed.f t121).bind fun t126 => (if t122 = 0 then (if (wrap64 ((wrap64 (t125 * t124)) + t126)) = t123 then (if t126 = 0 then (some (decide ((mx t126 (wrap64 (-t126))) < (mx t124 (wrap64 (-t124)))))) else (if ((decide (t126 < 0)) == (decide (t124 < 0))) = true then (some (decide ((mx t126 (wrap64 (-t126))) < (mx t124 (wrap64 (-t124)))))) else (some false))) else (some false)) else (some false))) = some r := H
            have A20 := Aside0.mk A200
            clear A200
            replace H := Option.bind_eq_some_iff.mp H
            obtain ⟨t126, A210, H⟩ := H
            replace H : (if t122 = 0 then (if (wrap64 ((wrap64 (t125 * t124)) + t126)) = t123 then (if t126 = 0 then (some (decide ((mx t126 (wrap64 (-t126))) < (mx t124 (wrap64 (-t124)))))) else (if ((decide (t126 < 0)) == (decide (t124 < 0))) = true then (some (decide ((mx t126 (wrap64 (-t126))) < (mx t124 (wrap64 (-t124)))))) else (some false))) else (some false)) else (some false)) = some r := H
            have A21 := Aside0.mk A210
            clear A210
            by_cases c22 : t122 = 0
            · rw [if_pos c22] at H
              have c22b0 : (t122 == 0) = true := beq_iff_eq.mpr c22
              have c22b1 : (t122 != 0) = false := bne_eq_false_iff_eq.mpr c22
              clear c22
              by_cases c23 : (wrap64 ((wrap64 (t125 * t124)) + t126)) = t123
              · rw [if_pos c23] at H
                have c23b0 : ((wrap64 ((wrap64 (t125 * t124)) + t126)) == t123) = true := beq_iff_eq.mpr c23
                have c23b1 : ((wrap64 ((wrap64 (t125 * t124)) + t126)) != t123) = false := bne_eq_false_iff_eq.mpr c23
                clear c23
                by_cases c24 : t126 = 0
                · rw [if_pos c24] at H
                  have c24b0 : (t126 == 0) = true := beq_iff_eq.mpr c24
                  have c24b1 : (t126 != 0) = false := bne_eq_false_iff_eq.mpr c24
                  clear c24
                  obtain ⟨ji25, hji25⟩ : ∃ j_ : Int, (mx t126 (wrap64 (-t126))) = j_ := ⟨_, rfl⟩
                  replace H : (some (decide ((ji25) < (mx t124 (wrap64 (-t124)))))) = some r := by first | (rw [hji25] at H; exact H) | (simp only [hji25] at H ⊢; exact H)
                  (try rw [hji25] at A18)
                  (try rw [hji25] at A19)
                  (try rw [hji25] at A20)
                  (try rw [hji25] at A21)
                  have hji25_ : (if t126 < (wrap64 (-t126)) then (wrap64 (-t126)) else t126) = ji25 := hji25
                  obtain ⟨ji26, hji26⟩ : ∃ j_ : Int, (mx t124 (wrap64 (-t124))) = j_ := ⟨_, rfl⟩
                  replace H : (some (decide ((ji25) < (ji26)))) = some r := by first | (rw [hji26] at H; exact H) | (simp only [hji26] at H ⊢; exact H)
                  (try rw [hji26] at A18)
                  (try rw [hji26] at A19)
                  (try rw [hji26] at A20)
                  (try rw [hji26] at A21)
                  have hji26_ : (if t124 < (wrap64 (-t124)) then (wrap64 (-t124)) else t124) = ji26 := hji26
                  obtain rfl := Option.some.inj H
                  go_wp2_with (first | ((with_reducible refine gate_callee (f := 14) rfl ?_); refine goesL_ (some 50) rfl rfl Try.func14 (by kernel_rfl) rfl #[.int .u32 a0] rfl (by (try simp only [List.map_toArray, List.map_cons, List.map_nil]); first | done | rfl | (simp only [List.length_drop, List.length_take]; rfl)) ?_; (with_reducible refine (cell_Signed.calls a0 t123 _ A18.out).mono ?_); rintro e w' ⟨rfl, ⟨nd, rfl⟩⟩; refine ⟨_, rfl, ?_⟩) | ((with_reducible refine gate_callee (f := 14) rfl ?_); refine goesL_ (some 52) rfl rfl Try.func14 (by kernel_rfl) rfl #[.int .u32 a1] rfl (by (try simp only [List.map_toArray, List.map_cons, List.map_nil]); first | done | rfl | (simp only [List.length_drop, List.length_take]; rfl)) ?_; (with_reducible refine (cell_Signed.calls a1 t124 _ A19.out).mono ?_); rintro e w' ⟨rfl, ⟨nd, rfl⟩⟩; refine ⟨_, rfl, ?_⟩) | ((with_reducible refine gate_callee (f := 14) rfl ?_); refine goesL_ (some 54) rfl rfl Try.func14 (by kernel_rfl) rfl #[.int .u32 t120] rfl (by (try simp only [List.map_toArray, List.map_cons, List.map_nil]); first | done | rfl | (simp only [List.length_drop, List.length_take]; rfl)) ?_; (with_reducible refine (cell_Signed.calls t120 t125 _ A20.out).mono ?_); rintro e w' ⟨rfl, ⟨nd, rfl⟩⟩; refine ⟨_, rfl, ?_⟩) | ((with_reducible refine gate_callee (f := 14) rfl ?_); refine goesL_ (some 56) rfl rfl Try.func14 (by kernel_rfl) rfl #[.int .u32 t121] rfl (by (try simp only [List.map_toArray, List.map_cons, List.map_nil]); first | done | rfl | (simp only [List.length_drop, List.length_take]; rfl)) ?_; (with_reducible refine (cell_Signed.calls t121 t126 _ A21.out).mono ?_); rintro e w' ⟨rfl, ⟨nd, rfl⟩⟩; refine ⟨_, rfl, ?_⟩))
                  go_ret
                  exact ⟨by first | rfl | (simp [errW_none, errW_some] <;> rfl) | (simp only [← hji25, ← hji26]; first | rfl | (simp [errW_none, errW_some] <;> rfl)) | (simp [*, errW_none, errW_some] <;> rfl), by repeat (first | (with_reducible first | exact HB.out | apply below_alloc | apply pw_below_drewN | apply below_drew1) | exact HB.out)⟩
                · rw [if_neg c24] at H
                  have c24b0 : (t126 == 0) = false := beq_eq_false_iff_ne.mpr c24
                  have c24b1 : (t126 != 0) = true := bne_iff_ne.mpr c24
                  by_cases c27 : ((decide (t126 < 0)) == (decide (t124 < 0))) = true
                  · rw [if_pos c27] at H
                    have c27b0 : ((decide (t126 < 0)) == (decide (t124 < 0))) = true := c27
                    (try (have c27b1 : decide ((decide (t126 < 0)) = (decide (t124 < 0))) = true := by simpa using c27))
                    (try (have c27b2 : ((decide (t126 < 0)) == (decide (t124 < 0))) = true := by simpa using c27))
                    clear c27
                    obtain ⟨ji28, hji28⟩ : ∃ j_ : Int, (mx t126 (wrap64 (-t126))) = j_ := ⟨_, rfl⟩
                    replace H : (some (decide ((ji28) < (mx t124 (wrap64 (-t124)))))) = some r := by first | (rw [hji28] at H; exact H) | (simp only [hji28] at H ⊢; exact H)
                    (try rw [hji28] at A18)
                    (try rw [hji28] at A19)
                    (try rw [hji28] at A20)
                    (try rw [hji28] at A21)
                    have hji28_ : (if t126 < (wrap64 (-t126)) then (wrap64 (-t126)) else t126) = ji28 := hji28
                    obtain ⟨ji29, hji29⟩ : ∃ j_ : Int, (mx t124 (wrap64 (-t124))) = j_ := ⟨_, rfl⟩
                    replace H : (some (decide ((ji28) < (ji29)))) = some r := by first | (rw [hji29] at H; exact H) | (simp only [hji29] at H ⊢; exact H)
                    (try rw [hji29] at A18)
                    (try rw [hji29] at A19)
                    (try rw [hji29] at A20)
                    (try rw [hji29] at A21)
                    have hji29_ : (if t124 < (wrap64 (-t124)) then (wrap64 (-t124)) else t124) = ji29 := hji29
                    obtain rfl := Option.some.inj H
                    go_wp2_with (first | ((with_reducible refine gate_callee (f := 14) rfl ?_); refine goesL_ (some 50) rfl rfl Try.func14 (by kernel_rfl) rfl #[.int .u32 a0] rfl (by (try simp only [List.map_toArray, List.map_cons, List.map_nil]); first | done | rfl | (simp only [List.length_drop, List.length_take]; rfl)) ?_; (with_reducible refine (cell_Signed.calls a0 t123 _ A18.out).mono ?_); rintro e w' ⟨rfl, ⟨nd, rfl⟩⟩; refine ⟨_, rfl, ?_⟩) | ((with_reducible refine gate_callee (f := 14) rfl ?_); refine goesL_ (some 52) rfl rfl Try.func14 (by kernel_rfl) rfl #[.int .u32 a1] rfl (by (try simp only [List.map_toArray, List.map_cons, List.map_nil]); first | done | rfl | (simp only [List.length_drop, List.length_take]; rfl)) ?_; (with_reducible refine (cell_Signed.calls a1 t124 _ A19.out).mono ?_); rintro e w' ⟨rfl, ⟨nd, rfl⟩⟩; refine ⟨_, rfl, ?_⟩) | ((with_reducible refine gate_callee (f := 14) rfl ?_); refine goesL_ (some 54) rfl rfl Try.func14 (by kernel_rfl) rfl #[.int .u32 t120] rfl (by (try simp only [List.map_toArray, List.map_cons, List.map_nil]); first | done | rfl | (simp only [List.length_drop, List.length_take]; rfl)) ?_; (with_reducible refine (cell_Signed.calls t120 t125 _ A20.out).mono ?_); rintro e w' ⟨rfl, ⟨nd, rfl⟩⟩; refine ⟨_, rfl, ?_⟩) | ((with_reducible refine gate_callee (f := 14) rfl ?_); refine goesL_ (some 56) rfl rfl Try.func14 (by kernel_rfl) rfl #[.int .u32 t121] rfl (by (try simp only [List.map_toArray, List.map_cons, List.map_nil]); first | done | rfl | (simp only [List.length_drop, List.length_take]; rfl)) ?_; (with_reducible refine (cell_Signed.calls t121 t126 _ A21.out).mono ?_); rintro e w' ⟨rfl, ⟨nd, rfl⟩⟩; refine ⟨_, rfl, ?_⟩))
                    go_ret
                    exact ⟨by first | rfl | (simp [errW_none, errW_some] <;> rfl) | (simp only [← hji28, ← hji29]; first | rfl | (simp [errW_none, errW_some] <;> rfl)) | (simp [*, errW_none, errW_some] <;> rfl), by repeat (first | (with_reducible first | exact HB.out | apply below_alloc | apply pw_below_drewN | apply below_drew1) | exact HB.out)⟩
                  · rw [if_neg c27] at H
                    have c27b0 : ((decide (t126 < 0)) == (decide (t124 < 0))) = false := by simpa using c27
                    (try (have c27b1 : decide ((decide (t126 < 0)) = (decide (t124 < 0))) = false := by simpa using c27))
                    (try (have c27b2 : ((decide (t126 < 0)) == (decide (t124 < 0))) = false := by simpa using c27))
                    (try (have c27b3 : ¬ ((decide (t126 < 0)) = (decide (t124 < 0))) := by simpa using c27))
                    clear c27
                    obtain rfl := Option.some.inj H
                    go_wp2_with (first | ((with_reducible refine gate_callee (f := 14) rfl ?_); refine goesL_ (some 50) rfl rfl Try.func14 (by kernel_rfl) rfl #[.int .u32 a0] rfl (by (try simp only [List.map_toArray, List.map_cons, List.map_nil]); first | done | rfl | (simp only [List.length_drop, List.length_take]; rfl)) ?_; (with_reducible refine (cell_Signed.calls a0 t123 _ A18.out).mono ?_); rintro e w' ⟨rfl, ⟨nd, rfl⟩⟩; refine ⟨_, rfl, ?_⟩) | ((with_reducible refine gate_callee (f := 14) rfl ?_); refine goesL_ (some 52) rfl rfl Try.func14 (by kernel_rfl) rfl #[.int .u32 a1] rfl (by (try simp only [List.map_toArray, List.map_cons, List.map_nil]); first | done | rfl | (simp only [List.length_drop, List.length_take]; rfl)) ?_; (with_reducible refine (cell_Signed.calls a1 t124 _ A19.out).mono ?_); rintro e w' ⟨rfl, ⟨nd, rfl⟩⟩; refine ⟨_, rfl, ?_⟩) | ((with_reducible refine gate_callee (f := 14) rfl ?_); refine goesL_ (some 54) rfl rfl Try.func14 (by kernel_rfl) rfl #[.int .u32 t120] rfl (by (try simp only [List.map_toArray, List.map_cons, List.map_nil]); first | done | rfl | (simp only [List.length_drop, List.length_take]; rfl)) ?_; (with_reducible refine (cell_Signed.calls t120 t125 _ A20.out).mono ?_); rintro e w' ⟨rfl, ⟨nd, rfl⟩⟩; refine ⟨_, rfl, ?_⟩) | ((with_reducible refine gate_callee (f := 14) rfl ?_); refine goesL_ (some 56) rfl rfl Try.func14 (by kernel_rfl) rfl #[.int .u32 t121] rfl (by (try simp only [List.map_toArray, List.map_cons, List.map_nil]); first | done | rfl | (simp only [List.length_drop, List.length_take]; rfl)) ?_; (with_reducible refine (cell_Signed.calls t121 t126 _ A21.out).mono ?_); rintro e w' ⟨rfl, ⟨nd, rfl⟩⟩; refine ⟨_, rfl, ?_⟩))
                    go_ret
                    exact ⟨by first | rfl | (simp [errW_none, errW_some] <;> rfl) | (simp [*, errW_none, errW_some] <;> rfl), by repeat (first | (with_reducible first | exact HB.out | apply below_alloc | apply pw_below_drewN | apply below_drew1) | exact HB.out)⟩
              · rw [if_neg c23] at H
                have c23b0 : ((wrap64 ((wrap64 (t125 * t124)) + t126)) == t123) = false := beq_eq_false_iff_ne.mpr c23
                have c23b1 : ((wrap64 ((wrap64 (t125 * t124)) + t126)) != t123) = true := bne_iff_ne.mpr c23
                obtain rfl := Option.some.inj H
                go_wp2_with (first | ((with_reducible refine gate_callee (f := 14) rfl ?_); refine goesL_ (some 50) rfl rfl Try.func14 (by kernel_rfl) rfl #[.int .u32 a0] rfl (by (try simp only [List.map_toArray, List.map_cons, List.map_nil]); first | done | rfl | (simp only [List.length_drop, List.length_take]; rfl)) ?_; (with_reducible refine (cell_Signed.calls a0 t123 _ A18.out).mono ?_); rintro e w' ⟨rfl, ⟨nd, rfl⟩⟩; refine ⟨_, rfl, ?_⟩) | ((with_reducible refine gate_callee (f := 14) rfl ?_); refine goesL_ (some 52) rfl rfl Try.func14 (by kernel_rfl) rfl #[.int .u32 a1] rfl (by (try simp only [List.map_toArray, List.map_cons, List.map_nil]); first | done | rfl | (simp only [List.length_drop, List.length_take]; rfl)) ?_; (with_reducible refine (cell_Signed.calls a1 t124 _ A19.out).mono ?_); rintro e w' ⟨rfl, ⟨nd, rfl⟩⟩; refine ⟨_, rfl, ?_⟩) | ((with_reducible refine gate_callee (f := 14) rfl ?_); refine goesL_ (some 54) rfl rfl Try.func14 (by kernel_rfl) rfl #[.int .u32 t120] rfl (by (try simp only [List.map_toArray, List.map_cons, List.map_nil]); first | done | rfl | (simp only [List.length_drop, List.length_take]; rfl)) ?_; (with_reducible refine (cell_Signed.calls t120 t125 _ A20.out).mono ?_); rintro e w' ⟨rfl, ⟨nd, rfl⟩⟩; refine ⟨_, rfl, ?_⟩) | ((with_reducible refine gate_callee (f := 14) rfl ?_); refine goesL_ (some 56) rfl rfl Try.func14 (by kernel_rfl) rfl #[.int .u32 t121] rfl (by (try simp only [List.map_toArray, List.map_cons, List.map_nil]); first | done | rfl | (simp only [List.length_drop, List.length_take]; rfl)) ?_; (with_reducible refine (cell_Signed.calls t121 t126 _ A21.out).mono ?_); rintro e w' ⟨rfl, ⟨nd, rfl⟩⟩; refine ⟨_, rfl, ?_⟩))
                go_ret
                exact ⟨by first | rfl | (simp [errW_none, errW_some] <;> rfl) | (simp [*, errW_none, errW_some] <;> rfl), by repeat (first | (with_reducible first | exact HB.out | apply below_alloc | apply pw_below_drewN | apply below_drew1) | exact HB.out)⟩
            · rw [if_neg c22] at H
              have c22b0 : (t122 == 0) = false := beq_eq_false_iff_ne.mpr c22
              have c22b1 : (t122 != 0) = true := bne_iff_ne.mpr c22
              obtain rfl := Option.some.inj H
              go_wp2_with (first | ((with_reducible refine gate_callee (f := 14) rfl ?_); refine goesL_ (some 50) rfl rfl Try.func14 (by kernel_rfl) rfl #[.int .u32 a0] rfl (by (try simp only [List.map_toArray, List.map_cons, List.map_nil]); first | done | rfl | (simp only [List.length_drop, List.length_take]; rfl)) ?_; (with_reducible refine (cell_Signed.calls a0 t123 _ A18.out).mono ?_); rintro e w' ⟨rfl, ⟨nd, rfl⟩⟩; refine ⟨_, rfl, ?_⟩) | ((with_reducible refine gate_callee (f := 14) rfl ?_); refine goesL_ (some 52) rfl rfl Try.func14 (by kernel_rfl) rfl #[.int .u32 a1] rfl (by (try simp only [List.map_toArray, List.map_cons, List.map_nil]); first | done | rfl | (simp only [List.length_drop, List.length_take]; rfl)) ?_; (with_reducible refine (cell_Signed.calls a1 t124 _ A19.out).mono ?_); rintro e w' ⟨rfl, ⟨nd, rfl⟩⟩; refine ⟨_, rfl, ?_⟩) | ((with_reducible refine gate_callee (f := 14) rfl ?_); refine goesL_ (some 54) rfl rfl Try.func14 (by kernel_rfl) rfl #[.int .u32 t120] rfl (by (try simp only [List.map_toArray, List.map_cons, List.map_nil]); first | done | rfl | (simp only [List.length_drop, List.length_take]; rfl)) ?_; (with_reducible refine (cell_Signed.calls t120 t125 _ A20.out).mono ?_); rintro e w' ⟨rfl, ⟨nd, rfl⟩⟩; refine ⟨_, rfl, ?_⟩) | ((with_reducible refine gate_callee (f := 14) rfl ?_); refine goesL_ (some 56) rfl rfl Try.func14 (by kernel_rfl) rfl #[.int .u32 t121] rfl (by (try simp only [List.map_toArray, List.map_cons, List.map_nil]); first | done | rfl | (simp only [List.length_drop, List.length_take]; rfl)) ?_; (with_reducible refine (cell_Signed.calls t121 t126 _ A21.out).mono ?_); rintro e w' ⟨rfl, ⟨nd, rfl⟩⟩; refine ⟨_, rfl, ?_⟩))
              go_ret
              exact ⟨by first | rfl | (simp [errW_none, errW_some] <;> rfl) | (simp [*, errW_none, errW_some] <;> rfl), by repeat (first | (with_reducible first | exact HB.out | apply below_alloc | apply pw_below_drewN | apply below_drew1) | exact HB.out)⟩
  · replace c4 := Bool.eq_false_iff.mpr c4
    subst c4
    have H1 : (some false) = some r := by rw [if_neg (show ¬ (false = true) by decide)] at H; exact H
    clear H
    have H := H1
    clear H1
    obtain rfl := Option.some.inj H
    go_enter Try.func5, Try.ntmps5
    go_wp2_with (first | ((with_reducible refine gate_callee (f := 9) rfl ?_); refine goesL_ (some 12) rfl rfl Try.func9 (by kernel_rfl) rfl #[] rfl (by (try simp only [List.map_toArray, List.map_cons, List.map_nil]); first | done | rfl | (simp only [List.length_drop, List.length_take]; rfl)) ?_; (with_reducible refine (tinderlaw01_alive.calls k  false _ A3.out).mono ?_); rintro e w30 ⟨rfl, hb⟩; refine ⟨_, rfl, ?_⟩; have n0_ := Aside0.mk (below_step (by repeat (first | (with_reducible first | exact HB.out | apply below_alloc | apply pw_below_drewN | apply below_drew1) | exact HB.out)) hb); clear HB; have HB := n0_; clear n0_; (try clear hb); (try clear hb2); (try clear hk); (try clear hi)))
    go_ret
    exact ⟨by first | rfl | (simp [errW_none, errW_some] <;> rfl) | (simp [*, errW_none, errW_some] <;> rfl), by repeat (first | (with_reducible first | exact HB.out | apply below_alloc | apply pw_below_drewN | apply below_drew1) | exact HB.out)⟩

/-- THE ONE PURE STATEMENT of tinderlaw01_CellEuclid: yours. -/
def tinderlaw01_CellEuclid.Pure : Prop := ∀ (a0 : Int) (a1 : Int), (Lit.int .u32 a0).wf = true → (Lit.int .u32 a1).wf = true → ∃ k, tinderlaw01_CellEuclid.f k a0 a1 = some true
theorem tinderlaw01_CellEuclid.walk (P : tinderlaw01_CellEuclid.Pure) (a0 : Int) (a1 : Int) (w : World) (w0 : (Lit.int .u32 a0).wf = true) (w1 : (Lit.int .u32 a1).wf = true) :
    Calls Try.prog 5 #[.int .u32 a0, .int .u32 a1] w fun e w' => e = .returned (.bool true) ∧ Below w.heap.size w w' := by
  obtain ⟨k, h⟩ := P a0 a1 w0 w1
  refine (tinderlaw01_CellEuclid.calls k a0 a1 true w h).mono ?_
  rintro e w' ⟨rfl, hd⟩
  exact ⟨rfl, hd⟩

end Go.Proofs.Ytdjpodpibkcnaaa.PCellEuclid
