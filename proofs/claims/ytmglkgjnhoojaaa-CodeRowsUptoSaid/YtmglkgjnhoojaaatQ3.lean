/- Types of this layer, and small functions of the reference and of the library: the machine's side (after the kit's print). -/
import Derived.Test.YtmglkgjnhoojaaatQ0
namespace Go.Proofs.Ytmglkgjnhoojaaa.PCodeRows
open Go.RowKit Go.Proofs.YtmglkgjnhoojaaaW.PrintWords Go.Proofs.YtmglkgjnhoojaaaW.PrintLast Go.Proofs.YtmglkgjnhoojaaaW.PrintMore
attribute [local go_sem] max2_int min2_int max_two min_two max_three min_three max_four min_four   -- for this text's walks alone
set_option linter.unusedVariables false
set_option linter.unusedSimpArgs false

/-! ### tinderref10_lacks: function 26 -/
mutual
def tinderref10_lacks.j0 : Nat → Int → Bool → List (S37) → List Int → List Int → List (S59) → List (S59) → Option (Bool)
  | 0, _, _, _, _, _, _, _ => none
  | k + 1, x5, x6, x165000, x165001, x165002, x165003, x165004 => if x6 = true then (some ((x165001.length : Int) == 0)) else (if x5 = 5 then (tinderref10_lacks.j1 k x5 (x5 == 5) x165000 x165001 x165002 x165003 x165004) else (tinderref10_lacks.j1 k x5 (x5 == 6) x165000 x165001 x165002 x165003 x165004))
def tinderref10_lacks.j1 : Nat → Int → Bool → List (S37) → List Int → List Int → List (S59) → List (S59) → Option (Bool)
  | 0, _, _, _, _, _, _, _ => none
  | k + 1, x5, x13, x165000, x165001, x165002, x165003, x165004 => if x13 = true then (some ((x165002.length : Int) == 0)) else (if x5 = 9 then (tinderref10_lacks.j2 k x5 (x5 == 9) x165000 x165001 x165002 x165003 x165004) else (if x5 = 10 then (tinderref10_lacks.j2 k x5 (x5 == 10) x165000 x165001 x165002 x165003 x165004) else (tinderref10_lacks.j2 k x5 (x5 == 11) x165000 x165001 x165002 x165003 x165004)))
def tinderref10_lacks.j2 : Nat → Int → Bool → List (S37) → List Int → List Int → List (S59) → List (S59) → Option (Bool)
  | 0, _, _, _, _, _, _, _ => none
  | k + 1, x5, x20, x165000, x165001, x165002, x165003, x165004 => if x20 = true then (some ((x165003.length : Int) == 0)) else (if x5 = 13 then (tinderref10_lacks.j3 k x5 (x5 == 13) x165000 x165001 x165002 x165003 x165004) else (tinderref10_lacks.j3 k x5 (x5 == 15) x165000 x165001 x165002 x165003 x165004))
def tinderref10_lacks.j3 : Nat → Int → Bool → List (S37) → List Int → List Int → List (S59) → List (S59) → Option (Bool)
  | 0, _, _, _, _, _, _, _ => none
  | k + 1, x5, x28, x165000, x165001, x165002, x165003, x165004 => if x28 = true then (if (x165004.length : Int) = 0 then (some true) else (if 0 ≤ (wrap64 ((x165004.length : Int) - 1)) then (if (wrap64 ((x165004.length : Int) - 1)) < (x165004.length : Int) then (some (((rd_T59 x165004 (wrap64 ((x165004.length : Int) - 1))).f0) != (-1))) else (none)) else (none))) else (if x5 = 14 then (if (x165004.length : Int) = 0 then (some true) else (if 0 ≤ (wrap64 ((x165004.length : Int) - 1)) then (if (wrap64 ((x165004.length : Int) - 1)) < (x165004.length : Int) then (some (((rd_T59 x165004 (wrap64 ((x165004.length : Int) - 1))).f0) == (-1))) else (none)) else (none))) else (some false))
end
def tinderref10_lacks.f (k : Nat) (l0_0 : List (S37)) (l0_1 : List Int) (l0_2 : List Int) (l0_3 : List (S59)) (l0_4 : List (S59)) (a1 : Int) : Option (Bool) := if a1 = 2 then (tinderref10_lacks.j0 k a1 (a1 == 2) l0_0 l0_1 l0_2 l0_3 l0_4) else (tinderref10_lacks.j0 k a1 (a1 == 3) l0_0 l0_1 l0_2 l0_3 l0_4)
theorem tinderref10_lacks.mono_l : ∀ k, (∀ y0 y1 y2 y3 y4 y5 y6, LeO (tinderref10_lacks.j0 k y0 y1 y2 y3 y4 y5 y6) (tinderref10_lacks.j0 (k + 1) y0 y1 y2 y3 y4 y5 y6)) ∧ (∀ y0 y1 y2 y3 y4 y5 y6, LeO (tinderref10_lacks.j1 k y0 y1 y2 y3 y4 y5 y6) (tinderref10_lacks.j1 (k + 1) y0 y1 y2 y3 y4 y5 y6)) ∧ (∀ y0 y1 y2 y3 y4 y5 y6, LeO (tinderref10_lacks.j2 k y0 y1 y2 y3 y4 y5 y6) (tinderref10_lacks.j2 (k + 1) y0 y1 y2 y3 y4 y5 y6)) ∧ (∀ y0 y1 y2 y3 y4 y5 y6, LeO (tinderref10_lacks.j3 k y0 y1 y2 y3 y4 y5 y6) (tinderref10_lacks.j3 (k + 1) y0 y1 y2 y3 y4 y5 y6))
  | 0 => ⟨fun _ _ _ _ _ _ _ r h => by simp [tinderref10_lacks.j0] at h, fun _ _ _ _ _ _ _ r h => by simp [tinderref10_lacks.j1] at h, fun _ _ _ _ _ _ _ r h => by simp [tinderref10_lacks.j2] at h, fun _ _ _ _ _ _ _ r h => by simp [tinderref10_lacks.j3] at h⟩
  | k + 1 => by
    obtain ⟨ih0, ih1, ih2, ih3⟩ := tinderref10_lacks.mono_l k
    refine ⟨?_, ?_, ?_, ?_⟩
    · intro y0 y1 y2 y3 y4 y5 y6
      unfold tinderref10_lacks.j0
      repeat' first
      | (with_reducible exact ih0 _ _ _ _ _ _ _)
      | (with_reducible exact ih1 _ _ _ _ _ _ _)
      | (with_reducible exact ih2 _ _ _ _ _ _ _)
      | (with_reducible exact ih3 _ _ _ _ _ _ _)
      | (with_reducible exact LeO.refl _)
      | (with_reducible exact LeO.none _)
      | (with_reducible refine LeO.ite ?_ ?_)
      | (with_reducible refine LeO.bind ?_ (fun _ => ?_))
      | exact ih0 _ _ _ _ _ _ _
      | exact ih1 _ _ _ _ _ _ _
      | exact ih2 _ _ _ _ _ _ _
      | exact ih3 _ _ _ _ _ _ _
      | exact LeO.none _
      | refine LeO.ite ?_ ?_
      | refine LeO.bind ?_ (fun _ => ?_)
    · intro y0 y1 y2 y3 y4 y5 y6
      unfold tinderref10_lacks.j1
      repeat' first
      | (with_reducible exact ih0 _ _ _ _ _ _ _)
      | (with_reducible exact ih1 _ _ _ _ _ _ _)
      | (with_reducible exact ih2 _ _ _ _ _ _ _)
      | (with_reducible exact ih3 _ _ _ _ _ _ _)
      | (with_reducible exact LeO.refl _)
      | (with_reducible exact LeO.none _)
      | (with_reducible refine LeO.ite ?_ ?_)
      | (with_reducible refine LeO.bind ?_ (fun _ => ?_))
      | exact ih0 _ _ _ _ _ _ _
      | exact ih1 _ _ _ _ _ _ _
      | exact ih2 _ _ _ _ _ _ _
      | exact ih3 _ _ _ _ _ _ _
      | exact LeO.none _
      | refine LeO.ite ?_ ?_
      | refine LeO.bind ?_ (fun _ => ?_)
    · intro y0 y1 y2 y3 y4 y5 y6
      unfold tinderref10_lacks.j2
      repeat' first
      | (with_reducible exact ih0 _ _ _ _ _ _ _)
      | (with_reducible exact ih1 _ _ _ _ _ _ _)
      | (with_reducible exact ih2 _ _ _ _ _ _ _)
      | (with_reducible exact ih3 _ _ _ _ _ _ _)
      | (with_reducible exact LeO.refl _)
      | (with_reducible exact LeO.none _)
      | (with_reducible refine LeO.ite ?_ ?_)
      | (with_reducible refine LeO.bind ?_ (fun _ => ?_))
      | exact ih0 _ _ _ _ _ _ _
      | exact ih1 _ _ _ _ _ _ _
      | exact ih2 _ _ _ _ _ _ _
      | exact ih3 _ _ _ _ _ _ _
      | exact LeO.none _
      | refine LeO.ite ?_ ?_
      | refine LeO.bind ?_ (fun _ => ?_)
    · intro y0 y1 y2 y3 y4 y5 y6
      unfold tinderref10_lacks.j3
      repeat' first
      | (with_reducible exact ih0 _ _ _ _ _ _ _)
      | (with_reducible exact ih1 _ _ _ _ _ _ _)
      | (with_reducible exact ih2 _ _ _ _ _ _ _)
      | (with_reducible exact ih3 _ _ _ _ _ _ _)
      | (with_reducible exact LeO.refl _)
      | (with_reducible exact LeO.none _)
      | (with_reducible refine LeO.ite ?_ ?_)
      | (with_reducible refine LeO.bind ?_ (fun _ => ?_))
      | exact ih0 _ _ _ _ _ _ _
      | exact ih1 _ _ _ _ _ _ _
      | exact ih2 _ _ _ _ _ _ _
      | exact ih3 _ _ _ _ _ _ _
      | exact LeO.none _
      | refine LeO.ite ?_ ?_
      | refine LeO.bind ?_ (fun _ => ?_)
theorem tinderref10_lacks.mono : ∀ a0 a1 a2 a3 a4 a5 k, LeO (tinderref10_lacks.f k a0 a1 a2 a3 a4 a5) (tinderref10_lacks.f (k + 1) a0 a1 a2 a3 a4 a5) := by
  intro a0 a1 a2 a3 a4 a5 k
  obtain ⟨ih0, ih1, ih2, ih3⟩ := tinderref10_lacks.mono_l k
  unfold tinderref10_lacks.f
  repeat' first
      | (with_reducible exact ih0 _ _ _ _ _ _ _)
      | (with_reducible exact ih1 _ _ _ _ _ _ _)
      | (with_reducible exact ih2 _ _ _ _ _ _ _)
      | (with_reducible exact ih3 _ _ _ _ _ _ _)
      | (with_reducible exact LeO.refl _)
      | (with_reducible exact LeO.none _)
      | (with_reducible refine LeO.ite ?_ ?_)
      | (with_reducible refine LeO.bind ?_ (fun _ => ?_))
      | exact ih0 _ _ _ _ _ _ _
      | exact ih1 _ _ _ _ _ _ _
      | exact ih2 _ _ _ _ _ _ _
      | exact ih3 _ _ _ _ _ _ _
      | exact LeO.none _
      | refine LeO.ite ?_ ?_
      | refine LeO.bind ?_ (fun _ => ?_)
set_option maxHeartbeats 8000000 in
set_option maxRecDepth 100000 in
theorem tinderref10_lacks.calls (k : Nat) (A0_0 : Option Addr) (c0_0 : Nat) (l0_0 : List (S37)) (A0_1 : Option Addr) (c0_1 : Nat) (l0_1 : List Int) (A0_2 : Option Addr) (c0_2 : Nat) (l0_2 : List Int) (A0_3 : Option Addr) (c0_3 : Nat) (l0_3 : List (S59)) (A0_4 : Option Addr) (c0_4 : Nat) (l0_4 : List (S59)) (a1 : Int) (r : Bool) (w : World) (hr0_0 : Kd.C k37 w A0_0 l0_0.length l0_0) (hc0_0 : l0_0.length ≤ c0_0) (hr0_1 : Kd.C (Kd.int .i64) w A0_1 l0_1.length l0_1) (hc0_1 : l0_1.length ≤ c0_1) (hr0_2 : Kd.C (Kd.int .i64) w A0_2 l0_2.length l0_2) (hc0_2 : l0_2.length ≤ c0_2) (hr0_3 : Kd.C k59 w A0_3 l0_3.length l0_3) (hc0_3 : l0_3.length ≤ c0_3) (hr0_4 : Kd.C k59 w A0_4 l0_4.length l0_4) (hc0_4 : l0_4.length ≤ c0_4) (h : tinderref10_lacks.f k l0_0 l0_1 l0_2 l0_3 l0_4 a1 = some r) :
    Calls Try.prog 26 #[.agg #[.slice A0_0 l0_0.length c0_0, .slice A0_1 l0_1.length c0_1, .slice A0_2 l0_2.length c0_2, .slice A0_3 l0_3.length c0_3, .slice A0_4 l0_4.length c0_4], .int .i64 a1] w fun e w' => e = .returned (.bool r) ∧ Below w.heap.size w w' := by
  have hu26 := Try.underlying26
  have HR0_0 := Aside0.mk hr0_0
  have HC0_0 := Aside0.mk hc0_0
  clear hr0_0 hc0_0
  have HR0_1 := Aside0.mk hr0_1
  have HC0_1 := Aside0.mk hc0_1
  clear hr0_1 hc0_1
  have HR0_2 := Aside0.mk hr0_2
  have HC0_2 := Aside0.mk hc0_2
  clear hr0_2 hc0_2
  have HR0_3 := Aside0.mk hr0_3
  have HC0_3 := Aside0.mk hc0_3
  clear hr0_3 hc0_3
  have HR0_4 := Aside0.mk hr0_4
  have HC0_4 := Aside0.mk hc0_4
  clear hr0_4 hc0_4
  have HB := Aside0.mk (Below.refl w.heap.size w)
  have H : (if a1 = 2 then (tinderref10_lacks.j0 k a1 (a1 == 2) l0_0 l0_1 l0_2 l0_3 l0_4) else (tinderref10_lacks.j0 k a1 (a1 == 3) l0_0 l0_1 l0_2 l0_3 l0_4)) = some r := h
  clear h
  have HC3 := Aside0.mk H
  clear H
  go_enter Try.func26, Try.ntmps26
  go_upto_if 6 with (first | ((with_reducible refine gate_dst (N := 2) rfl ?_); (try (refine gate_guard (by rfl) ?_; dsimp only)); refine box_event ?hg (N := 2) ?hd (cs := #[.slice A0_0 l0_0.length c0_0, .slice A0_1 l0_1.length c0_1, .slice A0_2 l0_2.length c0_2, .slice A0_3 l0_3.length c0_3, .slice A0_4 l0_4.length c0_4]) (t := 26) ?hr ?_; (case hd => rfl); (case hg => rfl); (case hr => first | (go_simp; done) | (go_simp; rfl)); intro gb164 hg w4 hbox hb; have n0_ := Aside0.mk (below_step (by repeat (first | (with_reducible first | exact HB.out | apply below_alloc | apply pw_below_drewN | apply below_drew1) | exact HB.out)) hb); have n1_ := Aside0.mk (hbox); have n2_ := Aside0.mk ((by rw [hg]; exact (below_size (by repeat (first | (with_reducible first | exact HB.out | apply below_alloc | apply pw_below_drewN | apply below_drew1) | exact HB.out))) : w.heap.size ≤ gb164)); have n3_ := Aside0.mk ((by rw [hg]; exact (below_size (by repeat (first | (with_reducible first | exact HB.out | apply below_alloc | apply pw_below_drewN | apply below_drew1) | exact HB.out))) : w.heap.size ≤ gb164)); clear HB; have HB := n0_; have BK164 := n1_; have GW164 := n2_; have GE164 := n3_; clear n0_ n1_ n2_ n3_; clear hb hbox hg))
  (try simp only [Act.put, List.setIfInBounds_toArray, List.set_cons_zero, List.set_cons_succ])
  go_cut [6] (fun v6 wc => ∃ (kq : Nat) (x6_2 : Bool), v6 = .bool x6_2 ∧ Aside0 (tinderref10_lacks.j0 kq a1 x6_2 l0_0 l0_1 l0_2 l0_3 l0_4 = some r) ∧ Aside0 (kq ≤ k) ∧ Aside0 (wc.heap[gb164]? = some (.cells #[(.slice A0_0 l0_0.length c0_0), (.slice A0_1 l0_1.length c0_1), (.slice A0_2 l0_2.length c0_2), (.slice A0_3 l0_3.length c0_3), (.slice A0_4 l0_4.length c0_4)] 26 (0, 0))) ∧ Aside0 (Below w.heap.size w wc))
  case first =>
    have H := HC3.out
    clear HC3
    by_cases c5 : a1 = 2
    · rw [if_pos c5] at H
      have c5b0 : (a1 == 2) = true := beq_iff_eq.mpr c5
      have c5b1 : (a1 != 2) = false := bne_eq_false_iff_eq.mpr c5
      clear c5
      (first | rw [c5b0] | (simp only [i64_w, i32_w]; rw [c5b0]) | skip)
      have H' := Aside0.mk H
      clear H
      go_wp2
      go_meet
      case rel => exact ⟨_, ((a1 == 2)), (by first | rfl | (simp; done) | (simp [*]; done)), H', ⟨by first | omega | exact Nat.le_refl _⟩, ⟨by (with_reducible repeat (first | refine blk_drewN ?_ _ | refine blk_drew ?_ | refine blk_alloc ?_ _)); exact BK164.out⟩, ⟨by repeat (first | (with_reducible first | exact HB.out | apply below_alloc | apply pw_below_drewN | apply below_drew1 | refine below_set ?_ GE164.out) | exact HB.out)⟩⟩
    · rw [if_neg c5] at H
      have c5b0 : (a1 == 2) = false := beq_eq_false_iff_ne.mpr c5
      have c5b1 : (a1 != 2) = true := bne_iff_ne.mpr c5
      (first | rw [c5b0] | (simp only [i64_w, i32_w]; rw [c5b0]) | skip)
      have H' := Aside0.mk H
      clear H
      go_wp2
      go_meet
      case rel => exact ⟨_, ((a1 == 3)), (by first | rfl | (simp; done) | (simp [*]; done)), H', ⟨by first | omega | exact Nat.le_refl _⟩, ⟨by (with_reducible repeat (first | refine blk_drewN ?_ _ | refine blk_drew ?_ | refine blk_alloc ?_ _)); exact BK164.out⟩, ⟨by repeat (first | (with_reducible first | exact HB.out | apply below_alloc | apply pw_below_drewN | apply below_drew1 | refine below_set ?_ GE164.out) | exact HB.out)⟩⟩
  case rest =>
    clear HC3
    try clear c2
    try clear p2
    try clear c5
    try clear c5b0
    try clear c5b1
    obtain ⟨kq, x6_2, rfl, HA, HJ2, BK164, HB⟩ := hcut
    cases kq with
    | zero => exact absurd HA.out (by simp [tinderref10_lacks.j0])
    | succ kj2 =>
      have H := HA.out
      clear HA
      simp only [tinderref10_lacks.j0] at H
      by_cases c6 : x6_2 = true
      · subst c6
        have H1 : (some ((l0_1.length : Int) == 0)) = some r := by rw [if_pos rfl] at H; exact H
        clear H
        have H := H1
        clear H1
        obtain rfl := Option.some.inj H
        have hcz7_0 : wc.cell? ⟨gb164, 0, none⟩ = some (.slice A0_0 l0_0.length c0_0) := (blk_cell BK164.out 0).trans rfl
        have hcz7_1 : wc.cell? ⟨gb164, 1, none⟩ = some (.slice A0_1 l0_1.length c0_1) := (blk_cell BK164.out 1).trans rfl
        have hcz7_2 : wc.cell? ⟨gb164, 2, none⟩ = some (.slice A0_2 l0_2.length c0_2) := (blk_cell BK164.out 2).trans rfl
        have hcz7_3 : wc.cell? ⟨gb164, 3, none⟩ = some (.slice A0_3 l0_3.length c0_3) := (blk_cell BK164.out 3).trans rfl
        have hcz7_4 : wc.cell? ⟨gb164, 4, none⟩ = some (.slice A0_4 l0_4.length c0_4) := (blk_cell BK164.out 4).trans rfl
        have hfz7_0 := blk_frozen BK164.out 0
        have hfz7_1 := blk_frozen BK164.out 1
        have hfz7_2 := blk_frozen BK164.out 2
        have hfz7_3 := blk_frozen BK164.out 3
        have hfz7_4 := blk_frozen BK164.out 4
        go_wp2
        go_ret
        exact ⟨by first | rfl | (simp [errW_none, errW_some] <;> rfl) | (simp [*, errW_none, errW_some] <;> rfl), by repeat (first | (with_reducible first | exact HB.out | apply below_alloc | apply pw_below_drewN | apply below_drew1 | refine below_set ?_ GE164.out) | exact HB.out)⟩
      · replace c6 := Bool.eq_false_iff.mpr c6
        subst c6
        have H1 : (if a1 = 5 then (tinderref10_lacks.j1 kj2 a1 (a1 == 5) l0_0 l0_1 l0_2 l0_3 l0_4) else (tinderref10_lacks.j1 kj2 a1 (a1 == 6) l0_0 l0_1 l0_2 l0_3 l0_4)) = some r := by rw [if_neg (show ¬ (false = true) by decide)] at H; exact H
        clear H
        have H := H1
        clear H1
        have HC8 := Aside0.mk H
        clear H
        go_upto_if 13 with (fail)
        go_cut [13] (fun v13 wc => ∃ (kq : Nat) (x13_7 : Bool), v13 = .bool x13_7 ∧ Aside0 (tinderref10_lacks.j1 kq a1 x13_7 l0_0 l0_1 l0_2 l0_3 l0_4 = some r) ∧ Aside0 (kq ≤ kj2) ∧ Aside0 (wc.heap[gb164]? = some (.cells #[(.slice A0_0 l0_0.length c0_0), (.slice A0_1 l0_1.length c0_1), (.slice A0_2 l0_2.length c0_2), (.slice A0_3 l0_3.length c0_3), (.slice A0_4 l0_4.length c0_4)] 26 (0, 0))) ∧ Aside0 (Below w.heap.size w wc))
        case first =>
          have H := HC8.out
          clear HC8
          by_cases c9 : a1 = 5
          · rw [if_pos c9] at H
            have c9b0 : (a1 == 5) = true := beq_iff_eq.mpr c9
            have c9b1 : (a1 != 5) = false := bne_eq_false_iff_eq.mpr c9
            clear c9
            (first | rw [c9b0] | (simp only [i64_w, i32_w]; rw [c9b0]) | skip)
            have H' := Aside0.mk H
            clear H
            go_wp2
            go_meet
            case rel => exact ⟨_, ((a1 == 5)), (by first | rfl | (simp; done) | (simp [*]; done)), H', ⟨by have := HJ2.out; first | omega | exact Nat.le_refl _⟩, ⟨by (with_reducible repeat (first | refine blk_drewN ?_ _ | refine blk_drew ?_ | refine blk_alloc ?_ _)); exact BK164.out⟩, ⟨by repeat (first | (with_reducible first | exact HB.out | apply below_alloc | apply pw_below_drewN | apply below_drew1 | refine below_set ?_ GE164.out) | exact HB.out)⟩⟩
          · rw [if_neg c9] at H
            have c9b0 : (a1 == 5) = false := beq_eq_false_iff_ne.mpr c9
            have c9b1 : (a1 != 5) = true := bne_iff_ne.mpr c9
            (first | rw [c9b0] | (simp only [i64_w, i32_w]; rw [c9b0]) | skip)
            have H' := Aside0.mk H
            clear H
            go_wp2
            go_meet
            case rel => exact ⟨_, ((a1 == 6)), (by first | rfl | (simp; done) | (simp [*]; done)), H', ⟨by have := HJ2.out; first | omega | exact Nat.le_refl _⟩, ⟨by (with_reducible repeat (first | refine blk_drewN ?_ _ | refine blk_drew ?_ | refine blk_alloc ?_ _)); exact BK164.out⟩, ⟨by repeat (first | (with_reducible first | exact HB.out | apply below_alloc | apply pw_below_drewN | apply below_drew1 | refine below_set ?_ GE164.out) | exact HB.out)⟩⟩
        case rest =>
          clear HC8
          try clear c2
          try clear p2
          try clear c5
          try clear c5b0
          try clear c5b1
          try clear c6
          try clear c9
          try clear c9b0
          try clear c9b1
          try clear hcz7_0
          try clear hcz7_1
          try clear hcz7_2
          try clear hcz7_3
          try clear hcz7_4
          try clear hfz7_0
          try clear hfz7_1
          try clear hfz7_2
          try clear hfz7_3
          try clear hfz7_4
          try clear p2
          obtain ⟨kq, x13_7, rfl, HA, HJ7, BK164, HB⟩ := hcut
          cases kq with
          | zero => exact absurd HA.out (by simp [tinderref10_lacks.j1])
          | succ kj7 =>
            have H := HA.out
            clear HA
            simp only [tinderref10_lacks.j1] at H
            by_cases c10 : x13_7 = true
            · subst c10
              have H1 : (some ((l0_2.length : Int) == 0)) = some r := by rw [if_pos rfl] at H; exact H
              clear H
              have H := H1
              clear H1
              obtain rfl := Option.some.inj H
              have hcz11_0 : wc.cell? ⟨gb164, 0, none⟩ = some (.slice A0_0 l0_0.length c0_0) := (blk_cell BK164.out 0).trans rfl
              have hcz11_1 : wc.cell? ⟨gb164, 1, none⟩ = some (.slice A0_1 l0_1.length c0_1) := (blk_cell BK164.out 1).trans rfl
              have hcz11_2 : wc.cell? ⟨gb164, 2, none⟩ = some (.slice A0_2 l0_2.length c0_2) := (blk_cell BK164.out 2).trans rfl
              have hcz11_3 : wc.cell? ⟨gb164, 3, none⟩ = some (.slice A0_3 l0_3.length c0_3) := (blk_cell BK164.out 3).trans rfl
              have hcz11_4 : wc.cell? ⟨gb164, 4, none⟩ = some (.slice A0_4 l0_4.length c0_4) := (blk_cell BK164.out 4).trans rfl
              have hfz11_0 := blk_frozen BK164.out 0
              have hfz11_1 := blk_frozen BK164.out 1
              have hfz11_2 := blk_frozen BK164.out 2
              have hfz11_3 := blk_frozen BK164.out 3
              have hfz11_4 := blk_frozen BK164.out 4
              go_wp2
              go_ret
              exact ⟨by first | rfl | (simp [errW_none, errW_some] <;> rfl) | (simp [*, errW_none, errW_some] <;> rfl), by repeat (first | (with_reducible first | exact HB.out | apply below_alloc | apply pw_below_drewN | apply below_drew1 | refine below_set ?_ GE164.out) | exact HB.out)⟩
            · replace c10 := Bool.eq_false_iff.mpr c10
              subst c10
              have H1 : (if a1 = 9 then (tinderref10_lacks.j2 kj7 a1 (a1 == 9) l0_0 l0_1 l0_2 l0_3 l0_4) else (if a1 = 10 then (tinderref10_lacks.j2 kj7 a1 (a1 == 10) l0_0 l0_1 l0_2 l0_3 l0_4) else (tinderref10_lacks.j2 kj7 a1 (a1 == 11) l0_0 l0_1 l0_2 l0_3 l0_4))) = some r := by rw [if_neg (show ¬ (false = true) by decide)] at H; exact H
              clear H
              have H := H1
              clear H1
              have HC12 := Aside0.mk H
              clear H
              go_upto_if 20 with (fail)
              go_cut [20] (fun v20 wc => ∃ (kq : Nat) (x20_11 : Bool), v20 = .bool x20_11 ∧ Aside0 (tinderref10_lacks.j2 kq a1 x20_11 l0_0 l0_1 l0_2 l0_3 l0_4 = some r) ∧ Aside0 (kq ≤ kj7) ∧ Aside0 (wc.heap[gb164]? = some (.cells #[(.slice A0_0 l0_0.length c0_0), (.slice A0_1 l0_1.length c0_1), (.slice A0_2 l0_2.length c0_2), (.slice A0_3 l0_3.length c0_3), (.slice A0_4 l0_4.length c0_4)] 26 (0, 0))) ∧ Aside0 (Below w.heap.size w wc))
              case first =>
                have H := HC12.out
                clear HC12
                by_cases c13 : a1 = 9
                · rw [if_pos c13] at H
                  have c13b0 : (a1 == 9) = true := beq_iff_eq.mpr c13
                  have c13b1 : (a1 != 9) = false := bne_eq_false_iff_eq.mpr c13
                  clear c13
                  (first | rw [c13b0] | (simp only [i64_w, i32_w]; rw [c13b0]) | skip)
                  have H' := Aside0.mk H
                  clear H
                  go_wp2
                  go_meet
                  case rel => exact ⟨_, ((a1 == 9)), (by first | rfl | (simp; done) | (simp [*]; done)), H', ⟨by have := HJ2.out; have := HJ7.out; first | omega | exact Nat.le_refl _⟩, ⟨by (with_reducible repeat (first | refine blk_drewN ?_ _ | refine blk_drew ?_ | refine blk_alloc ?_ _)); exact BK164.out⟩, ⟨by repeat (first | (with_reducible first | exact HB.out | apply below_alloc | apply pw_below_drewN | apply below_drew1 | refine below_set ?_ GE164.out) | exact HB.out)⟩⟩
                · rw [if_neg c13] at H
                  have c13b0 : (a1 == 9) = false := beq_eq_false_iff_ne.mpr c13
                  have c13b1 : (a1 != 9) = true := bne_iff_ne.mpr c13
                  (first | rw [c13b0] | (simp only [i64_w, i32_w]; rw [c13b0]) | skip)
                  by_cases c14 : a1 = 10
                  · rw [if_pos c14] at H
                    have c14b0 : (a1 == 10) = true := beq_iff_eq.mpr c14
                    have c14b1 : (a1 != 10) = false := bne_eq_false_iff_eq.mpr c14
                    clear c14
                    have H' := Aside0.mk H
                    clear H
                    go_wp2
                    go_meet
                    case rel => exact ⟨_, ((a1 == 10)), (by first | rfl | (simp; done) | (simp [*]; done)), H', ⟨by have := HJ2.out; have := HJ7.out; first | omega | exact Nat.le_refl _⟩, ⟨by (with_reducible repeat (first | refine blk_drewN ?_ _ | refine blk_drew ?_ | refine blk_alloc ?_ _)); exact BK164.out⟩, ⟨by repeat (first | (with_reducible first | exact HB.out | apply below_alloc | apply pw_below_drewN | apply below_drew1 | refine below_set ?_ GE164.out) | exact HB.out)⟩⟩
                  · rw [if_neg c14] at H
                    have c14b0 : (a1 == 10) = false := beq_eq_false_iff_ne.mpr c14
                    have c14b1 : (a1 != 10) = true := bne_iff_ne.mpr c14
                    have H' := Aside0.mk H
                    clear H
                    go_wp2
                    go_meet
                    case rel => exact ⟨_, ((a1 == 11)), (by first | rfl | (simp; done) | (simp [*]; done)), H', ⟨by have := HJ2.out; have := HJ7.out; first | omega | exact Nat.le_refl _⟩, ⟨by (with_reducible repeat (first | refine blk_drewN ?_ _ | refine blk_drew ?_ | refine blk_alloc ?_ _)); exact BK164.out⟩, ⟨by repeat (first | (with_reducible first | exact HB.out | apply below_alloc | apply pw_below_drewN | apply below_drew1 | refine below_set ?_ GE164.out) | exact HB.out)⟩⟩
              case rest =>
                clear HC12
                try clear c1
                try clear c2
                try clear p2
                try clear c5
                try clear c5b0
                try clear c5b1
                try clear c6
                try clear c9
                try clear c9b0
                try clear c9b1
                try clear c10
                try clear c13
                try clear c13b0
                try clear c13b1
                try clear c14
                try clear c14b0
                try clear c14b1
                try clear hcz11_0
                try clear hcz11_1
                try clear hcz11_2
                try clear hcz11_3
                try clear hcz11_4
                try clear hcz7_0
                try clear hcz7_1
                try clear hcz7_2
                try clear hcz7_3
                try clear hcz7_4
                try clear hfz11_0
                try clear hfz11_1
                try clear hfz11_2
                try clear hfz11_3
                try clear hfz11_4
                try clear hfz7_0
                try clear hfz7_1
                try clear hfz7_2
                try clear hfz7_3
                try clear hfz7_4
                try clear p2
                obtain ⟨kq, x20_11, rfl, HA, HJ11, BK164, HB⟩ := hcut
                cases kq with
                | zero => exact absurd HA.out (by simp [tinderref10_lacks.j2])
                | succ kj11 =>
                  have H := HA.out
                  clear HA
                  simp only [tinderref10_lacks.j2] at H
                  by_cases c15 : x20_11 = true
                  · subst c15
                    have H1 : (some ((l0_3.length : Int) == 0)) = some r := by rw [if_pos rfl] at H; exact H
                    clear H
                    have H := H1
                    clear H1
                    obtain rfl := Option.some.inj H
                    have hcz16_0 : wc.cell? ⟨gb164, 0, none⟩ = some (.slice A0_0 l0_0.length c0_0) := (blk_cell BK164.out 0).trans rfl
                    have hcz16_1 : wc.cell? ⟨gb164, 1, none⟩ = some (.slice A0_1 l0_1.length c0_1) := (blk_cell BK164.out 1).trans rfl
                    have hcz16_2 : wc.cell? ⟨gb164, 2, none⟩ = some (.slice A0_2 l0_2.length c0_2) := (blk_cell BK164.out 2).trans rfl
                    have hcz16_3 : wc.cell? ⟨gb164, 3, none⟩ = some (.slice A0_3 l0_3.length c0_3) := (blk_cell BK164.out 3).trans rfl
                    have hcz16_4 : wc.cell? ⟨gb164, 4, none⟩ = some (.slice A0_4 l0_4.length c0_4) := (blk_cell BK164.out 4).trans rfl
                    have hfz16_0 := blk_frozen BK164.out 0
                    have hfz16_1 := blk_frozen BK164.out 1
                    have hfz16_2 := blk_frozen BK164.out 2
                    have hfz16_3 := blk_frozen BK164.out 3
                    have hfz16_4 := blk_frozen BK164.out 4
                    go_wp2
                    go_ret
                    exact ⟨by first | rfl | (simp [errW_none, errW_some] <;> rfl) | (simp [*, errW_none, errW_some] <;> rfl), by repeat (first | (with_reducible first | exact HB.out | apply below_alloc | apply pw_below_drewN | apply below_drew1 | refine below_set ?_ GE164.out) | exact HB.out)⟩
                  · replace c15 := Bool.eq_false_iff.mpr c15
                    subst c15
                    have H1 : (if a1 = 13 then (tinderref10_lacks.j3 kj11 a1 (a1 == 13) l0_0 l0_1 l0_2 l0_3 l0_4) else (tinderref10_lacks.j3 kj11 a1 (a1 == 15) l0_0 l0_1 l0_2 l0_3 l0_4)) = some r := by rw [if_neg (show ¬ (false = true) by decide)] at H; exact H
                    clear H
                    have H := H1
                    clear H1
                    have HC17 := Aside0.mk H
                    clear H
                    go_upto_if 28 with (fail)
                    go_cut [28] (fun v28 wc => ∃ (kq : Nat) (x28_16 : Bool), v28 = .bool x28_16 ∧ Aside0 (tinderref10_lacks.j3 kq a1 x28_16 l0_0 l0_1 l0_2 l0_3 l0_4 = some r) ∧ Aside0 (kq ≤ kj11) ∧ Aside0 (wc.heap[gb164]? = some (.cells #[(.slice A0_0 l0_0.length c0_0), (.slice A0_1 l0_1.length c0_1), (.slice A0_2 l0_2.length c0_2), (.slice A0_3 l0_3.length c0_3), (.slice A0_4 l0_4.length c0_4)] 26 (0, 0))) ∧ Aside0 (Below w.heap.size w wc))
                    case first =>
                      have H := HC17.out
                      clear HC17
                      by_cases c18 : a1 = 13
                      · rw [if_pos c18] at H
                        have c18b0 : (a1 == 13) = true := beq_iff_eq.mpr c18
                        have c18b1 : (a1 != 13) = false := bne_eq_false_iff_eq.mpr c18
                        clear c18
                        (first | rw [c18b0] | (simp only [i64_w, i32_w]; rw [c18b0]) | skip)
                        have H' := Aside0.mk H
                        clear H
                        go_wp2
                        go_meet
                        case rel => exact ⟨_, ((a1 == 13)), (by first | rfl | (simp; done) | (simp [*]; done)), H', ⟨by have := HJ2.out; have := HJ7.out; have := HJ11.out; first | omega | exact Nat.le_refl _⟩, ⟨by (with_reducible repeat (first | refine blk_drewN ?_ _ | refine blk_drew ?_ | refine blk_alloc ?_ _)); exact BK164.out⟩, ⟨by repeat (first | (with_reducible first | exact HB.out | apply below_alloc | apply pw_below_drewN | apply below_drew1 | refine below_set ?_ GE164.out) | exact HB.out)⟩⟩
                      · rw [if_neg c18] at H
                        have c18b0 : (a1 == 13) = false := beq_eq_false_iff_ne.mpr c18
                        have c18b1 : (a1 != 13) = true := bne_iff_ne.mpr c18
                        (first | rw [c18b0] | (simp only [i64_w, i32_w]; rw [c18b0]) | skip)
                        have H' := Aside0.mk H
                        clear H
                        go_wp2
                        go_meet
                        case rel => exact ⟨_, ((a1 == 15)), (by first | rfl | (simp; done) | (simp [*]; done)), H', ⟨by have := HJ2.out; have := HJ7.out; have := HJ11.out; first | omega | exact Nat.le_refl _⟩, ⟨by (with_reducible repeat (first | refine blk_drewN ?_ _ | refine blk_drew ?_ | refine blk_alloc ?_ _)); exact BK164.out⟩, ⟨by repeat (first | (with_reducible first | exact HB.out | apply below_alloc | apply pw_below_drewN | apply below_drew1 | refine below_set ?_ GE164.out) | exact HB.out)⟩⟩
                    case rest =>
                      clear HC17
                      try clear c1
                      try clear c2
                      try clear p2
                      try clear c5
                      try clear c5b0
                      try clear c5b1
                      try clear c6
                      try clear c9
                      try clear c9b0
                      try clear c9b1
                      try clear c10
                      try clear c13
                      try clear c13b0
                      try clear c13b1
                      try clear c14
                      try clear c14b0
                      try clear c14b1
                      try clear c15
                      try clear c18
                      try clear c18b0
                      try clear c18b1
                      try clear hcz11_0
                      try clear hcz11_1
                      try clear hcz11_2
                      try clear hcz11_3
                      try clear hcz11_4
                      try clear hcz16_0
                      try clear hcz16_1
                      try clear hcz16_2
                      try clear hcz16_3
                      try clear hcz16_4
                      try clear hcz7_0
                      try clear hcz7_1
                      try clear hcz7_2
                      try clear hcz7_3
                      try clear hcz7_4
                      try clear hfz11_0
                      try clear hfz11_1
                      try clear hfz11_2
                      try clear hfz11_3
                      try clear hfz11_4
                      try clear hfz16_0
                      try clear hfz16_1
                      try clear hfz16_2
                      try clear hfz16_3
                      try clear hfz16_4
                      try clear hfz7_0
                      try clear hfz7_1
                      try clear hfz7_2
                      try clear hfz7_3
                      try clear hfz7_4
                      try clear p2
                      obtain ⟨kq, x28_16, rfl, HA, HJ16, BK164, HB⟩ := hcut
                      cases kq with
                      | zero => exact absurd HA.out (by simp [tinderref10_lacks.j3])
                      | succ kj16 =>
                        have H := HA.out
                        clear HA
                        simp only [tinderref10_lacks.j3] at H
                        by_cases c19 : x28_16 = true
                        · subst c19
                          have H1 : (if (l0_4.length : Int) = 0 then (some true) else (if 0 ≤ (wrap64 ((l0_4.length : Int) - 1)) then (if (wrap64 ((l0_4.length : Int) - 1)) < (l0_4.length : Int) then (some (((rd_T59 l0_4 (wrap64 ((l0_4.length : Int) - 1))).f0) != (-1))) else (none)) else (none))) = some r := by rw [if_pos rfl] at H; exact H
                          clear H
                          have H := H1
                          clear H1
                          by_cases c20 : (l0_4.length : Int) = 0
                          · rw [if_pos c20] at H
                            have c20b0 : ((l0_4.length : Int) == 0) = true := beq_iff_eq.mpr c20
                            have c20b1 : ((l0_4.length : Int) != 0) = false := bne_eq_false_iff_eq.mpr c20
                            clear c20
                            obtain rfl := Option.some.inj H
                            have hcz21_0 : wc.cell? ⟨gb164, 0, none⟩ = some (.slice A0_0 l0_0.length c0_0) := (blk_cell BK164.out 0).trans rfl
                            have hcz21_1 : wc.cell? ⟨gb164, 1, none⟩ = some (.slice A0_1 l0_1.length c0_1) := (blk_cell BK164.out 1).trans rfl
                            have hcz21_2 : wc.cell? ⟨gb164, 2, none⟩ = some (.slice A0_2 l0_2.length c0_2) := (blk_cell BK164.out 2).trans rfl
                            have hcz21_3 : wc.cell? ⟨gb164, 3, none⟩ = some (.slice A0_3 l0_3.length c0_3) := (blk_cell BK164.out 3).trans rfl
                            have hcz21_4 : wc.cell? ⟨gb164, 4, none⟩ = some (.slice A0_4 l0_4.length c0_4) := (blk_cell BK164.out 4).trans rfl
                            have hfz21_0 := blk_frozen BK164.out 0
                            have hfz21_1 := blk_frozen BK164.out 1
                            have hfz21_2 := blk_frozen BK164.out 2
                            have hfz21_3 := blk_frozen BK164.out 3
                            have hfz21_4 := blk_frozen BK164.out 4
                            go_wp2
                            go_ret
                            exact ⟨by first | rfl | (simp [errW_none, errW_some] <;> rfl) | (simp [*, errW_none, errW_some] <;> rfl), by repeat (first | (with_reducible first | exact HB.out | apply below_alloc | apply pw_below_drewN | apply below_drew1 | refine below_set ?_ GE164.out) | exact HB.out)⟩
                          · rw [if_neg c20] at H
                            have c20b0 : ((l0_4.length : Int) == 0) = false := beq_eq_false_iff_ne.mpr c20
                            have c20b1 : ((l0_4.length : Int) != 0) = true := bne_iff_ne.mpr c20
                            have c20b2 : ¬ (l0_4 = []) := fun h_ => c20 (by rw [h_]; rfl)
                            obtain ⟨ji22, hji22⟩ : ∃ j_ : Int, (wrap64 ((l0_4.length : Int) - 1)) = j_ := ⟨_, rfl⟩
                            replace H : (if 0 ≤ (ji22) then (if (ji22) < (l0_4.length : Int) then (some (((rd_T59 l0_4 (ji22)).f0) != (-1))) else (none)) else (none)) = some r := by first | (rw [hji22] at H; exact H) | (simp only [hji22] at H ⊢; exact H)
                            have hji22w : (IntKind.i64.wrap ((l0_4.length : Int) - 1)) = ji22 := (i64_w _).trans hji22
                            by_cases c23 : 0 ≤ (ji22)
                            · rw [if_pos c23] at H
                              have c23b0 : decide (0 ≤ (ji22)) = true := decide_eq_true c23
                              clear c23
                              by_cases c24 : (ji22) < (l0_4.length : Int)
                              · rw [if_pos c24] at H
                                have c24b0 : decide ((ji22) < (l0_4.length : Int)) = true := decide_eq_true c24
                                clear c24
                                obtain rfl := Option.some.inj H
                                have hcz25_0 : wc.cell? ⟨gb164, 0, none⟩ = some (.slice A0_0 l0_0.length c0_0) := (blk_cell BK164.out 0).trans rfl
                                have hcz25_1 : wc.cell? ⟨gb164, 1, none⟩ = some (.slice A0_1 l0_1.length c0_1) := (blk_cell BK164.out 1).trans rfl
                                have hcz25_2 : wc.cell? ⟨gb164, 2, none⟩ = some (.slice A0_2 l0_2.length c0_2) := (blk_cell BK164.out 2).trans rfl
                                have hcz25_3 : wc.cell? ⟨gb164, 3, none⟩ = some (.slice A0_3 l0_3.length c0_3) := (blk_cell BK164.out 3).trans rfl
                                have hcz25_4 : wc.cell? ⟨gb164, 4, none⟩ = some (.slice A0_4 l0_4.length c0_4) := (blk_cell BK164.out 4).trans rfl
                                have hfz25_0 := blk_frozen BK164.out 0
                                have hfz25_1 := blk_frozen BK164.out 1
                                have hfz25_2 := blk_frozen BK164.out 2
                                have hfz25_3 := blk_frozen BK164.out 3
                                have hfz25_4 := blk_frozen BK164.out 4
                                have p165 : 0 ≤ ((ji22) : Int) := of_decide_eq_true (by first | (with_reducible assumption) | assumption)
                                have q165 : (ji22) < (l0_4.length : Int) := of_decide_eq_true (by first | (with_reducible assumption) | assumption)
                                obtain ⟨ad165, A165_1, c165_1, e165, hx165_0, hx165_1, hl165_1, hi165_1⟩ := at_T59 HR0_4.out (ji22) p165 q165
                                cases e165
                                replace hx165_0 := (HB.out.cell (World.block_lt_of_cell? w _ hx165_0)).trans hx165_0
                                replace hx165_1 := (HB.out.cell (World.block_lt_of_cell? w _ hx165_1)).trans hx165_1
                                have HR165_1 := Aside0.mk hi165_1
                                have HC165_1 := Aside0.mk hl165_1
                                clear hi165_1 hl165_1
                                replace p165 := eq_true p165
                                replace q165 := eq_true q165
                                go_wp2
                                go_ret
                                exact ⟨by first | rfl | (simp [errW_none, errW_some] <;> rfl) | (simp only [← hji22]; first | rfl | (simp [errW_none, errW_some] <;> rfl)) | (simp [*, errW_none, errW_some] <;> rfl), by repeat (first | (with_reducible first | exact HB.out | apply below_alloc | apply pw_below_drewN | apply below_drew1 | refine below_set ?_ GE164.out) | exact HB.out)⟩
                              · rw [if_neg c24] at H
                                exact absurd H (by simp)
                            · rw [if_neg c23] at H
                              exact absurd H (by simp)
                        · replace c19 := Bool.eq_false_iff.mpr c19
                          subst c19
                          have H1 : (if a1 = 14 then (if (l0_4.length : Int) = 0 then (some true) else (if 0 ≤ (wrap64 ((l0_4.length : Int) - 1)) then (if (wrap64 ((l0_4.length : Int) - 1)) < (l0_4.length : Int) then (some (((rd_T59 l0_4 (wrap64 ((l0_4.length : Int) - 1))).f0) == (-1))) else (none)) else (none))) else (some false)) = some r := by rw [if_neg (show ¬ (false = true) by decide)] at H; exact H
                          clear H
                          have H := H1
                          clear H1
                          by_cases c26 : a1 = 14
                          · rw [if_pos c26] at H
                            have c26b0 : (a1 == 14) = true := beq_iff_eq.mpr c26
                            have c26b1 : (a1 != 14) = false := bne_eq_false_iff_eq.mpr c26
                            clear c26
                            by_cases c27 : (l0_4.length : Int) = 0
                            · rw [if_pos c27] at H
                              have c27b0 : ((l0_4.length : Int) == 0) = true := beq_iff_eq.mpr c27
                              have c27b1 : ((l0_4.length : Int) != 0) = false := bne_eq_false_iff_eq.mpr c27
                              clear c27
                              obtain rfl := Option.some.inj H
                              have hcz28_0 : wc.cell? ⟨gb164, 0, none⟩ = some (.slice A0_0 l0_0.length c0_0) := (blk_cell BK164.out 0).trans rfl
                              have hcz28_1 : wc.cell? ⟨gb164, 1, none⟩ = some (.slice A0_1 l0_1.length c0_1) := (blk_cell BK164.out 1).trans rfl
                              have hcz28_2 : wc.cell? ⟨gb164, 2, none⟩ = some (.slice A0_2 l0_2.length c0_2) := (blk_cell BK164.out 2).trans rfl
                              have hcz28_3 : wc.cell? ⟨gb164, 3, none⟩ = some (.slice A0_3 l0_3.length c0_3) := (blk_cell BK164.out 3).trans rfl
                              have hcz28_4 : wc.cell? ⟨gb164, 4, none⟩ = some (.slice A0_4 l0_4.length c0_4) := (blk_cell BK164.out 4).trans rfl
                              have hfz28_0 := blk_frozen BK164.out 0
                              have hfz28_1 := blk_frozen BK164.out 1
                              have hfz28_2 := blk_frozen BK164.out 2
                              have hfz28_3 := blk_frozen BK164.out 3
                              have hfz28_4 := blk_frozen BK164.out 4
                              go_wp2
                              go_ret
                              exact ⟨by first | rfl | (simp [errW_none, errW_some] <;> rfl) | (simp [*, errW_none, errW_some] <;> rfl), by repeat (first | (with_reducible first | exact HB.out | apply below_alloc | apply pw_below_drewN | apply below_drew1 | refine below_set ?_ GE164.out) | exact HB.out)⟩
                            · rw [if_neg c27] at H
                              have c27b0 : ((l0_4.length : Int) == 0) = false := beq_eq_false_iff_ne.mpr c27
                              have c27b1 : ((l0_4.length : Int) != 0) = true := bne_iff_ne.mpr c27
                              have c27b2 : ¬ (l0_4 = []) := fun h_ => c27 (by rw [h_]; rfl)
                              obtain ⟨ji29, hji29⟩ : ∃ j_ : Int, (wrap64 ((l0_4.length : Int) - 1)) = j_ := ⟨_, rfl⟩
                              replace H : (if 0 ≤ (ji29) then (if (ji29) < (l0_4.length : Int) then (some (((rd_T59 l0_4 (ji29)).f0) == (-1))) else (none)) else (none)) = some r := by first | (rw [hji29] at H; exact H) | (simp only [hji29] at H ⊢; exact H)
                              have hji29w : (IntKind.i64.wrap ((l0_4.length : Int) - 1)) = ji29 := (i64_w _).trans hji29
                              by_cases c30 : 0 ≤ (ji29)
                              · rw [if_pos c30] at H
                                have c30b0 : decide (0 ≤ (ji29)) = true := decide_eq_true c30
                                clear c30
                                by_cases c31 : (ji29) < (l0_4.length : Int)
                                · rw [if_pos c31] at H
                                  have c31b0 : decide ((ji29) < (l0_4.length : Int)) = true := decide_eq_true c31
                                  clear c31
                                  obtain rfl := Option.some.inj H
                                  have hcz32_0 : wc.cell? ⟨gb164, 0, none⟩ = some (.slice A0_0 l0_0.length c0_0) := (blk_cell BK164.out 0).trans rfl
                                  have hcz32_1 : wc.cell? ⟨gb164, 1, none⟩ = some (.slice A0_1 l0_1.length c0_1) := (blk_cell BK164.out 1).trans rfl
                                  have hcz32_2 : wc.cell? ⟨gb164, 2, none⟩ = some (.slice A0_2 l0_2.length c0_2) := (blk_cell BK164.out 2).trans rfl
                                  have hcz32_3 : wc.cell? ⟨gb164, 3, none⟩ = some (.slice A0_3 l0_3.length c0_3) := (blk_cell BK164.out 3).trans rfl
                                  have hcz32_4 : wc.cell? ⟨gb164, 4, none⟩ = some (.slice A0_4 l0_4.length c0_4) := (blk_cell BK164.out 4).trans rfl
                                  have hfz32_0 := blk_frozen BK164.out 0
                                  have hfz32_1 := blk_frozen BK164.out 1
                                  have hfz32_2 := blk_frozen BK164.out 2
                                  have hfz32_3 := blk_frozen BK164.out 3
                                  have hfz32_4 := blk_frozen BK164.out 4
                                  have p166 : 0 ≤ ((ji29) : Int) := of_decide_eq_true (by first | (with_reducible assumption) | assumption)
                                  have q166 : (ji29) < (l0_4.length : Int) := of_decide_eq_true (by first | (with_reducible assumption) | assumption)
                                  obtain ⟨ad166, A166_1, c166_1, e166, hx166_0, hx166_1, hl166_1, hi166_1⟩ := at_T59 HR0_4.out (ji29) p166 q166
                                  cases e166
                                  replace hx166_0 := (HB.out.cell (World.block_lt_of_cell? w _ hx166_0)).trans hx166_0
                                  replace hx166_1 := (HB.out.cell (World.block_lt_of_cell? w _ hx166_1)).trans hx166_1
                                  have HR166_1 := Aside0.mk hi166_1
                                  have HC166_1 := Aside0.mk hl166_1
                                  clear hi166_1 hl166_1
                                  replace p166 := eq_true p166
                                  replace q166 := eq_true q166
                                  go_wp2
                                  go_ret
                                  exact ⟨by first | rfl | (simp [errW_none, errW_some] <;> rfl) | (simp only [← hji29]; first | rfl | (simp [errW_none, errW_some] <;> rfl)) | (simp [*, errW_none, errW_some] <;> rfl), by repeat (first | (with_reducible first | exact HB.out | apply below_alloc | apply pw_below_drewN | apply below_drew1 | refine below_set ?_ GE164.out) | exact HB.out)⟩
                                · rw [if_neg c31] at H
                                  exact absurd H (by simp)
                              · rw [if_neg c30] at H
                                exact absurd H (by simp)
                          · rw [if_neg c26] at H
                            have c26b0 : (a1 == 14) = false := beq_eq_false_iff_ne.mpr c26
                            have c26b1 : (a1 != 14) = true := bne_iff_ne.mpr c26
                            obtain rfl := Option.some.inj H
                            go_wp2
                            go_ret
                            exact ⟨by first | rfl | (simp [errW_none, errW_some] <;> rfl) | (simp [*, errW_none, errW_some] <;> rfl), by repeat (first | (with_reducible first | exact HB.out | apply below_alloc | apply pw_below_drewN | apply below_drew1 | refine below_set ?_ GE164.out) | exact HB.out)⟩

end Go.Proofs.Ytmglkgjnhoojaaa.PCodeRows
