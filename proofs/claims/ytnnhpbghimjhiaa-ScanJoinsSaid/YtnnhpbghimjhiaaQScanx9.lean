-- written by a program of this session (xprint.py) out of the translation
import Derived.Test.YtnnhpbghimjhiaaQScanx0
import Derived.Test.YtnnhpbghimjhiaaQScanx1
import Derived.Test.YtnnhpbghimjhiaaQScanx5
namespace Go.Proofs.Ytnnhpbghimjhiaa.QScan
open Go.RowKit Go.Proofs.YtnnhpbghimjhiaaW.PrintWords Go.Proofs.YtnnhpbghimjhiaaW.PrintLast Go.Proofs.YtnnhpbghimjhiaaW.PrintMore
attribute [local go_sem] max2_int min2_int max_two min_two max_three min_three max_four min_four   -- for this text's walks alone
set_option linter.unusedVariables false
set_option linter.unusedSimpArgs false

attribute [local go_sem high] eqA30
/-! ### tinderlaw06_ScanJoins: function 4 -/
mutual
def tinderlaw06_ScanJoins.j0 : Nat → ByteArray → ByteArray → List (S30) → List (S30) → Bool → Option (Bool)
  | 0, _, _, _, _, _ => none
  | k + 1, x0, x1, x5, x7, x43 => if x43 = true then (some true) else (if x0.size + 1 ≤ 9223372036854775807 then (if (x0 ++ (⟨#[10]⟩ : ByteArray)).size + x1.size ≤ 9223372036854775807 then ((scan_Cut.f k ((x0 ++ (⟨#[10]⟩ : ByteArray)) ++ x1)).bind fun bt232 => (if bt232.2 = 0 then (if (bt232.1.length : Int) = (wrap64 ((x5.length : Int) + (x7.length : Int))) then (if 0 ≤ (x5.length : Int) then (if (x5.length : Int) ≤ (bt232.1.length : Int) then ((tinderref06_Same.f k (bt232.1.take ((x5.length : Int) : Int).toNat) x5).bind fun t240 => (tinderlaw06_ScanJoins.j1 k x0 x5 x7 bt232.1 (!t240))) else (none)) else (none)) else (tinderlaw06_ScanJoins.j1 k x0 x5 x7 bt232.1 true)) else (tinderlaw06_ScanJoins.j1 k x0 x5 x7 bt232.1 true))) else (none)) else (none))
def tinderlaw06_ScanJoins.j1 : Nat → ByteArray → List (S30) → List (S30) → List (S30) → Bool → Option (Bool)
  | 0, _, _, _, _, _ => none
  | k + 1, x0, x5, x7, x9, x72 => if x72 = true then (some false) else (tinderlaw06_ScanJoins.l0 k x0 x5 x7 x9 0)
def tinderlaw06_ScanJoins.l0 : Nat → ByteArray → List (S30) → List (S30) → List (S30) → Int → Option (Bool)
  | 0, _, _, _, _, _ => none
  | k + 1, x0, x5, x7, x9, x11 => if x11 < (x7.length : Int) then (if 0 ≤ (wrap64 ((x5.length : Int) + x11)) then (if (wrap64 ((x5.length : Int) + x11)) < (x9.length : Int) then (if 0 ≤ x11 then (if (!(((rd_T30 x9 (wrap64 ((x5.length : Int) + x11))).f0) == ((rd_T30 x7 x11).f0)) || (!((((rd_T30 x9 (wrap64 ((x5.length : Int) + x11))).f1).toList) == (((rd_T30 x7 x11).f1).toList)) || (!((wrap64 ((wrap64 (((rd_T30 x9 (wrap64 ((x5.length : Int) + x11))).f2) - (x0.size : Int))) - 1)) == ((rd_T30 x7 x11).f2))))) = true then (some false) else (tinderlaw06_ScanJoins.l0 k x0 x5 x7 x9 (wrap64 (x11 + 1)))) else (none)) else (none)) else (none)) else (some true)
end
def tinderlaw06_ScanJoins.f (k : Nat) (a0 : ByteArray) (a1 : ByteArray) : Option (Bool) := (tinderlaw06_alive.f k).bind fun t223 => (if t223 = true then ((scan_Cut.f k a0).bind fun bt224 => ((scan_Cut.f k a1).bind fun bt228 => (if bt224.2 = 0 then (if bt228.2 = 0 then (if (a0.size : Int) ≥ 4096 then (tinderlaw06_ScanJoins.j0 k a0 a1 bt224.1 bt228.1 true) else (tinderlaw06_ScanJoins.j0 k a0 a1 bt224.1 bt228.1 (decide ((a1.size : Int) ≥ (wrap64 (4096 - (a0.size : Int))))))) else (tinderlaw06_ScanJoins.j0 k a0 a1 bt224.1 bt228.1 true)) else (tinderlaw06_ScanJoins.j0 k a0 a1 bt224.1 bt228.1 true)))) else (some false))
theorem tinderlaw06_ScanJoins.mono_l : ∀ k, (∀ y0 y1 y2 y3 y4, LeO (tinderlaw06_ScanJoins.j0 k y0 y1 y2 y3 y4) (tinderlaw06_ScanJoins.j0 (k + 1) y0 y1 y2 y3 y4)) ∧ (∀ y0 y1 y2 y3 y4, LeO (tinderlaw06_ScanJoins.j1 k y0 y1 y2 y3 y4) (tinderlaw06_ScanJoins.j1 (k + 1) y0 y1 y2 y3 y4)) ∧ (∀ y0 y1 y2 y3 y4, LeO (tinderlaw06_ScanJoins.l0 k y0 y1 y2 y3 y4) (tinderlaw06_ScanJoins.l0 (k + 1) y0 y1 y2 y3 y4))
  | 0 => ⟨fun _ _ _ _ _ r h => by simp [tinderlaw06_ScanJoins.j0] at h, fun _ _ _ _ _ r h => by simp [tinderlaw06_ScanJoins.j1] at h, fun _ _ _ _ _ r h => by simp [tinderlaw06_ScanJoins.l0] at h⟩
  | k + 1 => by
    obtain ⟨ih0, ih1, ih2⟩ := tinderlaw06_ScanJoins.mono_l k
    refine ⟨?_, ?_, ?_⟩
    · intro y0 y1 y2 y3 y4
      unfold tinderlaw06_ScanJoins.j0
      repeat' first
      | (with_reducible exact ih0 _ _ _ _ _)
      | (with_reducible exact ih1 _ _ _ _ _)
      | (with_reducible exact ih2 _ _ _ _ _)
      | (with_reducible exact scan_Cut.mono _ _)
      | (with_reducible exact tinderlaw06_alive.mono _)
      | (with_reducible exact tinderref06_Same.mono _ _ _)
      | (with_reducible exact LeO.refl _)
      | (with_reducible exact LeO.none _)
      | (with_reducible refine LeO.ite ?_ ?_)
      | (with_reducible refine LeO.bind ?_ (fun _ => ?_))
      | exact ih0 _ _ _ _ _
      | exact ih1 _ _ _ _ _
      | exact ih2 _ _ _ _ _
      | exact scan_Cut.mono _ _
      | exact tinderlaw06_alive.mono _
      | exact tinderref06_Same.mono _ _ _
      | exact LeO.none _
      | refine LeO.ite ?_ ?_
      | refine LeO.bind ?_ (fun _ => ?_)
    · intro y0 y1 y2 y3 y4
      unfold tinderlaw06_ScanJoins.j1
      repeat' first
      | (with_reducible exact ih0 _ _ _ _ _)
      | (with_reducible exact ih1 _ _ _ _ _)
      | (with_reducible exact ih2 _ _ _ _ _)
      | (with_reducible exact scan_Cut.mono _ _)
      | (with_reducible exact tinderlaw06_alive.mono _)
      | (with_reducible exact tinderref06_Same.mono _ _ _)
      | (with_reducible exact LeO.refl _)
      | (with_reducible exact LeO.none _)
      | (with_reducible refine LeO.ite ?_ ?_)
      | (with_reducible refine LeO.bind ?_ (fun _ => ?_))
      | exact ih0 _ _ _ _ _
      | exact ih1 _ _ _ _ _
      | exact ih2 _ _ _ _ _
      | exact scan_Cut.mono _ _
      | exact tinderlaw06_alive.mono _
      | exact tinderref06_Same.mono _ _ _
      | exact LeO.none _
      | refine LeO.ite ?_ ?_
      | refine LeO.bind ?_ (fun _ => ?_)
    · intro y0 y1 y2 y3 y4
      unfold tinderlaw06_ScanJoins.l0
      repeat' first
      | (with_reducible exact ih0 _ _ _ _ _)
      | (with_reducible exact ih1 _ _ _ _ _)
      | (with_reducible exact ih2 _ _ _ _ _)
      | (with_reducible exact scan_Cut.mono _ _)
      | (with_reducible exact tinderlaw06_alive.mono _)
      | (with_reducible exact tinderref06_Same.mono _ _ _)
      | (with_reducible exact LeO.refl _)
      | (with_reducible exact LeO.none _)
      | (with_reducible refine LeO.ite ?_ ?_)
      | (with_reducible refine LeO.bind ?_ (fun _ => ?_))
      | exact ih0 _ _ _ _ _
      | exact ih1 _ _ _ _ _
      | exact ih2 _ _ _ _ _
      | exact scan_Cut.mono _ _
      | exact tinderlaw06_alive.mono _
      | exact tinderref06_Same.mono _ _ _
      | exact LeO.none _
      | refine LeO.ite ?_ ?_
      | refine LeO.bind ?_ (fun _ => ?_)
theorem tinderlaw06_ScanJoins.mono : ∀ a0 a1 k, LeO (tinderlaw06_ScanJoins.f k a0 a1) (tinderlaw06_ScanJoins.f (k + 1) a0 a1) := by
  intro a0 a1 k
  obtain ⟨ih0, ih1, ih2⟩ := tinderlaw06_ScanJoins.mono_l k
  unfold tinderlaw06_ScanJoins.f
  repeat' first
      | (with_reducible exact ih0 _ _ _ _ _)
      | (with_reducible exact ih1 _ _ _ _ _)
      | (with_reducible exact ih2 _ _ _ _ _)
      | (with_reducible exact scan_Cut.mono _ _)
      | (with_reducible exact tinderlaw06_alive.mono _)
      | (with_reducible exact tinderref06_Same.mono _ _ _)
      | (with_reducible exact LeO.refl _)
      | (with_reducible exact LeO.none _)
      | (with_reducible refine LeO.ite ?_ ?_)
      | (with_reducible refine LeO.bind ?_ (fun _ => ?_))
      | exact ih0 _ _ _ _ _
      | exact ih1 _ _ _ _ _
      | exact ih2 _ _ _ _ _
      | exact scan_Cut.mono _ _
      | exact tinderlaw06_alive.mono _
      | exact tinderref06_Same.mono _ _ _
      | exact LeO.none _
      | refine LeO.ite ?_ ?_
      | refine LeO.bind ?_ (fun _ => ?_)
set_option maxHeartbeats 8000000 in
set_option maxRecDepth 100000 in
theorem tinderlaw06_ScanJoins.calls (k : Nat) (a0 : ByteArray) (a1 : ByteArray) (r : Bool) (w : World) (h : tinderlaw06_ScanJoins.f k a0 a1 = some r) :
    Calls Try.prog 4 #[.string a0, .string a1] w fun e w' => e = .returned (.bool r) ∧ Below w.heap.size w w' := by
  have hu30 := Try.underlying30
  have HB := Aside0.mk (Below.refl w.heap.size w)
  have H : ((tinderlaw06_alive.f k).bind fun t223 => (if t223 = true then ((scan_Cut.f k a0).bind fun bt224 => ((scan_Cut.f k a1).bind fun bt228 => (if bt224.2 = 0 then (if bt228.2 = 0 then (if (a0.size : Int) ≥ 4096 then (tinderlaw06_ScanJoins.j0 k a0 a1 bt224.1 bt228.1 true) else (tinderlaw06_ScanJoins.j0 k a0 a1 bt224.1 bt228.1 (decide ((a1.size : Int) ≥ (wrap64 (4096 - (a0.size : Int))))))) else (tinderlaw06_ScanJoins.j0 k a0 a1 bt224.1 bt228.1 true)) else (tinderlaw06_ScanJoins.j0 k a0 a1 bt224.1 bt228.1 true)))) else (some false))) = some r := h
  clear h
  replace H := Option.bind_eq_some_iff.mp H
  obtain ⟨t223, A30, H⟩ := H
  replace H : (if t223 = true then ((scan_Cut.f k a0).bind fun bt224 => ((scan_Cut.f k a1).bind fun bt228 => (if bt224.2 = 0 then (if bt228.2 = 0 then (if (a0.size : Int) ≥ 4096 then (tinderlaw06_ScanJoins.j0 k a0 a1 bt224.1 bt228.1 true) else (tinderlaw06_ScanJoins.j0 k a0 a1 bt224.1 bt228.1 (decide ((a1.size : Int) ≥ (wrap64 (4096 - (a0.size : Int))))))) else (tinderlaw06_ScanJoins.j0 k a0 a1 bt224.1 bt228.1 true)) else (tinderlaw06_ScanJoins.j0 k a0 a1 bt224.1 bt228.1 true)))) else (some false)) = some r := H
  have A3 := Aside0.mk A30
  clear A30
  by_cases c4 : t223 = true
  · subst c4
    have H1 : ((scan_Cut.f k a0).bind fun bt224 => ((scan_Cut.f k a1).bind fun bt228 => (if bt224.2 = 0 then (if bt228.2 = 0 then (if (a0.size : Int) ≥ 4096 then (tinderlaw06_ScanJoins.j0 k a0 a1 bt224.1 bt228.1 true) else (tinderlaw06_ScanJoins.j0 k a0 a1 bt224.1 bt228.1 (decide ((a1.size : Int) ≥ (wrap64 (4096 - (a0.size : Int))))))) else (tinderlaw06_ScanJoins.j0 k a0 a1 bt224.1 bt228.1 true)) else (tinderlaw06_ScanJoins.j0 k a0 a1 bt224.1 bt228.1 true)))) = some r := by rw [if_pos rfl] at H; exact H
    clear H
    have H := H1
    clear H1
    replace H := Option.bind_eq_some_iff.mp H
    obtain ⟨⟨t224, t225⟩, A50, H⟩ := H
    replace H : ((scan_Cut.f k a1).bind fun bt228 => (if t225 = 0 then (if bt228.2 = 0 then (if (a0.size : Int) ≥ 4096 then (tinderlaw06_ScanJoins.j0 k a0 a1 t224 bt228.1 true) else (tinderlaw06_ScanJoins.j0 k a0 a1 t224 bt228.1 (decide ((a1.size : Int) ≥ (wrap64 (4096 - (a0.size : Int))))))) else (tinderlaw06_ScanJoins.j0 k a0 a1 t224 bt228.1 true)) else (tinderlaw06_ScanJoins.j0 k a0 a1 t224 bt228.1 true))) = some r := H
    have A5 := Aside0.mk A50
    clear A50
    replace H := Option.bind_eq_some_iff.mp H
    obtain ⟨⟨t228, t229⟩, A60, H⟩ := H
    replace H : (if t225 = 0 then (if t229 = 0 then (if (a0.size : Int) ≥ 4096 then (tinderlaw06_ScanJoins.j0 k a0 a1 t224 t228 true) else (tinderlaw06_ScanJoins.j0 k a0 a1 t224 t228 (decide ((a1.size : Int) ≥ (wrap64 (4096 - (a0.size : Int))))))) else (tinderlaw06_ScanJoins.j0 k a0 a1 t224 t228 true)) else (tinderlaw06_ScanJoins.j0 k a0 a1 t224 t228 true)) = some r := H
    have A6 := Aside0.mk A60
    clear A60
    have HC7 := Aside0.mk H
    clear H
    go_enter Try.func4, Try.ntmps4
    go_upto_region 5 with (first | (go_at_call 8; (with_reducible refine (tinderlaw06_alive.calls k  true _ A3.out).mono ?_); rintro e w8 ⟨rfl, hb⟩; have n0_ := Aside0.mk (below_step (by repeat (first | (with_reducible first | exact HB.out | apply below_alloc | apply pw_below_drewN | apply below_drew1) | exact HB.out)) hb); clear HB; have HB := n0_; clear n0_; (try clear hb); (try clear hb2); (try clear hk); (try clear hi)) | (go_at_call 9; (with_reducible refine (scan_Cut.calls k a0 t224 t225 _ A5.out).mono ?_); rintro e w9 ⟨v226, rfl, ho0, hb⟩; have n0_ := Aside0.mk (Kd.R_lower ho0 (below_size (by repeat (first | (with_reducible first | exact HB.out | apply below_alloc | apply pw_below_drewN | apply below_drew1) | exact HB.out)))); have n1_ := Aside0.mk (below_step (by repeat (first | (with_reducible first | exact HB.out | apply below_alloc | apply pw_below_drewN | apply below_drew1) | exact HB.out)) hb); clear HB; have HO227 := n0_; have HB := n1_; clear n0_ n1_; (try clear hb); (try clear hb2); (try clear hk); (try clear hi); (try clear ho0)) | (go_at_call 9; (with_reducible refine (scan_Cut.calls k a1 t228 t229 _ A6.out).mono ?_); rintro e w10 ⟨v230, rfl, ho0, hb⟩; have n0_ := Aside0.mk (Kd.R_elder' (by (with_reducible repeat (first | apply Kd.R_alloc | apply Kd.R_drewN | apply Kd.R_drew)); exact HO227.out) (Kd.R_base ho0) hb); have n1_ := Aside0.mk (Kd.R_lower (Kd.R_new' ho0 (Kd.R_lt (by (with_reducible repeat (first | apply Kd.R_alloc | apply Kd.R_drewN | apply Kd.R_drew)); exact HO227.out))) (below_size (by repeat (first | (with_reducible first | exact HB.out | apply below_alloc | apply pw_below_drewN | apply below_drew1) | exact HB.out)))); have n2_ := Aside0.mk (below_step (by repeat (first | (with_reducible first | exact HB.out | apply below_alloc | apply pw_below_drewN | apply below_drew1) | exact HB.out)) hb); clear HO227; clear HB; have HO227 := n0_; have HO231 := n1_; have HB := n2_; clear n0_ n1_ n2_; (try clear hb); (try clear hb2); (try clear hk); (try clear hi); (try clear ho0)))
    repeat (go_quiet (first | (go_at_call 8; (with_reducible refine (tinderlaw06_alive.calls k  true _ A3.out).mono ?_); rintro e w8 ⟨rfl, hb⟩; have n0_ := Aside0.mk (below_step (by repeat (first | (with_reducible first | exact HB.out | apply below_alloc | apply pw_below_drewN | apply below_drew1) | exact HB.out)) hb); clear HB; have HB := n0_; clear n0_; (try clear hb); (try clear hb2); (try clear hk); (try clear hi)) | (go_at_call 9; (with_reducible refine (scan_Cut.calls k a0 t224 t225 _ A5.out).mono ?_); rintro e w9 ⟨v226, rfl, ho0, hb⟩; have n0_ := Aside0.mk (Kd.R_lower ho0 (below_size (by repeat (first | (with_reducible first | exact HB.out | apply below_alloc | apply pw_below_drewN | apply below_drew1) | exact HB.out)))); have n1_ := Aside0.mk (below_step (by repeat (first | (with_reducible first | exact HB.out | apply below_alloc | apply pw_below_drewN | apply below_drew1) | exact HB.out)) hb); clear HB; have HO227 := n0_; have HB := n1_; clear n0_ n1_; (try clear hb); (try clear hb2); (try clear hk); (try clear hi); (try clear ho0)) | (go_at_call 9; (with_reducible refine (scan_Cut.calls k a1 t228 t229 _ A6.out).mono ?_); rintro e w10 ⟨v230, rfl, ho0, hb⟩; have n0_ := Aside0.mk (Kd.R_elder' (by (with_reducible repeat (first | apply Kd.R_alloc | apply Kd.R_drewN | apply Kd.R_drew)); exact HO227.out) (Kd.R_base ho0) hb); have n1_ := Aside0.mk (Kd.R_lower (Kd.R_new' ho0 (Kd.R_lt (by (with_reducible repeat (first | apply Kd.R_alloc | apply Kd.R_drewN | apply Kd.R_drew)); exact HO227.out))) (below_size (by repeat (first | (with_reducible first | exact HB.out | apply below_alloc | apply pw_below_drewN | apply below_drew1) | exact HB.out)))); have n2_ := Aside0.mk (below_step (by repeat (first | (with_reducible first | exact HB.out | apply below_alloc | apply pw_below_drewN | apply below_drew1) | exact HB.out)) hb); clear HO227; clear HB; have HO227 := n0_; have HO231 := n1_; have HB := n2_; clear n0_ n1_ n2_; (try clear hb); (try clear hb2); (try clear hk); (try clear hi); (try clear ho0))); go_upto_region 5 with (first | (go_at_call 8; (with_reducible refine (tinderlaw06_alive.calls k  true _ A3.out).mono ?_); rintro e w8 ⟨rfl, hb⟩; have n0_ := Aside0.mk (below_step (by repeat (first | (with_reducible first | exact HB.out | apply below_alloc | apply pw_below_drewN | apply below_drew1) | exact HB.out)) hb); clear HB; have HB := n0_; clear n0_; (try clear hb); (try clear hb2); (try clear hk); (try clear hi)) | (go_at_call 9; (with_reducible refine (scan_Cut.calls k a0 t224 t225 _ A5.out).mono ?_); rintro e w9 ⟨v226, rfl, ho0, hb⟩; have n0_ := Aside0.mk (Kd.R_lower ho0 (below_size (by repeat (first | (with_reducible first | exact HB.out | apply below_alloc | apply pw_below_drewN | apply below_drew1) | exact HB.out)))); have n1_ := Aside0.mk (below_step (by repeat (first | (with_reducible first | exact HB.out | apply below_alloc | apply pw_below_drewN | apply below_drew1) | exact HB.out)) hb); clear HB; have HO227 := n0_; have HB := n1_; clear n0_ n1_; (try clear hb); (try clear hb2); (try clear hk); (try clear hi); (try clear ho0)) | (go_at_call 9; (with_reducible refine (scan_Cut.calls k a1 t228 t229 _ A6.out).mono ?_); rintro e w10 ⟨v230, rfl, ho0, hb⟩; have n0_ := Aside0.mk (Kd.R_elder' (by (with_reducible repeat (first | apply Kd.R_alloc | apply Kd.R_drewN | apply Kd.R_drew)); exact HO227.out) (Kd.R_base ho0) hb); have n1_ := Aside0.mk (Kd.R_lower (Kd.R_new' ho0 (Kd.R_lt (by (with_reducible repeat (first | apply Kd.R_alloc | apply Kd.R_drewN | apply Kd.R_drew)); exact HO227.out))) (below_size (by repeat (first | (with_reducible first | exact HB.out | apply below_alloc | apply pw_below_drewN | apply below_drew1) | exact HB.out)))); have n2_ := Aside0.mk (below_step (by repeat (first | (with_reducible first | exact HB.out | apply below_alloc | apply pw_below_drewN | apply below_drew1) | exact HB.out)) hb); clear HO227; clear HB; have HO227 := n0_; have HO231 := n1_; have HB := n2_; clear n0_ n1_ n2_; (try clear hb); (try clear hb2); (try clear hk); (try clear hi); (try clear ho0))))
    (try simp only [Act.put, List.setIfInBounds_toArray, List.set_cons_zero, List.set_cons_succ])
    go_cut [43] (fun v43 wc => ∃ (kq : Nat) (x43_6 : Bool), v43 = .bool x43_6 ∧ Aside0 (tinderlaw06_ScanJoins.j0 kq a0 a1 t224 t228 x43_6 = some r) ∧ Aside0 (kq ≤ k) ∧ Aside0 (Kd.R k30 30 wc w.heap.size (fun k_ => some k_ ≠ (v230 : Value).ownBlock) v226 t224) ∧ Aside0 (Kd.R k30 30 wc w.heap.size (fun k_ => some k_ ≠ (v226 : Value).ownBlock) v230 t228) ∧ Aside0 (Below w.heap.size w wc))
    case first =>
      have H := HC7.out
      clear HC7
      by_cases c11 : t225 = 0
      · rw [if_pos c11] at H
        have c11b0 : (t225 == 0) = true := beq_iff_eq.mpr c11
        have c11b1 : (t225 != 0) = false := bne_eq_false_iff_eq.mpr c11
        clear c11
        (first | rw [c11b0] | (simp only [i64_w, i32_w]; rw [c11b0]) | skip)
        by_cases c12 : t229 = 0
        · rw [if_pos c12] at H
          have c12b0 : (t229 == 0) = true := beq_iff_eq.mpr c12
          have c12b1 : (t229 != 0) = false := bne_eq_false_iff_eq.mpr c12
          clear c12
          by_cases c13 : (a0.size : Int) ≥ 4096
          · rw [if_pos c13] at H
            have c13b0 : decide (4096 ≤ (a0.size : Int)) = true := decide_eq_true c13
            have c13b1 : decide (4096 ≤ a0.size) = true := decide_eq_true (by omega)
            clear c13
            have H' := Aside0.mk H
            clear H
            go_wp2
            repeat (go_quiet (fail); try go_wp2)
            go_meet
            case rel => exact ⟨_, (true), (by first | rfl | (simp; done) | (simp [*]; done) | (simp <;> omega) | (simp [*] <;> omega)), H', ⟨by first | omega | exact Nat.le_refl _⟩, ⟨by (with_reducible repeat (first | apply Kd.R_alloc | apply Kd.R_drewN | apply Kd.R_drew)); exact Kd.R_mono HO227.out (fun _ hk => hk.2)⟩, ⟨by (with_reducible repeat (first | apply Kd.R_alloc | apply Kd.R_drewN | apply Kd.R_drew)); exact Kd.R_mono HO231.out (fun _ hk => hk.2)⟩, ⟨by repeat (first | (with_reducible first | exact HB.out | apply below_alloc | apply pw_below_drewN | apply below_drew1) | exact HB.out)⟩⟩
          · rw [if_neg c13] at H
            have c13b0 : decide (4096 ≤ (a0.size : Int)) = false := decide_eq_false c13
            have c13b1 : decide (4096 ≤ a0.size) = false := decide_eq_false (by omega)
            clear c13
            have H' := Aside0.mk H
            clear H
            go_wp2
            repeat (go_quiet (fail); try go_wp2)
            go_meet
            case rel => exact ⟨_, (decide ((a1.size : Int) ≥ (wrap64 (4096 - (a0.size : Int))))), (by first | rfl | (simp; done) | (simp [*]; done) | (simp <;> omega) | (simp [*] <;> omega)), H', ⟨by first | omega | exact Nat.le_refl _⟩, ⟨by (with_reducible repeat (first | apply Kd.R_alloc | apply Kd.R_drewN | apply Kd.R_drew)); exact Kd.R_mono HO227.out (fun _ hk => hk.2)⟩, ⟨by (with_reducible repeat (first | apply Kd.R_alloc | apply Kd.R_drewN | apply Kd.R_drew)); exact Kd.R_mono HO231.out (fun _ hk => hk.2)⟩, ⟨by repeat (first | (with_reducible first | exact HB.out | apply below_alloc | apply pw_below_drewN | apply below_drew1) | exact HB.out)⟩⟩
        · rw [if_neg c12] at H
          have c12b0 : (t229 == 0) = false := beq_eq_false_iff_ne.mpr c12
          have c12b1 : (t229 != 0) = true := bne_iff_ne.mpr c12
          have H' := Aside0.mk H
          clear H
          go_wp2
          repeat (go_quiet (fail); try go_wp2)
          go_meet
          case rel => exact ⟨_, (true), (by first | rfl | (simp; done) | (simp [*]; done) | (simp <;> omega) | (simp [*] <;> omega)), H', ⟨by first | omega | exact Nat.le_refl _⟩, ⟨by (with_reducible repeat (first | apply Kd.R_alloc | apply Kd.R_drewN | apply Kd.R_drew)); exact Kd.R_mono HO227.out (fun _ hk => hk.2)⟩, ⟨by (with_reducible repeat (first | apply Kd.R_alloc | apply Kd.R_drewN | apply Kd.R_drew)); exact Kd.R_mono HO231.out (fun _ hk => hk.2)⟩, ⟨by repeat (first | (with_reducible first | exact HB.out | apply below_alloc | apply pw_below_drewN | apply below_drew1) | exact HB.out)⟩⟩
      · rw [if_neg c11] at H
        have c11b0 : (t225 == 0) = false := beq_eq_false_iff_ne.mpr c11
        have c11b1 : (t225 != 0) = true := bne_iff_ne.mpr c11
        (first | rw [c11b0] | (simp only [i64_w, i32_w]; rw [c11b0]) | skip)
        have H' := Aside0.mk H
        clear H
        go_wp2
        repeat (go_quiet (fail); try go_wp2)
        go_meet
        case rel => exact ⟨_, (true), (by first | rfl | (simp; done) | (simp [*]; done) | (simp <;> omega) | (simp [*] <;> omega)), H', ⟨by first | omega | exact Nat.le_refl _⟩, ⟨by (with_reducible repeat (first | apply Kd.R_alloc | apply Kd.R_drewN | apply Kd.R_drew)); exact Kd.R_mono HO227.out (fun _ hk => hk.2)⟩, ⟨by (with_reducible repeat (first | apply Kd.R_alloc | apply Kd.R_drewN | apply Kd.R_drew)); exact Kd.R_mono HO231.out (fun _ hk => hk.2)⟩, ⟨by repeat (first | (with_reducible first | exact HB.out | apply below_alloc | apply pw_below_drewN | apply below_drew1) | exact HB.out)⟩⟩
    case rest =>
      clear HC7
      try clear c1
      try clear p2
      try clear c4
      try clear p6
      try clear c11
      try clear c11b0
      try clear c11b1
      try clear c12
      try clear c12b0
      try clear c12b1
      try clear c13
      try clear c13b0
      try clear c13b1
      obtain ⟨kq, x43_6, rfl, HA, HJ6, HO_5, HO_7, HB⟩ := hcut
      cases kq with
      | zero => exact absurd HA.out (by simp [tinderlaw06_ScanJoins.j0])
      | succ kj6 =>
        have H := HA.out
        clear HA
        simp only [tinderlaw06_ScanJoins.j0] at H
        by_cases c14 : x43_6 = true
        · subst c14
          have H1 : (some true) = some r := by rw [if_pos rfl] at H; exact H
          clear H
          have H := H1
          clear H1
          obtain rfl := Option.some.inj H
          go_wp2
          repeat (go_quiet (fail); try go_wp2)
          go_ret
          exact ⟨by first | rfl | (simp [errW_none, errW_some] <;> rfl) | (simp [*, errW_none, errW_some] <;> rfl) | (simp [errW_none, errW_some] <;> omega) | (simp [*, errW_none, errW_some] <;> omega), by repeat (first | (with_reducible first | exact HB.out | apply below_alloc | apply pw_below_drewN | apply below_drew1) | exact HB.out)⟩
        · replace c14 := Bool.eq_false_iff.mpr c14
          subst c14
          have H1 : (if a0.size + 1 ≤ 9223372036854775807 then (if (a0 ++ (⟨#[10]⟩ : ByteArray)).size + a1.size ≤ 9223372036854775807 then ((scan_Cut.f kj6 ((a0 ++ (⟨#[10]⟩ : ByteArray)) ++ a1)).bind fun bt232 => (if bt232.2 = 0 then (if (bt232.1.length : Int) = (wrap64 ((t224.length : Int) + (t228.length : Int))) then (if 0 ≤ (t224.length : Int) then (if (t224.length : Int) ≤ (bt232.1.length : Int) then ((tinderref06_Same.f kj6 (bt232.1.take ((t224.length : Int) : Int).toNat) t224).bind fun t240 => (tinderlaw06_ScanJoins.j1 kj6 a0 t224 t228 bt232.1 (!t240))) else (none)) else (none)) else (tinderlaw06_ScanJoins.j1 kj6 a0 t224 t228 bt232.1 true)) else (tinderlaw06_ScanJoins.j1 kj6 a0 t224 t228 bt232.1 true))) else (none)) else (none)) = some r := by rw [if_neg (show ¬ (false = true) by decide)] at H; exact H
          clear H
          have H := H1
          clear H1
          by_cases c15 : a0.size + 1 ≤ 9223372036854775807
          · rw [if_pos c15] at H
            have c15b0 := eq_true c15
            have c15b1 : decide (a0.size + 1 ≤ 9223372036854775807) = true := decide_eq_true c15
            try have c15b2 : (9223372036854775807 < a0.size + 1) = False := eq_false (Nat.not_lt.2 c15)
            by_cases c16 : (a0 ++ (⟨#[10]⟩ : ByteArray)).size + a1.size ≤ 9223372036854775807
            · rw [if_pos c16] at H
              have c16b0 := eq_true c16
              have c16b1 : decide ((a0 ++ (⟨#[10]⟩ : ByteArray)).size + a1.size ≤ 9223372036854775807) = true := decide_eq_true c16
              try have c16b2 : (9223372036854775807 < (a0 ++ (⟨#[10]⟩ : ByteArray)).size + a1.size) = False := eq_false (Nat.not_lt.2 c16)
              replace H := Option.bind_eq_some_iff.mp H
              obtain ⟨⟨t232, t233⟩, A170, H⟩ := H
              replace H : (if t233 = 0 then (if (t232.length : Int) = (wrap64 ((t224.length : Int) + (t228.length : Int))) then (if 0 ≤ (t224.length : Int) then (if (t224.length : Int) ≤ (t232.length : Int) then ((tinderref06_Same.f kj6 (t232.take ((t224.length : Int) : Int).toNat) t224).bind fun t240 => (tinderlaw06_ScanJoins.j1 kj6 a0 t224 t228 t232 (!t240))) else (none)) else (none)) else (tinderlaw06_ScanJoins.j1 kj6 a0 t224 t228 t232 true)) else (tinderlaw06_ScanJoins.j1 kj6 a0 t224 t228 t232 true)) = some r := H
              have A17 := Aside0.mk A170
              clear A170
              have HC18 := Aside0.mk H
              clear H
              go_upto_region 8 with (first | (go_at_call 9; (with_reducible refine (scan_Cut.calls kj6 ((a0 ++ (⟨#[10]⟩ : ByteArray)) ++ a1) t232 t233 _ A17.out).mono ?_); rintro e w19 ⟨v234, rfl, ho0, hb⟩; have n0_ := Aside0.mk (Kd.R_elder' (by (with_reducible repeat (first | apply Kd.R_alloc | apply Kd.R_drewN | apply Kd.R_drew)); exact HO_5.out) (Kd.R_base ho0) hb); have n1_ := Aside0.mk (Kd.R_elder' (by (with_reducible repeat (first | apply Kd.R_alloc | apply Kd.R_drewN | apply Kd.R_drew)); exact HO_7.out) (Kd.R_base ho0) hb); have n2_ := Aside0.mk (Kd.R_lower (Kd.R_new' (Kd.R_new' ho0 (Kd.R_lt (by (with_reducible repeat (first | apply Kd.R_alloc | apply Kd.R_drewN | apply Kd.R_drew)); exact HO_5.out))) (Kd.R_lt (by (with_reducible repeat (first | apply Kd.R_alloc | apply Kd.R_drewN | apply Kd.R_drew)); exact HO_7.out))) (below_size (by repeat (first | (with_reducible first | exact HB.out | apply below_alloc | apply pw_below_drewN | apply below_drew1) | exact HB.out)))); have n3_ := Aside0.mk (below_step (by repeat (first | (with_reducible first | exact HB.out | apply below_alloc | apply pw_below_drewN | apply below_drew1) | exact HB.out)) hb); clear HO_5; clear HO_7; clear HB; have HO_5 := n0_; have HO_7 := n1_; have HO235 := n2_; have HB := n3_; clear n0_ n1_ n2_ n3_; (try clear hb); (try clear hb2); (try clear hk); (try clear hi); (try clear ho0)))
              repeat (go_quiet (first | (go_at_call 9; (with_reducible refine (scan_Cut.calls kj6 ((a0 ++ (⟨#[10]⟩ : ByteArray)) ++ a1) t232 t233 _ A17.out).mono ?_); rintro e w19 ⟨v234, rfl, ho0, hb⟩; have n0_ := Aside0.mk (Kd.R_elder' (by (with_reducible repeat (first | apply Kd.R_alloc | apply Kd.R_drewN | apply Kd.R_drew)); exact HO_5.out) (Kd.R_base ho0) hb); have n1_ := Aside0.mk (Kd.R_elder' (by (with_reducible repeat (first | apply Kd.R_alloc | apply Kd.R_drewN | apply Kd.R_drew)); exact HO_7.out) (Kd.R_base ho0) hb); have n2_ := Aside0.mk (Kd.R_lower (Kd.R_new' (Kd.R_new' ho0 (Kd.R_lt (by (with_reducible repeat (first | apply Kd.R_alloc | apply Kd.R_drewN | apply Kd.R_drew)); exact HO_5.out))) (Kd.R_lt (by (with_reducible repeat (first | apply Kd.R_alloc | apply Kd.R_drewN | apply Kd.R_drew)); exact HO_7.out))) (below_size (by repeat (first | (with_reducible first | exact HB.out | apply below_alloc | apply pw_below_drewN | apply below_drew1) | exact HB.out)))); have n3_ := Aside0.mk (below_step (by repeat (first | (with_reducible first | exact HB.out | apply below_alloc | apply pw_below_drewN | apply below_drew1) | exact HB.out)) hb); clear HO_5; clear HO_7; clear HB; have HO_5 := n0_; have HO_7 := n1_; have HO235 := n2_; have HB := n3_; clear n0_ n1_ n2_ n3_; (try clear hb); (try clear hb2); (try clear hk); (try clear hi); (try clear ho0))); go_upto_region 8 with (first | (go_at_call 9; (with_reducible refine (scan_Cut.calls kj6 ((a0 ++ (⟨#[10]⟩ : ByteArray)) ++ a1) t232 t233 _ A17.out).mono ?_); rintro e w19 ⟨v234, rfl, ho0, hb⟩; have n0_ := Aside0.mk (Kd.R_elder' (by (with_reducible repeat (first | apply Kd.R_alloc | apply Kd.R_drewN | apply Kd.R_drew)); exact HO_5.out) (Kd.R_base ho0) hb); have n1_ := Aside0.mk (Kd.R_elder' (by (with_reducible repeat (first | apply Kd.R_alloc | apply Kd.R_drewN | apply Kd.R_drew)); exact HO_7.out) (Kd.R_base ho0) hb); have n2_ := Aside0.mk (Kd.R_lower (Kd.R_new' (Kd.R_new' ho0 (Kd.R_lt (by (with_reducible repeat (first | apply Kd.R_alloc | apply Kd.R_drewN | apply Kd.R_drew)); exact HO_5.out))) (Kd.R_lt (by (with_reducible repeat (first | apply Kd.R_alloc | apply Kd.R_drewN | apply Kd.R_drew)); exact HO_7.out))) (below_size (by repeat (first | (with_reducible first | exact HB.out | apply below_alloc | apply pw_below_drewN | apply below_drew1) | exact HB.out)))); have n3_ := Aside0.mk (below_step (by repeat (first | (with_reducible first | exact HB.out | apply below_alloc | apply pw_below_drewN | apply below_drew1) | exact HB.out)) hb); clear HO_5; clear HO_7; clear HB; have HO_5 := n0_; have HO_7 := n1_; have HO235 := n2_; have HB := n3_; clear n0_ n1_ n2_ n3_; (try clear hb); (try clear hb2); (try clear hk); (try clear hi); (try clear ho0))))
              (try simp only [Act.put, List.setIfInBounds_toArray, List.set_cons_zero, List.set_cons_succ])
              go_cut [72] (fun v72 wc => ∃ (kq : Nat) (x72_17 : Bool), v72 = .bool x72_17 ∧ Aside0 (tinderlaw06_ScanJoins.j1 kq a0 t224 t228 t232 x72_17 = some r) ∧ Aside0 (kq ≤ kj6) ∧ Aside0 (Kd.R k30 30 wc w.heap.size (fun k_ => some k_ ≠ (v230 : Value).ownBlock ∧ some k_ ≠ (v234 : Value).ownBlock) v226 t224) ∧ Aside0 (Kd.R k30 30 wc w.heap.size (fun k_ => some k_ ≠ (v226 : Value).ownBlock ∧ some k_ ≠ (v234 : Value).ownBlock) v230 t228) ∧ Aside0 (Kd.R k30 30 wc w.heap.size (fun k_ => some k_ ≠ (v226 : Value).ownBlock ∧ some k_ ≠ (v230 : Value).ownBlock) v234 t232) ∧ Aside0 (Below w.heap.size w wc))
              case first =>
                have H := HC18.out
                clear HC18
                by_cases c20 : t233 = 0
                · rw [if_pos c20] at H
                  have c20b0 : (t233 == 0) = true := beq_iff_eq.mpr c20
                  have c20b1 : (t233 != 0) = false := bne_eq_false_iff_eq.mpr c20
                  clear c20
                  (first | rw [c20b0] | (simp only [i64_w, i32_w]; rw [c20b0]) | skip)
                  by_cases c21 : (t232.length : Int) = (wrap64 ((t224.length : Int) + (t228.length : Int)))
                  · rw [if_pos c21] at H
                    have c21b0 : ((t232.length : Int) == (wrap64 ((t224.length : Int) + (t228.length : Int)))) = true := beq_iff_eq.mpr c21
                    have c21b1 : ((t232.length : Int) != (wrap64 ((t224.length : Int) + (t228.length : Int)))) = false := bne_eq_false_iff_eq.mpr c21
                    clear c21
                    by_cases c22 : 0 ≤ (t224.length : Int)
                    · rw [if_pos c22] at H
                      have c22b0 := eq_true c22
                      have c22b1 : decide (0 ≤ (t224.length : Int)) = true := decide_eq_true c22
                      clear c22
                      by_cases c23 : (t224.length : Int) ≤ (t232.length : Int)
                      · rw [if_pos c23] at H
                        have c23b0 := eq_true c23
                        have c23b1 : decide ((t224.length : Int) ≤ (t232.length : Int)) = true := decide_eq_true c23
                        clear c23
                        obtain ⟨y236, hy236⟩ : ∃ y_ : List (S30), y_ = (t232.take ((t224.length : Int) : Int).toNat) := ⟨_, rfl⟩
                        replace H : ((tinderref06_Same.f kj6 y236 t224).bind fun t240 => (tinderlaw06_ScanJoins.j1 kj6 a0 t224 t228 t232 (!t240))) = some r := by first | (rw [hy236]; with_reducible exact H) | (have H2_ := (Option.bind_some _ _).symm.trans H; rw [hy236]; with_reducible exact H2_) | (have H2_ := (Option.bind_some _ _).symm.trans H; with_reducible exact H2_) | with_reducible exact H | (rw [hy236]; exact H) | exact H
                        have Ny236 := Aside0.mk hy236
                        clear hy236
                        replace H := Option.bind_eq_some_iff.mp H
                        obtain ⟨t240, A240, H⟩ := H
                        replace H : (tinderlaw06_ScanJoins.j1 kj6 a0 t224 t228 t232 (!t240)) = some r := H
                        have A24 := Aside0.mk A240
                        clear A240
                        have H' := Aside0.mk H
                        clear H
                        obtain ⟨Ao25, co25, eo25⟩ := Kd.R_slice HO235.out
                        subst eo25
                        obtain ⟨Ao26, co26, eo26⟩ := Kd.R_slice HO_5.out
                        subst eo26
                        obtain ⟨Ao27, co27, eo27⟩ := Kd.R_slice HO_7.out
                        subst eo27
                        have q28 : ((t224.length : Int) : Int) ≤ ((t232.length : Int) : Int) := of_decide_eq_true (by first | (with_reducible assumption) | assumption)
                        obtain ⟨i028, hi028, _, hsz28, _⟩ := info_parts info30
                        have hroom28 : t232.length ≤ co25 := (Kd.R_reads' HO235.out).2.1
                        have hC28 : Kd.C k30 _ Ao25 t232.length t232 := (Kd.R_reads' HO235.out).2.2
                        have hcut28 := cut_to (P := Try.prog) 23 30 .i64 Try.underlying23 hi028 Ao25 t232.length co25 (t224.length : Int) (of_decide_eq_true (by first | (with_reducible assumption) | assumption)) q28 hroom28
                        have hr28 := Kd.C_take (m := ((t224.length : Int) : Int).toNat) hC28 (by omega)
                        have hy28 : y236.length = ((t224.length : Int) : Int).toNat := (by rw [Ny236.out, List.length_take]; omega)
                        rw [← Ny236.out] at hr28
                        rw [← hy28] at hcut28
                        have HR239 := Aside0.mk hr28
                        have HC239 := Aside0.mk (show y236.length ≤ co25 from by omega)
                        clear hr28 hC28 hroom28 hi028 hsz28
                        have KY28 := Aside0.mk hy28
                        clear hy28
                        have KL28 := Aside0.mk (show ((t224.length : Int) : Int).toNat ≤ t232.length from by omega)
                        replace q28 := eq_true q28
                        go_wp2_with (first | (go_at_call 11; (with_reducible refine (tinderref06_Same.calls kj6 _ _ y236 _ _ t224 t240 _ ?side1 ?side2 ?side3 ?side4 A24.out).mono ?_); (case side1 => repeat (first | exact (by repeat (first | (with_reducible exact HR239.out) | (with_reducible refine Kd.C_alloc ?_ _) | (with_reducible refine Kd.C_drewN ?_ _) | (with_reducible refine Kd.C_drew ?_) | exact HR239.out)) | (with_reducible refine Kd.C_alloc ?_ _) | (with_reducible refine Kd.C_drewN ?_ _) | (with_reducible refine Kd.C_drew ?_))); (case side2 => exact HC239.out); (case side3 => repeat (first | exact (Kd.R_reads' HO_5.out).2.2 | (with_reducible refine Kd.C_alloc ?_ _) | (with_reducible refine Kd.C_drewN ?_ _) | (with_reducible refine Kd.C_drew ?_))); (case side4 => exact (Kd.R_reads' HO_5.out).2.1); rintro e w' ⟨rfl, ⟨nd, rfl⟩⟩; (try first | exact ⟨rfl, _, World.drewN_drewN _ _ _⟩ | exact ⟨rfl, _, Eq.trans (World.drewN_drewN _ _ _) (congrArg (World.drewN _) (Nat.add_assoc _ _ _))⟩)))
                        repeat (go_quiet (first | (go_at_call 11; (with_reducible refine (tinderref06_Same.calls kj6 _ _ y236 _ _ t224 t240 _ ?side1 ?side2 ?side3 ?side4 A24.out).mono ?_); (case side1 => repeat (first | exact (by repeat (first | (with_reducible exact HR239.out) | (with_reducible refine Kd.C_alloc ?_ _) | (with_reducible refine Kd.C_drewN ?_ _) | (with_reducible refine Kd.C_drew ?_) | exact HR239.out)) | (with_reducible refine Kd.C_alloc ?_ _) | (with_reducible refine Kd.C_drewN ?_ _) | (with_reducible refine Kd.C_drew ?_))); (case side2 => exact HC239.out); (case side3 => repeat (first | exact (Kd.R_reads' HO_5.out).2.2 | (with_reducible refine Kd.C_alloc ?_ _) | (with_reducible refine Kd.C_drewN ?_ _) | (with_reducible refine Kd.C_drew ?_))); (case side4 => exact (Kd.R_reads' HO_5.out).2.1); rintro e w' ⟨rfl, ⟨nd, rfl⟩⟩; (try first | exact ⟨rfl, _, World.drewN_drewN _ _ _⟩ | exact ⟨rfl, _, Eq.trans (World.drewN_drewN _ _ _) (congrArg (World.drewN _) (Nat.add_assoc _ _ _))⟩))); try go_wp2_with (first | (go_at_call 11; (with_reducible refine (tinderref06_Same.calls kj6 _ _ y236 _ _ t224 t240 _ ?side1 ?side2 ?side3 ?side4 A24.out).mono ?_); (case side1 => repeat (first | exact (by repeat (first | (with_reducible exact HR239.out) | (with_reducible refine Kd.C_alloc ?_ _) | (with_reducible refine Kd.C_drewN ?_ _) | (with_reducible refine Kd.C_drew ?_) | exact HR239.out)) | (with_reducible refine Kd.C_alloc ?_ _) | (with_reducible refine Kd.C_drewN ?_ _) | (with_reducible refine Kd.C_drew ?_))); (case side2 => exact HC239.out); (case side3 => repeat (first | exact (Kd.R_reads' HO_5.out).2.2 | (with_reducible refine Kd.C_alloc ?_ _) | (with_reducible refine Kd.C_drewN ?_ _) | (with_reducible refine Kd.C_drew ?_))); (case side4 => exact (Kd.R_reads' HO_5.out).2.1); rintro e w' ⟨rfl, ⟨nd, rfl⟩⟩; (try first | exact ⟨rfl, _, World.drewN_drewN _ _ _⟩ | exact ⟨rfl, _, Eq.trans (World.drewN_drewN _ _ _) (congrArg (World.drewN _) (Nat.add_assoc _ _ _))⟩))))
                        go_meet
                        case rel => exact ⟨_, (!t240), (by first | rfl | (simp; done) | (simp [*]; done) | (simp <;> omega) | (simp [*] <;> omega)), H', ⟨by have := HJ6.out; first | omega | exact Nat.le_refl _⟩, ⟨by (with_reducible repeat (first | apply Kd.R_alloc | apply Kd.R_drewN | apply Kd.R_drew)); exact HO_5.out⟩, ⟨by (with_reducible repeat (first | apply Kd.R_alloc | apply Kd.R_drewN | apply Kd.R_drew)); exact HO_7.out⟩, ⟨by (with_reducible repeat (first | apply Kd.R_alloc | apply Kd.R_drewN | apply Kd.R_drew)); exact Kd.R_mono HO235.out (fun _ hk => ⟨hk.1.2, hk.2⟩)⟩, ⟨by repeat (first | (with_reducible first | exact HB.out | apply below_alloc | apply pw_below_drewN | apply below_drew1) | exact HB.out)⟩⟩
                      · rw [if_neg c23] at H
                        exact absurd H (by simp)
                    · rw [if_neg c22] at H
                      exact absurd H (by simp)
                  · rw [if_neg c21] at H
                    have c21b0 : ((t232.length : Int) == (wrap64 ((t224.length : Int) + (t228.length : Int)))) = false := beq_eq_false_iff_ne.mpr c21
                    have c21b1 : ((t232.length : Int) != (wrap64 ((t224.length : Int) + (t228.length : Int)))) = true := bne_iff_ne.mpr c21
                    have H' := Aside0.mk H
                    clear H
                    obtain ⟨Ao29, co29, eo29⟩ := Kd.R_slice HO235.out
                    subst eo29
                    obtain ⟨Ao30, co30, eo30⟩ := Kd.R_slice HO_5.out
                    subst eo30
                    obtain ⟨Ao31, co31, eo31⟩ := Kd.R_slice HO_7.out
                    subst eo31
                    go_wp2
                    repeat (go_quiet (fail); try go_wp2)
                    go_meet
                    case rel => exact ⟨_, (true), (by first | rfl | (simp; done) | (simp [*]; done) | (simp <;> omega) | (simp [*] <;> omega)), H', ⟨by have := HJ6.out; first | omega | exact Nat.le_refl _⟩, ⟨by (with_reducible repeat (first | apply Kd.R_alloc | apply Kd.R_drewN | apply Kd.R_drew)); exact HO_5.out⟩, ⟨by (with_reducible repeat (first | apply Kd.R_alloc | apply Kd.R_drewN | apply Kd.R_drew)); exact HO_7.out⟩, ⟨by (with_reducible repeat (first | apply Kd.R_alloc | apply Kd.R_drewN | apply Kd.R_drew)); exact Kd.R_mono HO235.out (fun _ hk => ⟨hk.1.2, hk.2⟩)⟩, ⟨by repeat (first | (with_reducible first | exact HB.out | apply below_alloc | apply pw_below_drewN | apply below_drew1) | exact HB.out)⟩⟩
                · rw [if_neg c20] at H
                  have c20b0 : (t233 == 0) = false := beq_eq_false_iff_ne.mpr c20
                  have c20b1 : (t233 != 0) = true := bne_iff_ne.mpr c20
                  (first | rw [c20b0] | (simp only [i64_w, i32_w]; rw [c20b0]) | skip)
                  have H' := Aside0.mk H
                  clear H
                  go_wp2
                  repeat (go_quiet (fail); try go_wp2)
                  go_meet
                  case rel => exact ⟨_, (true), (by first | rfl | (simp; done) | (simp [*]; done) | (simp <;> omega) | (simp [*] <;> omega)), H', ⟨by have := HJ6.out; first | omega | exact Nat.le_refl _⟩, ⟨by (with_reducible repeat (first | apply Kd.R_alloc | apply Kd.R_drewN | apply Kd.R_drew)); exact HO_5.out⟩, ⟨by (with_reducible repeat (first | apply Kd.R_alloc | apply Kd.R_drewN | apply Kd.R_drew)); exact HO_7.out⟩, ⟨by (with_reducible repeat (first | apply Kd.R_alloc | apply Kd.R_drewN | apply Kd.R_drew)); exact Kd.R_mono HO235.out (fun _ hk => ⟨hk.1.2, hk.2⟩)⟩, ⟨by repeat (first | (with_reducible first | exact HB.out | apply below_alloc | apply pw_below_drewN | apply below_drew1) | exact HB.out)⟩⟩
              case rest =>
                clear HC18
                try clear c1
                try clear c2
                try clear p2
                try clear q2
                try clear c4
                try clear p6
                try clear c11
                try clear c11b0
                try clear c11b1
                try clear c12
                try clear c12b0
                try clear c12b1
                try clear c13
                try clear c13b0
                try clear c13b1
                try clear c14
                try clear c15
                try clear c15b0
                try clear c15b1
                try clear c15b2
                try clear c16
                try clear c16b0
                try clear c16b1
                try clear c16b2
                try clear c20
                try clear c20b0
                try clear c20b1
                try clear c21
                try clear c21b0
                try clear c21b1
                try clear c22
                try clear c22b0
                try clear c22b1
                try clear c23
                try clear c23b0
                try clear c23b1
                try clear q28
                try clear p2
                try clear p6
                try clear q28
                obtain ⟨kq, x72_17, rfl, HA, HJ17, HO_5, HO_7, HO_9, HB⟩ := hcut
                cases kq with
                | zero => exact absurd HA.out (by simp [tinderlaw06_ScanJoins.j1])
                | succ kj17 =>
                  have H := HA.out
                  clear HA
                  simp only [tinderlaw06_ScanJoins.j1] at H
                  by_cases c32 : x72_17 = true
                  · subst c32
                    have H1 : (some false) = some r := by rw [if_pos rfl] at H; exact H
                    clear H
                    have H := H1
                    clear H1
                    obtain rfl := Option.some.inj H
                    go_wp2
                    repeat (go_quiet (fail); try go_wp2)
                    go_ret
                    exact ⟨by first | rfl | (simp [errW_none, errW_some] <;> rfl) | (simp [*, errW_none, errW_some] <;> rfl) | (simp [errW_none, errW_some] <;> omega) | (simp [*, errW_none, errW_some] <;> omega), by repeat (first | (with_reducible first | exact HB.out | apply below_alloc | apply pw_below_drewN | apply below_drew1) | exact HB.out)⟩
                  · replace c32 := Bool.eq_false_iff.mpr c32
                    subst c32
                    have H1 : (tinderlaw06_ScanJoins.l0 kj17 a0 t224 t228 t232 0) = some r := by rw [if_neg (show ¬ (false = true) by decide)] at H; exact H
                    clear H
                    have H := H1
                    clear H1
                    have H' := Aside0.mk H
                    clear H
                    go_wp2
                    repeat (go_quiet (fail); try go_wp2)
                    go_loopg [11] kj17 (fun kq v11 w' => ∃ (x11_3 : Int), v11 = .int .i64 x11_3 ∧ Aside0 (tinderlaw06_ScanJoins.l0 kq a0 t224 t228 t232 x11_3 = some r) ∧ Aside0 (kq ≤ kj17) ∧ Aside0 (Kd.R k30 30 w' w.heap.size (fun k_ => some k_ ≠ (v230 : Value).ownBlock ∧ some k_ ≠ (v234 : Value).ownBlock) v226 t224) ∧ Aside0 (Kd.R k30 30 w' w.heap.size (fun k_ => some k_ ≠ (v226 : Value).ownBlock ∧ some k_ ≠ (v234 : Value).ownBlock) v230 t228) ∧ Aside0 (Kd.R k30 30 w' w.heap.size (fun k_ => some k_ ≠ (v226 : Value).ownBlock ∧ some k_ ≠ (v230 : Value).ownBlock) v234 t232) ∧ Aside0 (Below w.heap.size w w'))
                    case atStart => exact ⟨(0), (by first | rfl | (simp; done) | (simp [*]; done) | (simp <;> omega) | (simp [*] <;> omega)), H', ⟨Nat.le_refl _⟩, ⟨by (with_reducible repeat (first | apply Kd.R_alloc | apply Kd.R_drewN | apply Kd.R_drew)); exact HO_5.out⟩, ⟨by (with_reducible repeat (first | apply Kd.R_alloc | apply Kd.R_drewN | apply Kd.R_drew)); exact HO_7.out⟩, ⟨by (with_reducible repeat (first | apply Kd.R_alloc | apply Kd.R_drewN | apply Kd.R_drew)); exact HO_9.out⟩, ⟨by repeat (first | (with_reducible first | exact HB.out | apply below_alloc | apply pw_below_drewN | apply below_drew1) | exact HB.out)⟩⟩
                    case round =>
                      clear H'
                      try clear c1
                      try clear c2
                      try clear p2
                      try clear q2
                      try clear c3
                      try clear c4
                      try clear p6
                      try clear c11
                      try clear c11b0
                      try clear c11b1
                      try clear c12
                      try clear c12b0
                      try clear c12b1
                      try clear c13
                      try clear c13b0
                      try clear c13b1
                      try clear c14
                      try clear c15
                      try clear c15b0
                      try clear c15b1
                      try clear c15b2
                      try clear c16
                      try clear c16b0
                      try clear c16b1
                      try clear c16b2
                      try clear c20
                      try clear c20b0
                      try clear c20b1
                      try clear c21
                      try clear c21b0
                      try clear c21b1
                      try clear c22
                      try clear c22b0
                      try clear c22b1
                      try clear c23
                      try clear c23b0
                      try clear c23b1
                      try clear q28
                      try clear c32
                      try clear p2
                      try clear p6
                      try clear q2
                      try clear q28
                      obtain ⟨x11_3, rfl, HA, HK3, HO_5, HO_7, HO_9, HB⟩ := hrel
                      cases gk with
                      | zero => exact absurd HA.out (by simp [tinderlaw06_ScanJoins.l0])
                      | succ k3 =>
                        have H := HA.out
                        clear HA
                        simp only [tinderlaw06_ScanJoins.l0] at H
                        by_cases c33 : x11_3 < (t228.length : Int)
                        · rw [if_pos c33] at H
                          have c33b0 : decide (x11_3 < (t228.length : Int)) = true := decide_eq_true c33
                          clear c33
                          obtain ⟨ji34, hji34⟩ : ∃ j_ : Int, (wrap64 ((t224.length : Int) + x11_3)) = j_ := ⟨_, rfl⟩
                          replace H : (if 0 ≤ (ji34) then (if (ji34) < (t232.length : Int) then (if 0 ≤ x11_3 then (if (!(((rd_T30 t232 (ji34)).f0) == ((rd_T30 t228 x11_3).f0)) || (!((((rd_T30 t232 (ji34)).f1).toList) == (((rd_T30 t228 x11_3).f1).toList)) || (!((wrap64 ((wrap64 (((rd_T30 t232 (ji34)).f2) - (a0.size : Int))) - 1)) == ((rd_T30 t228 x11_3).f2))))) = true then (some false) else (tinderlaw06_ScanJoins.l0 k3 a0 t224 t228 t232 (wrap64 (x11_3 + 1)))) else (none)) else (none)) else (none)) = some r := by first | (rw [hji34] at H; exact H) | (simp only [hji34] at H ⊢; exact H)
                          have hji34w : (IntKind.i64.wrap ((t224.length : Int) + x11_3)) = ji34 := (i64_w _).trans hji34
                          by_cases c35 : 0 ≤ (ji34)
                          · rw [if_pos c35] at H
                            have c35b0 : decide (0 ≤ (ji34)) = true := decide_eq_true c35
                            clear c35
                            by_cases c36 : (ji34) < (t232.length : Int)
                            · rw [if_pos c36] at H
                              have c36b0 : decide ((ji34) < (t232.length : Int)) = true := decide_eq_true c36
                              clear c36
                              by_cases c37 : 0 ≤ x11_3
                              · rw [if_pos c37] at H
                                have c37b0 : decide (0 ≤ x11_3) = true := decide_eq_true c37
                                clear c37
                                by_cases c38 : (!(((rd_T30 t232 (ji34)).f0) == ((rd_T30 t228 x11_3).f0)) || (!((((rd_T30 t232 (ji34)).f1).toList) == (((rd_T30 t228 x11_3).f1).toList)) || (!((wrap64 ((wrap64 (((rd_T30 t232 (ji34)).f2) - (a0.size : Int))) - 1)) == ((rd_T30 t228 x11_3).f2))))) = true
                                · rw [if_pos c38] at H
                                  have c38b0 : (!(((rd_T30 t232 (ji34)).f0) == ((rd_T30 t228 x11_3).f0)) || (!((((rd_T30 t232 (ji34)).f1).toList) == (((rd_T30 t228 x11_3).f1).toList)) || (!((wrap64 ((wrap64 (((rd_T30 t232 (ji34)).f2) - (a0.size : Int))) - 1)) == ((rd_T30 t228 x11_3).f2))))) = true := c38
                                  clear c38
                                  obtain rfl := Option.some.inj H
                                  obtain ⟨Ao39, co39, eo39⟩ := Kd.R_slice HO_7.out
                                  subst eo39
                                  obtain ⟨Ao40, co40, eo40⟩ := Kd.R_slice HO_5.out
                                  subst eo40
                                  obtain ⟨Ao41, co41, eo41⟩ := Kd.R_slice HO_9.out
                                  subst eo41
                                  have p241 : 0 ≤ ((ji34) : Int) := of_decide_eq_true (by first | (with_reducible assumption) | assumption)
                                  have q241 : (ji34) < (t232.length : Int) := of_decide_eq_true (by first | (with_reducible assumption) | assumption)
                                  obtain ⟨ad241, e241, hx241_0, hx241_1, hx241_2⟩ := at_T30 (Kd.R_reads' HO_9.out).2.2 (ji34) p241 q241
                                  cases e241
                                  replace p241 := eq_true p241
                                  replace q241 := eq_true q241
                                  go_wp2_with (first | ((with_reducible refine gate_dst (N := 12) rfl ?_); (try (refine gate_guard (by rfl) ?_; dsimp only)); refine box_event ?hg (N := 12) ?hd (cs := #[.int .i64 0, .string (⟨#[]⟩ : ByteArray), .int .i64 0]) (t := 30) ?hr ?_; (case hd => rfl); (case hg => rfl); (case hr => first | (go_simp; done) | (go_simp; rfl)); intro gb242 hg w42 hbox hb; have n0_ := Aside0.mk (Kd.R_below (Kd.R_elderB (by (with_reducible repeat (first | apply Kd.R_alloc | apply Kd.R_drewN | apply Kd.R_drew)); exact HO_5.out) gb242 (Nat.le_of_eq hg.symm)) hb); have n1_ := Aside0.mk (Kd.R_below (Kd.R_elderB (by (with_reducible repeat (first | apply Kd.R_alloc | apply Kd.R_drewN | apply Kd.R_drew)); exact HO_7.out) gb242 (Nat.le_of_eq hg.symm)) hb); have n2_ := Aside0.mk (Kd.R_below (Kd.R_elderB (by (with_reducible repeat (first | apply Kd.R_alloc | apply Kd.R_drewN | apply Kd.R_drew)); exact HO_9.out) gb242 (Nat.le_of_eq hg.symm)) hb); have n3_ := Aside0.mk (below_step (by repeat (first | (with_reducible first | exact HB.out | apply below_alloc | apply pw_below_drewN | apply below_drew1) | exact HB.out)) hb); have n4_ := Aside0.mk (hbox); have n5_ := Aside0.mk ((by rw [hg]; exact (below_size (by repeat (first | (with_reducible first | exact HB.out | apply below_alloc | apply pw_below_drewN | apply below_drew1) | exact HB.out))) : w.heap.size ≤ gb242)); have n6_ := Aside0.mk ((by rw [hg]; exact (below_size (by repeat (first | (with_reducible first | exact HB.out | apply below_alloc | apply pw_below_drewN | apply below_drew1) | exact HB.out))) : w.heap.size ≤ gb242)); clear HO_5; clear HO_7; clear HO_9; clear HB; have HO_5 := n0_; have HO_7 := n1_; have HO_9 := n2_; have HB := n3_; have BK242 := n4_; have GW242 := n5_; have GE242 := n6_; clear n0_ n1_ n2_ n3_ n4_ n5_ n6_; clear hb hbox hg; have hcz43_0 : w42.cell? ⟨gb242, 0, none⟩ = some (.int .i64 0) := (blk_cell BK242.out 0).trans rfl; have hcz43_1 : w42.cell? ⟨gb242, 1, none⟩ = some (.string (⟨#[]⟩ : ByteArray)) := (blk_cell BK242.out 1).trans rfl; have hcz43_2 : w42.cell? ⟨gb242, 2, none⟩ = some (.int .i64 0) := (blk_cell BK242.out 2).trans rfl; have hfz43_0 := blk_frozen BK242.out 0; have hfz43_1 := blk_frozen BK242.out 1; have hfz43_2 := blk_frozen BK242.out 2; have p243 : 0 ≤ (x11_3 : Int) := of_decide_eq_true (by first | (with_reducible assumption) | assumption); have q243 : x11_3 < (t228.length : Int) := of_decide_eq_true (by first | (with_reducible assumption) | assumption); obtain ⟨ad243, e243, hx243_0, hx243_1, hx243_2⟩ := at_T30 (Kd.R_reads' HO_7.out).2.2 x11_3 p243 q243; cases e243; have hn243_0 : ad243.block ≠ gb242 := (by first | exact Kd.own_blk (Kd.R_ne HO_7.out BK242.out (by decide)) | exact Kd.own_blk (fun e_ => (HO_7.out.1 _ e_.symm).2 rfl) | exact Kd.own_blk (fun e_ => (HO_7.out.1 _ e_.symm).1.2 rfl)); have hn243_1 : ad243.block ≠ gb242 := (by first | exact Kd.own_blk (Kd.R_ne HO_7.out BK242.out (by decide)) | exact Kd.own_blk (fun e_ => (HO_7.out.1 _ e_.symm).2 rfl) | exact Kd.own_blk (fun e_ => (HO_7.out.1 _ e_.symm).1.2 rfl)); have hn243_2 : ad243.block ≠ gb242 := (by first | exact Kd.own_blk (Kd.R_ne HO_7.out BK242.out (by decide)) | exact Kd.own_blk (fun e_ => (HO_7.out.1 _ e_.symm).2 rfl) | exact Kd.own_blk (fun e_ => (HO_7.out.1 _ e_.symm).1.2 rfl)); have hn243_3 : ad243.block ≠ gb242 := (by first | exact Kd.own_blk (Kd.R_ne HO_7.out BK242.out (by decide)) | exact Kd.own_blk (fun e_ => (HO_7.out.1 _ e_.symm).2 rfl) | exact Kd.own_blk (fun e_ => (HO_7.out.1 _ e_.symm).1.2 rfl)); replace hx243_0 := (cell_far (p := ⟨gb242, 0, none⟩) (by first | (rw [add_block]; exact hn243_0) | (show (Addr.add _ _).block ≠ _; rw [add_block]; exact hn243_0) | exact hn243_0) (.int .i64 ((rd_T30 t232 (ji34)).f0))).trans hx243_0; replace hx243_1 := (cell_far (p := ⟨gb242, 0, none⟩) (by first | (rw [add_block]; exact hn243_0) | (show (Addr.add _ _).block ≠ _; rw [add_block]; exact hn243_0) | exact hn243_0) (.int .i64 ((rd_T30 t232 (ji34)).f0))).trans hx243_1; replace hx243_2 := (cell_far (p := ⟨gb242, 0, none⟩) (by first | (rw [add_block]; exact hn243_0) | (show (Addr.add _ _).block ≠ _; rw [add_block]; exact hn243_0) | exact hn243_0) (.int .i64 ((rd_T30 t232 (ji34)).f0))).trans hx243_2; replace hx243_0 := (cell_far (p := ⟨gb242, 1, none⟩) (by first | (rw [add_block]; exact hn243_1) | (show (Addr.add _ _).block ≠ _; rw [add_block]; exact hn243_1) | exact hn243_1) (.string ((rd_T30 t232 (ji34)).f1))).trans hx243_0; replace hx243_1 := (cell_far (p := ⟨gb242, 1, none⟩) (by first | (rw [add_block]; exact hn243_1) | (show (Addr.add _ _).block ≠ _; rw [add_block]; exact hn243_1) | exact hn243_1) (.string ((rd_T30 t232 (ji34)).f1))).trans hx243_1; replace hx243_2 := (cell_far (p := ⟨gb242, 1, none⟩) (by first | (rw [add_block]; exact hn243_1) | (show (Addr.add _ _).block ≠ _; rw [add_block]; exact hn243_1) | exact hn243_1) (.string ((rd_T30 t232 (ji34)).f1))).trans hx243_2; replace hx243_0 := (cell_far (p := ⟨gb242, 2, none⟩) (by first | (rw [add_block]; exact hn243_2) | (show (Addr.add _ _).block ≠ _; rw [add_block]; exact hn243_2) | exact hn243_2) (.int .i64 ((rd_T30 t232 (ji34)).f2))).trans hx243_0; replace hx243_1 := (cell_far (p := ⟨gb242, 2, none⟩) (by first | (rw [add_block]; exact hn243_2) | (show (Addr.add _ _).block ≠ _; rw [add_block]; exact hn243_2) | exact hn243_2) (.int .i64 ((rd_T30 t232 (ji34)).f2))).trans hx243_1; replace hx243_2 := (cell_far (p := ⟨gb242, 2, none⟩) (by first | (rw [add_block]; exact hn243_2) | (show (Addr.add _ _).block ≠ _; rw [add_block]; exact hn243_2) | exact hn243_2) (.int .i64 ((rd_T30 t232 (ji34)).f2))).trans hx243_2; replace hx243_0 := (cell_far (p := ⟨gb242, 2, none⟩) (by first | (rw [add_block]; exact hn243_3) | (show (Addr.add _ _).block ≠ _; rw [add_block]; exact hn243_3) | exact hn243_3) (.int .i64 (wrap64 ((wrap64 (((rd_T30 t232 (ji34)).f2) - (a0.size : Int))) - 1)))).trans hx243_0; replace hx243_1 := (cell_far (p := ⟨gb242, 2, none⟩) (by first | (rw [add_block]; exact hn243_3) | (show (Addr.add _ _).block ≠ _; rw [add_block]; exact hn243_3) | exact hn243_3) (.int .i64 (wrap64 ((wrap64 (((rd_T30 t232 (ji34)).f2) - (a0.size : Int))) - 1)))).trans hx243_1; replace hx243_2 := (cell_far (p := ⟨gb242, 2, none⟩) (by first | (rw [add_block]; exact hn243_3) | (show (Addr.add _ _).block ≠ _; rw [add_block]; exact hn243_3) | exact hn243_3) (.int .i64 (wrap64 ((wrap64 (((rd_T30 t232 (ji34)).f2) - (a0.size : Int))) - 1)))).trans hx243_2; (try have hy243_0 := fun (n_ : Nat) => (show ((((((w42.drewN n_).setCell ⟨gb242, 0, none⟩ (.int .i64 ((rd_T30 t232 (ji34)).f0))).setCell ⟨gb242, 1, none⟩ (.string ((rd_T30 t232 (ji34)).f1))).setCell ⟨gb242, 2, none⟩ (.int .i64 ((rd_T30 t232 (ji34)).f2))).setCell ⟨gb242, 2, none⟩ (.int .i64 (wrap64 ((wrap64 (((rd_T30 t232 (ji34)).f2) - (a0.size : Int))) - 1))))).cell? _ = some _ from hx243_0)); (try have hy243_1 := fun (n_ : Nat) => (show ((((((w42.drewN n_).setCell ⟨gb242, 0, none⟩ (.int .i64 ((rd_T30 t232 (ji34)).f0))).setCell ⟨gb242, 1, none⟩ (.string ((rd_T30 t232 (ji34)).f1))).setCell ⟨gb242, 2, none⟩ (.int .i64 ((rd_T30 t232 (ji34)).f2))).setCell ⟨gb242, 2, none⟩ (.int .i64 (wrap64 ((wrap64 (((rd_T30 t232 (ji34)).f2) - (a0.size : Int))) - 1))))).cell? _ = some _ from hx243_1)); (try have hy243_2 := fun (n_ : Nat) => (show ((((((w42.drewN n_).setCell ⟨gb242, 0, none⟩ (.int .i64 ((rd_T30 t232 (ji34)).f0))).setCell ⟨gb242, 1, none⟩ (.string ((rd_T30 t232 (ji34)).f1))).setCell ⟨gb242, 2, none⟩ (.int .i64 ((rd_T30 t232 (ji34)).f2))).setCell ⟨gb242, 2, none⟩ (.int .i64 (wrap64 ((wrap64 (((rd_T30 t232 (ji34)).f2) - (a0.size : Int))) - 1))))).cell? _ = some _ from hx243_2)); clear hn243_0; clear hn243_1; clear hn243_2; clear hn243_3; replace p243 := eq_true p243; replace q243 := eq_true q243))
                                  have BZ_ := (blk_put (blk_put (blk_put (blk_put BK242.out 0 (.int .i64 ((rd_T30 t232 (ji34)).f0)) rfl) 1 (.string ((rd_T30 t232 (ji34)).f1)) rfl) 2 (.int .i64 ((rd_T30 t232 (ji34)).f2)) rfl) 2 (.int .i64 (wrap64 ((wrap64 (((rd_T30 t232 (ji34)).f2) - (a0.size : Int))) - 1))) rfl)
                                  have hz0_ : ((((w42.setCell ⟨gb242, 0, none⟩ (.int .i64 ((rd_T30 t232 (ji34)).f0))).setCell ⟨gb242, 1, none⟩ (.string ((rd_T30 t232 (ji34)).f1))).setCell ⟨gb242, 2, none⟩ (.int .i64 ((rd_T30 t232 (ji34)).f2))).setCell ⟨gb242, 2, none⟩ (.int .i64 (wrap64 ((wrap64 (((rd_T30 t232 (ji34)).f2) - (a0.size : Int))) - 1)))).cell? ⟨gb242, 0, none⟩ = some (.int .i64 ((rd_T30 t232 (ji34)).f0)) := (blk_cell BZ_ 0).trans rfl
                                  have hzn0_ := fun (n_ : Nat) => (show (((((w42.drewN n_).setCell ⟨gb242, 0, none⟩ (.int .i64 ((rd_T30 t232 (ji34)).f0))).setCell ⟨gb242, 1, none⟩ (.string ((rd_T30 t232 (ji34)).f1))).setCell ⟨gb242, 2, none⟩ (.int .i64 ((rd_T30 t232 (ji34)).f2))).setCell ⟨gb242, 2, none⟩ (.int .i64 (wrap64 ((wrap64 (((rd_T30 t232 (ji34)).f2) - (a0.size : Int))) - 1)))).cell? ⟨gb242, 0, none⟩ = some (.int .i64 ((rd_T30 t232 (ji34)).f0)) from hz0_)
                                  have hz1_ : ((((w42.setCell ⟨gb242, 0, none⟩ (.int .i64 ((rd_T30 t232 (ji34)).f0))).setCell ⟨gb242, 1, none⟩ (.string ((rd_T30 t232 (ji34)).f1))).setCell ⟨gb242, 2, none⟩ (.int .i64 ((rd_T30 t232 (ji34)).f2))).setCell ⟨gb242, 2, none⟩ (.int .i64 (wrap64 ((wrap64 (((rd_T30 t232 (ji34)).f2) - (a0.size : Int))) - 1)))).cell? ⟨gb242, 1, none⟩ = some (.string ((rd_T30 t232 (ji34)).f1)) := (blk_cell BZ_ 1).trans rfl
                                  have hzn1_ := fun (n_ : Nat) => (show (((((w42.drewN n_).setCell ⟨gb242, 0, none⟩ (.int .i64 ((rd_T30 t232 (ji34)).f0))).setCell ⟨gb242, 1, none⟩ (.string ((rd_T30 t232 (ji34)).f1))).setCell ⟨gb242, 2, none⟩ (.int .i64 ((rd_T30 t232 (ji34)).f2))).setCell ⟨gb242, 2, none⟩ (.int .i64 (wrap64 ((wrap64 (((rd_T30 t232 (ji34)).f2) - (a0.size : Int))) - 1)))).cell? ⟨gb242, 1, none⟩ = some (.string ((rd_T30 t232 (ji34)).f1)) from hz1_)
                                  have hz2_ : ((((w42.setCell ⟨gb242, 0, none⟩ (.int .i64 ((rd_T30 t232 (ji34)).f0))).setCell ⟨gb242, 1, none⟩ (.string ((rd_T30 t232 (ji34)).f1))).setCell ⟨gb242, 2, none⟩ (.int .i64 ((rd_T30 t232 (ji34)).f2))).setCell ⟨gb242, 2, none⟩ (.int .i64 (wrap64 ((wrap64 (((rd_T30 t232 (ji34)).f2) - (a0.size : Int))) - 1)))).cell? ⟨gb242, 2, none⟩ = some (.int .i64 (wrap64 ((wrap64 (((rd_T30 t232 (ji34)).f2) - (a0.size : Int))) - 1))) := (blk_cell BZ_ 2).trans rfl
                                  have hzn2_ := fun (n_ : Nat) => (show (((((w42.drewN n_).setCell ⟨gb242, 0, none⟩ (.int .i64 ((rd_T30 t232 (ji34)).f0))).setCell ⟨gb242, 1, none⟩ (.string ((rd_T30 t232 (ji34)).f1))).setCell ⟨gb242, 2, none⟩ (.int .i64 ((rd_T30 t232 (ji34)).f2))).setCell ⟨gb242, 2, none⟩ (.int .i64 (wrap64 ((wrap64 (((rd_T30 t232 (ji34)).f2) - (a0.size : Int))) - 1)))).cell? ⟨gb242, 2, none⟩ = some (.int .i64 (wrap64 ((wrap64 (((rd_T30 t232 (ji34)).f2) - (a0.size : Int))) - 1))) from hz2_)
                                  clear BZ_
                                  (try clear hcz43_0); (try clear hcz43_1); (try clear hcz43_2)
                                  repeat (go_quiet (first | ((with_reducible refine gate_dst (N := 12) rfl ?_); (try (refine gate_guard (by rfl) ?_; dsimp only)); refine box_event ?hg (N := 12) ?hd (cs := #[.int .i64 0, .string (⟨#[]⟩ : ByteArray), .int .i64 0]) (t := 30) ?hr ?_; (case hd => rfl); (case hg => rfl); (case hr => first | (go_simp; done) | (go_simp; rfl)); intro gb242 hg w42 hbox hb; have n0_ := Aside0.mk (Kd.R_below (Kd.R_elderB (by (with_reducible repeat (first | apply Kd.R_alloc | apply Kd.R_drewN | apply Kd.R_drew)); exact HO_5.out) gb242 (Nat.le_of_eq hg.symm)) hb); have n1_ := Aside0.mk (Kd.R_below (Kd.R_elderB (by (with_reducible repeat (first | apply Kd.R_alloc | apply Kd.R_drewN | apply Kd.R_drew)); exact HO_7.out) gb242 (Nat.le_of_eq hg.symm)) hb); have n2_ := Aside0.mk (Kd.R_below (Kd.R_elderB (by (with_reducible repeat (first | apply Kd.R_alloc | apply Kd.R_drewN | apply Kd.R_drew)); exact HO_9.out) gb242 (Nat.le_of_eq hg.symm)) hb); have n3_ := Aside0.mk (below_step (by repeat (first | (with_reducible first | exact HB.out | apply below_alloc | apply pw_below_drewN | apply below_drew1) | exact HB.out)) hb); have n4_ := Aside0.mk (hbox); have n5_ := Aside0.mk ((by rw [hg]; exact (below_size (by repeat (first | (with_reducible first | exact HB.out | apply below_alloc | apply pw_below_drewN | apply below_drew1) | exact HB.out))) : w.heap.size ≤ gb242)); have n6_ := Aside0.mk ((by rw [hg]; exact (below_size (by repeat (first | (with_reducible first | exact HB.out | apply below_alloc | apply pw_below_drewN | apply below_drew1) | exact HB.out))) : w.heap.size ≤ gb242)); clear HO_5; clear HO_7; clear HO_9; clear HB; have HO_5 := n0_; have HO_7 := n1_; have HO_9 := n2_; have HB := n3_; have BK242 := n4_; have GW242 := n5_; have GE242 := n6_; clear n0_ n1_ n2_ n3_ n4_ n5_ n6_; clear hb hbox hg; have hcz43_0 : w42.cell? ⟨gb242, 0, none⟩ = some (.int .i64 0) := (blk_cell BK242.out 0).trans rfl; have hcz43_1 : w42.cell? ⟨gb242, 1, none⟩ = some (.string (⟨#[]⟩ : ByteArray)) := (blk_cell BK242.out 1).trans rfl; have hcz43_2 : w42.cell? ⟨gb242, 2, none⟩ = some (.int .i64 0) := (blk_cell BK242.out 2).trans rfl; have hfz43_0 := blk_frozen BK242.out 0; have hfz43_1 := blk_frozen BK242.out 1; have hfz43_2 := blk_frozen BK242.out 2; have p243 : 0 ≤ (x11_3 : Int) := of_decide_eq_true (by first | (with_reducible assumption) | assumption); have q243 : x11_3 < (t228.length : Int) := of_decide_eq_true (by first | (with_reducible assumption) | assumption); obtain ⟨ad243, e243, hx243_0, hx243_1, hx243_2⟩ := at_T30 (Kd.R_reads' HO_7.out).2.2 x11_3 p243 q243; cases e243; have hn243_0 : ad243.block ≠ gb242 := (by first | exact Kd.own_blk (Kd.R_ne HO_7.out BK242.out (by decide)) | exact Kd.own_blk (fun e_ => (HO_7.out.1 _ e_.symm).2 rfl) | exact Kd.own_blk (fun e_ => (HO_7.out.1 _ e_.symm).1.2 rfl)); have hn243_1 : ad243.block ≠ gb242 := (by first | exact Kd.own_blk (Kd.R_ne HO_7.out BK242.out (by decide)) | exact Kd.own_blk (fun e_ => (HO_7.out.1 _ e_.symm).2 rfl) | exact Kd.own_blk (fun e_ => (HO_7.out.1 _ e_.symm).1.2 rfl)); have hn243_2 : ad243.block ≠ gb242 := (by first | exact Kd.own_blk (Kd.R_ne HO_7.out BK242.out (by decide)) | exact Kd.own_blk (fun e_ => (HO_7.out.1 _ e_.symm).2 rfl) | exact Kd.own_blk (fun e_ => (HO_7.out.1 _ e_.symm).1.2 rfl)); have hn243_3 : ad243.block ≠ gb242 := (by first | exact Kd.own_blk (Kd.R_ne HO_7.out BK242.out (by decide)) | exact Kd.own_blk (fun e_ => (HO_7.out.1 _ e_.symm).2 rfl) | exact Kd.own_blk (fun e_ => (HO_7.out.1 _ e_.symm).1.2 rfl)); replace hx243_0 := (cell_far (p := ⟨gb242, 0, none⟩) (by first | (rw [add_block]; exact hn243_0) | (show (Addr.add _ _).block ≠ _; rw [add_block]; exact hn243_0) | exact hn243_0) (.int .i64 ((rd_T30 t232 (ji34)).f0))).trans hx243_0; replace hx243_1 := (cell_far (p := ⟨gb242, 0, none⟩) (by first | (rw [add_block]; exact hn243_0) | (show (Addr.add _ _).block ≠ _; rw [add_block]; exact hn243_0) | exact hn243_0) (.int .i64 ((rd_T30 t232 (ji34)).f0))).trans hx243_1; replace hx243_2 := (cell_far (p := ⟨gb242, 0, none⟩) (by first | (rw [add_block]; exact hn243_0) | (show (Addr.add _ _).block ≠ _; rw [add_block]; exact hn243_0) | exact hn243_0) (.int .i64 ((rd_T30 t232 (ji34)).f0))).trans hx243_2; replace hx243_0 := (cell_far (p := ⟨gb242, 1, none⟩) (by first | (rw [add_block]; exact hn243_1) | (show (Addr.add _ _).block ≠ _; rw [add_block]; exact hn243_1) | exact hn243_1) (.string ((rd_T30 t232 (ji34)).f1))).trans hx243_0; replace hx243_1 := (cell_far (p := ⟨gb242, 1, none⟩) (by first | (rw [add_block]; exact hn243_1) | (show (Addr.add _ _).block ≠ _; rw [add_block]; exact hn243_1) | exact hn243_1) (.string ((rd_T30 t232 (ji34)).f1))).trans hx243_1; replace hx243_2 := (cell_far (p := ⟨gb242, 1, none⟩) (by first | (rw [add_block]; exact hn243_1) | (show (Addr.add _ _).block ≠ _; rw [add_block]; exact hn243_1) | exact hn243_1) (.string ((rd_T30 t232 (ji34)).f1))).trans hx243_2; replace hx243_0 := (cell_far (p := ⟨gb242, 2, none⟩) (by first | (rw [add_block]; exact hn243_2) | (show (Addr.add _ _).block ≠ _; rw [add_block]; exact hn243_2) | exact hn243_2) (.int .i64 ((rd_T30 t232 (ji34)).f2))).trans hx243_0; replace hx243_1 := (cell_far (p := ⟨gb242, 2, none⟩) (by first | (rw [add_block]; exact hn243_2) | (show (Addr.add _ _).block ≠ _; rw [add_block]; exact hn243_2) | exact hn243_2) (.int .i64 ((rd_T30 t232 (ji34)).f2))).trans hx243_1; replace hx243_2 := (cell_far (p := ⟨gb242, 2, none⟩) (by first | (rw [add_block]; exact hn243_2) | (show (Addr.add _ _).block ≠ _; rw [add_block]; exact hn243_2) | exact hn243_2) (.int .i64 ((rd_T30 t232 (ji34)).f2))).trans hx243_2; replace hx243_0 := (cell_far (p := ⟨gb242, 2, none⟩) (by first | (rw [add_block]; exact hn243_3) | (show (Addr.add _ _).block ≠ _; rw [add_block]; exact hn243_3) | exact hn243_3) (.int .i64 (wrap64 ((wrap64 (((rd_T30 t232 (ji34)).f2) - (a0.size : Int))) - 1)))).trans hx243_0; replace hx243_1 := (cell_far (p := ⟨gb242, 2, none⟩) (by first | (rw [add_block]; exact hn243_3) | (show (Addr.add _ _).block ≠ _; rw [add_block]; exact hn243_3) | exact hn243_3) (.int .i64 (wrap64 ((wrap64 (((rd_T30 t232 (ji34)).f2) - (a0.size : Int))) - 1)))).trans hx243_1; replace hx243_2 := (cell_far (p := ⟨gb242, 2, none⟩) (by first | (rw [add_block]; exact hn243_3) | (show (Addr.add _ _).block ≠ _; rw [add_block]; exact hn243_3) | exact hn243_3) (.int .i64 (wrap64 ((wrap64 (((rd_T30 t232 (ji34)).f2) - (a0.size : Int))) - 1)))).trans hx243_2; (try have hy243_0 := fun (n_ : Nat) => (show ((((((w42.drewN n_).setCell ⟨gb242, 0, none⟩ (.int .i64 ((rd_T30 t232 (ji34)).f0))).setCell ⟨gb242, 1, none⟩ (.string ((rd_T30 t232 (ji34)).f1))).setCell ⟨gb242, 2, none⟩ (.int .i64 ((rd_T30 t232 (ji34)).f2))).setCell ⟨gb242, 2, none⟩ (.int .i64 (wrap64 ((wrap64 (((rd_T30 t232 (ji34)).f2) - (a0.size : Int))) - 1))))).cell? _ = some _ from hx243_0)); (try have hy243_1 := fun (n_ : Nat) => (show ((((((w42.drewN n_).setCell ⟨gb242, 0, none⟩ (.int .i64 ((rd_T30 t232 (ji34)).f0))).setCell ⟨gb242, 1, none⟩ (.string ((rd_T30 t232 (ji34)).f1))).setCell ⟨gb242, 2, none⟩ (.int .i64 ((rd_T30 t232 (ji34)).f2))).setCell ⟨gb242, 2, none⟩ (.int .i64 (wrap64 ((wrap64 (((rd_T30 t232 (ji34)).f2) - (a0.size : Int))) - 1))))).cell? _ = some _ from hx243_1)); (try have hy243_2 := fun (n_ : Nat) => (show ((((((w42.drewN n_).setCell ⟨gb242, 0, none⟩ (.int .i64 ((rd_T30 t232 (ji34)).f0))).setCell ⟨gb242, 1, none⟩ (.string ((rd_T30 t232 (ji34)).f1))).setCell ⟨gb242, 2, none⟩ (.int .i64 ((rd_T30 t232 (ji34)).f2))).setCell ⟨gb242, 2, none⟩ (.int .i64 (wrap64 ((wrap64 (((rd_T30 t232 (ji34)).f2) - (a0.size : Int))) - 1))))).cell? _ = some _ from hx243_2)); clear hn243_0; clear hn243_1; clear hn243_2; clear hn243_3; replace p243 := eq_true p243; replace q243 := eq_true q243)); try go_wp2_with (first | ((with_reducible refine gate_dst (N := 12) rfl ?_); (try (refine gate_guard (by rfl) ?_; dsimp only)); refine box_event ?hg (N := 12) ?hd (cs := #[.int .i64 0, .string (⟨#[]⟩ : ByteArray), .int .i64 0]) (t := 30) ?hr ?_; (case hd => rfl); (case hg => rfl); (case hr => first | (go_simp; done) | (go_simp; rfl)); intro gb242 hg w42 hbox hb; have n0_ := Aside0.mk (Kd.R_below (Kd.R_elderB (by (with_reducible repeat (first | apply Kd.R_alloc | apply Kd.R_drewN | apply Kd.R_drew)); exact HO_5.out) gb242 (Nat.le_of_eq hg.symm)) hb); have n1_ := Aside0.mk (Kd.R_below (Kd.R_elderB (by (with_reducible repeat (first | apply Kd.R_alloc | apply Kd.R_drewN | apply Kd.R_drew)); exact HO_7.out) gb242 (Nat.le_of_eq hg.symm)) hb); have n2_ := Aside0.mk (Kd.R_below (Kd.R_elderB (by (with_reducible repeat (first | apply Kd.R_alloc | apply Kd.R_drewN | apply Kd.R_drew)); exact HO_9.out) gb242 (Nat.le_of_eq hg.symm)) hb); have n3_ := Aside0.mk (below_step (by repeat (first | (with_reducible first | exact HB.out | apply below_alloc | apply pw_below_drewN | apply below_drew1) | exact HB.out)) hb); have n4_ := Aside0.mk (hbox); have n5_ := Aside0.mk ((by rw [hg]; exact (below_size (by repeat (first | (with_reducible first | exact HB.out | apply below_alloc | apply pw_below_drewN | apply below_drew1) | exact HB.out))) : w.heap.size ≤ gb242)); have n6_ := Aside0.mk ((by rw [hg]; exact (below_size (by repeat (first | (with_reducible first | exact HB.out | apply below_alloc | apply pw_below_drewN | apply below_drew1) | exact HB.out))) : w.heap.size ≤ gb242)); clear HO_5; clear HO_7; clear HO_9; clear HB; have HO_5 := n0_; have HO_7 := n1_; have HO_9 := n2_; have HB := n3_; have BK242 := n4_; have GW242 := n5_; have GE242 := n6_; clear n0_ n1_ n2_ n3_ n4_ n5_ n6_; clear hb hbox hg; have hcz43_0 : w42.cell? ⟨gb242, 0, none⟩ = some (.int .i64 0) := (blk_cell BK242.out 0).trans rfl; have hcz43_1 : w42.cell? ⟨gb242, 1, none⟩ = some (.string (⟨#[]⟩ : ByteArray)) := (blk_cell BK242.out 1).trans rfl; have hcz43_2 : w42.cell? ⟨gb242, 2, none⟩ = some (.int .i64 0) := (blk_cell BK242.out 2).trans rfl; have hfz43_0 := blk_frozen BK242.out 0; have hfz43_1 := blk_frozen BK242.out 1; have hfz43_2 := blk_frozen BK242.out 2; have p243 : 0 ≤ (x11_3 : Int) := of_decide_eq_true (by first | (with_reducible assumption) | assumption); have q243 : x11_3 < (t228.length : Int) := of_decide_eq_true (by first | (with_reducible assumption) | assumption); obtain ⟨ad243, e243, hx243_0, hx243_1, hx243_2⟩ := at_T30 (Kd.R_reads' HO_7.out).2.2 x11_3 p243 q243; cases e243; have hn243_0 : ad243.block ≠ gb242 := (by first | exact Kd.own_blk (Kd.R_ne HO_7.out BK242.out (by decide)) | exact Kd.own_blk (fun e_ => (HO_7.out.1 _ e_.symm).2 rfl) | exact Kd.own_blk (fun e_ => (HO_7.out.1 _ e_.symm).1.2 rfl)); have hn243_1 : ad243.block ≠ gb242 := (by first | exact Kd.own_blk (Kd.R_ne HO_7.out BK242.out (by decide)) | exact Kd.own_blk (fun e_ => (HO_7.out.1 _ e_.symm).2 rfl) | exact Kd.own_blk (fun e_ => (HO_7.out.1 _ e_.symm).1.2 rfl)); have hn243_2 : ad243.block ≠ gb242 := (by first | exact Kd.own_blk (Kd.R_ne HO_7.out BK242.out (by decide)) | exact Kd.own_blk (fun e_ => (HO_7.out.1 _ e_.symm).2 rfl) | exact Kd.own_blk (fun e_ => (HO_7.out.1 _ e_.symm).1.2 rfl)); have hn243_3 : ad243.block ≠ gb242 := (by first | exact Kd.own_blk (Kd.R_ne HO_7.out BK242.out (by decide)) | exact Kd.own_blk (fun e_ => (HO_7.out.1 _ e_.symm).2 rfl) | exact Kd.own_blk (fun e_ => (HO_7.out.1 _ e_.symm).1.2 rfl)); replace hx243_0 := (cell_far (p := ⟨gb242, 0, none⟩) (by first | (rw [add_block]; exact hn243_0) | (show (Addr.add _ _).block ≠ _; rw [add_block]; exact hn243_0) | exact hn243_0) (.int .i64 ((rd_T30 t232 (ji34)).f0))).trans hx243_0; replace hx243_1 := (cell_far (p := ⟨gb242, 0, none⟩) (by first | (rw [add_block]; exact hn243_0) | (show (Addr.add _ _).block ≠ _; rw [add_block]; exact hn243_0) | exact hn243_0) (.int .i64 ((rd_T30 t232 (ji34)).f0))).trans hx243_1; replace hx243_2 := (cell_far (p := ⟨gb242, 0, none⟩) (by first | (rw [add_block]; exact hn243_0) | (show (Addr.add _ _).block ≠ _; rw [add_block]; exact hn243_0) | exact hn243_0) (.int .i64 ((rd_T30 t232 (ji34)).f0))).trans hx243_2; replace hx243_0 := (cell_far (p := ⟨gb242, 1, none⟩) (by first | (rw [add_block]; exact hn243_1) | (show (Addr.add _ _).block ≠ _; rw [add_block]; exact hn243_1) | exact hn243_1) (.string ((rd_T30 t232 (ji34)).f1))).trans hx243_0; replace hx243_1 := (cell_far (p := ⟨gb242, 1, none⟩) (by first | (rw [add_block]; exact hn243_1) | (show (Addr.add _ _).block ≠ _; rw [add_block]; exact hn243_1) | exact hn243_1) (.string ((rd_T30 t232 (ji34)).f1))).trans hx243_1; replace hx243_2 := (cell_far (p := ⟨gb242, 1, none⟩) (by first | (rw [add_block]; exact hn243_1) | (show (Addr.add _ _).block ≠ _; rw [add_block]; exact hn243_1) | exact hn243_1) (.string ((rd_T30 t232 (ji34)).f1))).trans hx243_2; replace hx243_0 := (cell_far (p := ⟨gb242, 2, none⟩) (by first | (rw [add_block]; exact hn243_2) | (show (Addr.add _ _).block ≠ _; rw [add_block]; exact hn243_2) | exact hn243_2) (.int .i64 ((rd_T30 t232 (ji34)).f2))).trans hx243_0; replace hx243_1 := (cell_far (p := ⟨gb242, 2, none⟩) (by first | (rw [add_block]; exact hn243_2) | (show (Addr.add _ _).block ≠ _; rw [add_block]; exact hn243_2) | exact hn243_2) (.int .i64 ((rd_T30 t232 (ji34)).f2))).trans hx243_1; replace hx243_2 := (cell_far (p := ⟨gb242, 2, none⟩) (by first | (rw [add_block]; exact hn243_2) | (show (Addr.add _ _).block ≠ _; rw [add_block]; exact hn243_2) | exact hn243_2) (.int .i64 ((rd_T30 t232 (ji34)).f2))).trans hx243_2; replace hx243_0 := (cell_far (p := ⟨gb242, 2, none⟩) (by first | (rw [add_block]; exact hn243_3) | (show (Addr.add _ _).block ≠ _; rw [add_block]; exact hn243_3) | exact hn243_3) (.int .i64 (wrap64 ((wrap64 (((rd_T30 t232 (ji34)).f2) - (a0.size : Int))) - 1)))).trans hx243_0; replace hx243_1 := (cell_far (p := ⟨gb242, 2, none⟩) (by first | (rw [add_block]; exact hn243_3) | (show (Addr.add _ _).block ≠ _; rw [add_block]; exact hn243_3) | exact hn243_3) (.int .i64 (wrap64 ((wrap64 (((rd_T30 t232 (ji34)).f2) - (a0.size : Int))) - 1)))).trans hx243_1; replace hx243_2 := (cell_far (p := ⟨gb242, 2, none⟩) (by first | (rw [add_block]; exact hn243_3) | (show (Addr.add _ _).block ≠ _; rw [add_block]; exact hn243_3) | exact hn243_3) (.int .i64 (wrap64 ((wrap64 (((rd_T30 t232 (ji34)).f2) - (a0.size : Int))) - 1)))).trans hx243_2; (try have hy243_0 := fun (n_ : Nat) => (show ((((((w42.drewN n_).setCell ⟨gb242, 0, none⟩ (.int .i64 ((rd_T30 t232 (ji34)).f0))).setCell ⟨gb242, 1, none⟩ (.string ((rd_T30 t232 (ji34)).f1))).setCell ⟨gb242, 2, none⟩ (.int .i64 ((rd_T30 t232 (ji34)).f2))).setCell ⟨gb242, 2, none⟩ (.int .i64 (wrap64 ((wrap64 (((rd_T30 t232 (ji34)).f2) - (a0.size : Int))) - 1))))).cell? _ = some _ from hx243_0)); (try have hy243_1 := fun (n_ : Nat) => (show ((((((w42.drewN n_).setCell ⟨gb242, 0, none⟩ (.int .i64 ((rd_T30 t232 (ji34)).f0))).setCell ⟨gb242, 1, none⟩ (.string ((rd_T30 t232 (ji34)).f1))).setCell ⟨gb242, 2, none⟩ (.int .i64 ((rd_T30 t232 (ji34)).f2))).setCell ⟨gb242, 2, none⟩ (.int .i64 (wrap64 ((wrap64 (((rd_T30 t232 (ji34)).f2) - (a0.size : Int))) - 1))))).cell? _ = some _ from hx243_1)); (try have hy243_2 := fun (n_ : Nat) => (show ((((((w42.drewN n_).setCell ⟨gb242, 0, none⟩ (.int .i64 ((rd_T30 t232 (ji34)).f0))).setCell ⟨gb242, 1, none⟩ (.string ((rd_T30 t232 (ji34)).f1))).setCell ⟨gb242, 2, none⟩ (.int .i64 ((rd_T30 t232 (ji34)).f2))).setCell ⟨gb242, 2, none⟩ (.int .i64 (wrap64 ((wrap64 (((rd_T30 t232 (ji34)).f2) - (a0.size : Int))) - 1))))).cell? _ = some _ from hx243_2)); clear hn243_0; clear hn243_1; clear hn243_2; clear hn243_3; replace p243 := eq_true p243; replace q243 := eq_true q243)))
                                  go_ret
                                  exact ⟨by first | rfl | (simp [errW_none, errW_some] <;> rfl) | (simp only [← hji34]; first | rfl | (simp [errW_none, errW_some] <;> rfl)) | (simp [*, errW_none, errW_some] <;> rfl) | (simp [errW_none, errW_some] <;> omega) | (simp [*, errW_none, errW_some] <;> omega), by repeat (first | (with_reducible first | exact HB.out | apply below_alloc | apply pw_below_drewN | apply below_drew1 | refine below_set ?_ GE242.out) | exact HB.out)⟩
                                · rw [if_neg c38] at H
                                  have c38b0 : (!(((rd_T30 t232 (ji34)).f0) == ((rd_T30 t228 x11_3).f0)) || (!((((rd_T30 t232 (ji34)).f1).toList) == (((rd_T30 t228 x11_3).f1).toList)) || (!((wrap64 ((wrap64 (((rd_T30 t232 (ji34)).f2) - (a0.size : Int))) - 1)) == ((rd_T30 t228 x11_3).f2))))) = false := by simpa using c38
                                  clear c38
                                  have H' := Aside0.mk H
                                  clear H
                                  obtain ⟨Ao44, co44, eo44⟩ := Kd.R_slice HO_7.out
                                  subst eo44
                                  obtain ⟨Ao45, co45, eo45⟩ := Kd.R_slice HO_5.out
                                  subst eo45
                                  obtain ⟨Ao46, co46, eo46⟩ := Kd.R_slice HO_9.out
                                  subst eo46
                                  have p241 : 0 ≤ ((ji34) : Int) := of_decide_eq_true (by first | (with_reducible assumption) | assumption)
                                  have q241 : (ji34) < (t232.length : Int) := of_decide_eq_true (by first | (with_reducible assumption) | assumption)
                                  obtain ⟨ad241, e241, hx241_0, hx241_1, hx241_2⟩ := at_T30 (Kd.R_reads' HO_9.out).2.2 (ji34) p241 q241
                                  cases e241
                                  replace p241 := eq_true p241
                                  replace q241 := eq_true q241
                                  go_wp2_with (first | ((with_reducible refine gate_dst (N := 12) rfl ?_); (try (refine gate_guard (by rfl) ?_; dsimp only)); refine box_event ?hg (N := 12) ?hd (cs := #[.int .i64 0, .string (⟨#[]⟩ : ByteArray), .int .i64 0]) (t := 30) ?hr ?_; (case hd => rfl); (case hg => rfl); (case hr => first | (go_simp; done) | (go_simp; rfl)); intro gb242 hg w47 hbox hb; have n0_ := Aside0.mk (Kd.R_below (Kd.R_elderB (by (with_reducible repeat (first | apply Kd.R_alloc | apply Kd.R_drewN | apply Kd.R_drew)); exact HO_5.out) gb242 (Nat.le_of_eq hg.symm)) hb); have n1_ := Aside0.mk (Kd.R_below (Kd.R_elderB (by (with_reducible repeat (first | apply Kd.R_alloc | apply Kd.R_drewN | apply Kd.R_drew)); exact HO_7.out) gb242 (Nat.le_of_eq hg.symm)) hb); have n2_ := Aside0.mk (Kd.R_below (Kd.R_elderB (by (with_reducible repeat (first | apply Kd.R_alloc | apply Kd.R_drewN | apply Kd.R_drew)); exact HO_9.out) gb242 (Nat.le_of_eq hg.symm)) hb); have n3_ := Aside0.mk (below_step (by repeat (first | (with_reducible first | exact HB.out | apply below_alloc | apply pw_below_drewN | apply below_drew1) | exact HB.out)) hb); have n4_ := Aside0.mk (hbox); have n5_ := Aside0.mk ((by rw [hg]; exact (below_size (by repeat (first | (with_reducible first | exact HB.out | apply below_alloc | apply pw_below_drewN | apply below_drew1) | exact HB.out))) : w.heap.size ≤ gb242)); have n6_ := Aside0.mk ((by rw [hg]; exact (below_size (by repeat (first | (with_reducible first | exact HB.out | apply below_alloc | apply pw_below_drewN | apply below_drew1) | exact HB.out))) : w.heap.size ≤ gb242)); clear HO_5; clear HO_7; clear HO_9; clear HB; have HO_5 := n0_; have HO_7 := n1_; have HO_9 := n2_; have HB := n3_; have BK242 := n4_; have GW242 := n5_; have GE242 := n6_; clear n0_ n1_ n2_ n3_ n4_ n5_ n6_; clear hb hbox hg; have hcz48_0 : w47.cell? ⟨gb242, 0, none⟩ = some (.int .i64 0) := (blk_cell BK242.out 0).trans rfl; have hcz48_1 : w47.cell? ⟨gb242, 1, none⟩ = some (.string (⟨#[]⟩ : ByteArray)) := (blk_cell BK242.out 1).trans rfl; have hcz48_2 : w47.cell? ⟨gb242, 2, none⟩ = some (.int .i64 0) := (blk_cell BK242.out 2).trans rfl; have hfz48_0 := blk_frozen BK242.out 0; have hfz48_1 := blk_frozen BK242.out 1; have hfz48_2 := blk_frozen BK242.out 2; have p243 : 0 ≤ (x11_3 : Int) := of_decide_eq_true (by first | (with_reducible assumption) | assumption); have q243 : x11_3 < (t228.length : Int) := of_decide_eq_true (by first | (with_reducible assumption) | assumption); obtain ⟨ad243, e243, hx243_0, hx243_1, hx243_2⟩ := at_T30 (Kd.R_reads' HO_7.out).2.2 x11_3 p243 q243; cases e243; have hn243_0 : ad243.block ≠ gb242 := (by first | exact Kd.own_blk (Kd.R_ne HO_7.out BK242.out (by decide)) | exact Kd.own_blk (fun e_ => (HO_7.out.1 _ e_.symm).2 rfl) | exact Kd.own_blk (fun e_ => (HO_7.out.1 _ e_.symm).1.2 rfl)); have hn243_1 : ad243.block ≠ gb242 := (by first | exact Kd.own_blk (Kd.R_ne HO_7.out BK242.out (by decide)) | exact Kd.own_blk (fun e_ => (HO_7.out.1 _ e_.symm).2 rfl) | exact Kd.own_blk (fun e_ => (HO_7.out.1 _ e_.symm).1.2 rfl)); have hn243_2 : ad243.block ≠ gb242 := (by first | exact Kd.own_blk (Kd.R_ne HO_7.out BK242.out (by decide)) | exact Kd.own_blk (fun e_ => (HO_7.out.1 _ e_.symm).2 rfl) | exact Kd.own_blk (fun e_ => (HO_7.out.1 _ e_.symm).1.2 rfl)); have hn243_3 : ad243.block ≠ gb242 := (by first | exact Kd.own_blk (Kd.R_ne HO_7.out BK242.out (by decide)) | exact Kd.own_blk (fun e_ => (HO_7.out.1 _ e_.symm).2 rfl) | exact Kd.own_blk (fun e_ => (HO_7.out.1 _ e_.symm).1.2 rfl)); replace hx243_0 := (cell_far (p := ⟨gb242, 0, none⟩) (by first | (rw [add_block]; exact hn243_0) | (show (Addr.add _ _).block ≠ _; rw [add_block]; exact hn243_0) | exact hn243_0) (.int .i64 ((rd_T30 t232 (ji34)).f0))).trans hx243_0; replace hx243_1 := (cell_far (p := ⟨gb242, 0, none⟩) (by first | (rw [add_block]; exact hn243_0) | (show (Addr.add _ _).block ≠ _; rw [add_block]; exact hn243_0) | exact hn243_0) (.int .i64 ((rd_T30 t232 (ji34)).f0))).trans hx243_1; replace hx243_2 := (cell_far (p := ⟨gb242, 0, none⟩) (by first | (rw [add_block]; exact hn243_0) | (show (Addr.add _ _).block ≠ _; rw [add_block]; exact hn243_0) | exact hn243_0) (.int .i64 ((rd_T30 t232 (ji34)).f0))).trans hx243_2; replace hx243_0 := (cell_far (p := ⟨gb242, 1, none⟩) (by first | (rw [add_block]; exact hn243_1) | (show (Addr.add _ _).block ≠ _; rw [add_block]; exact hn243_1) | exact hn243_1) (.string ((rd_T30 t232 (ji34)).f1))).trans hx243_0; replace hx243_1 := (cell_far (p := ⟨gb242, 1, none⟩) (by first | (rw [add_block]; exact hn243_1) | (show (Addr.add _ _).block ≠ _; rw [add_block]; exact hn243_1) | exact hn243_1) (.string ((rd_T30 t232 (ji34)).f1))).trans hx243_1; replace hx243_2 := (cell_far (p := ⟨gb242, 1, none⟩) (by first | (rw [add_block]; exact hn243_1) | (show (Addr.add _ _).block ≠ _; rw [add_block]; exact hn243_1) | exact hn243_1) (.string ((rd_T30 t232 (ji34)).f1))).trans hx243_2; replace hx243_0 := (cell_far (p := ⟨gb242, 2, none⟩) (by first | (rw [add_block]; exact hn243_2) | (show (Addr.add _ _).block ≠ _; rw [add_block]; exact hn243_2) | exact hn243_2) (.int .i64 ((rd_T30 t232 (ji34)).f2))).trans hx243_0; replace hx243_1 := (cell_far (p := ⟨gb242, 2, none⟩) (by first | (rw [add_block]; exact hn243_2) | (show (Addr.add _ _).block ≠ _; rw [add_block]; exact hn243_2) | exact hn243_2) (.int .i64 ((rd_T30 t232 (ji34)).f2))).trans hx243_1; replace hx243_2 := (cell_far (p := ⟨gb242, 2, none⟩) (by first | (rw [add_block]; exact hn243_2) | (show (Addr.add _ _).block ≠ _; rw [add_block]; exact hn243_2) | exact hn243_2) (.int .i64 ((rd_T30 t232 (ji34)).f2))).trans hx243_2; replace hx243_0 := (cell_far (p := ⟨gb242, 2, none⟩) (by first | (rw [add_block]; exact hn243_3) | (show (Addr.add _ _).block ≠ _; rw [add_block]; exact hn243_3) | exact hn243_3) (.int .i64 (wrap64 ((wrap64 (((rd_T30 t232 (ji34)).f2) - (a0.size : Int))) - 1)))).trans hx243_0; replace hx243_1 := (cell_far (p := ⟨gb242, 2, none⟩) (by first | (rw [add_block]; exact hn243_3) | (show (Addr.add _ _).block ≠ _; rw [add_block]; exact hn243_3) | exact hn243_3) (.int .i64 (wrap64 ((wrap64 (((rd_T30 t232 (ji34)).f2) - (a0.size : Int))) - 1)))).trans hx243_1; replace hx243_2 := (cell_far (p := ⟨gb242, 2, none⟩) (by first | (rw [add_block]; exact hn243_3) | (show (Addr.add _ _).block ≠ _; rw [add_block]; exact hn243_3) | exact hn243_3) (.int .i64 (wrap64 ((wrap64 (((rd_T30 t232 (ji34)).f2) - (a0.size : Int))) - 1)))).trans hx243_2; (try have hy243_0 := fun (n_ : Nat) => (show ((((((w47.drewN n_).setCell ⟨gb242, 0, none⟩ (.int .i64 ((rd_T30 t232 (ji34)).f0))).setCell ⟨gb242, 1, none⟩ (.string ((rd_T30 t232 (ji34)).f1))).setCell ⟨gb242, 2, none⟩ (.int .i64 ((rd_T30 t232 (ji34)).f2))).setCell ⟨gb242, 2, none⟩ (.int .i64 (wrap64 ((wrap64 (((rd_T30 t232 (ji34)).f2) - (a0.size : Int))) - 1))))).cell? _ = some _ from hx243_0)); (try have hy243_1 := fun (n_ : Nat) => (show ((((((w47.drewN n_).setCell ⟨gb242, 0, none⟩ (.int .i64 ((rd_T30 t232 (ji34)).f0))).setCell ⟨gb242, 1, none⟩ (.string ((rd_T30 t232 (ji34)).f1))).setCell ⟨gb242, 2, none⟩ (.int .i64 ((rd_T30 t232 (ji34)).f2))).setCell ⟨gb242, 2, none⟩ (.int .i64 (wrap64 ((wrap64 (((rd_T30 t232 (ji34)).f2) - (a0.size : Int))) - 1))))).cell? _ = some _ from hx243_1)); (try have hy243_2 := fun (n_ : Nat) => (show ((((((w47.drewN n_).setCell ⟨gb242, 0, none⟩ (.int .i64 ((rd_T30 t232 (ji34)).f0))).setCell ⟨gb242, 1, none⟩ (.string ((rd_T30 t232 (ji34)).f1))).setCell ⟨gb242, 2, none⟩ (.int .i64 ((rd_T30 t232 (ji34)).f2))).setCell ⟨gb242, 2, none⟩ (.int .i64 (wrap64 ((wrap64 (((rd_T30 t232 (ji34)).f2) - (a0.size : Int))) - 1))))).cell? _ = some _ from hx243_2)); clear hn243_0; clear hn243_1; clear hn243_2; clear hn243_3; replace p243 := eq_true p243; replace q243 := eq_true q243))
                                  have BZ_ := (blk_put (blk_put (blk_put (blk_put BK242.out 0 (.int .i64 ((rd_T30 t232 (ji34)).f0)) rfl) 1 (.string ((rd_T30 t232 (ji34)).f1)) rfl) 2 (.int .i64 ((rd_T30 t232 (ji34)).f2)) rfl) 2 (.int .i64 (wrap64 ((wrap64 (((rd_T30 t232 (ji34)).f2) - (a0.size : Int))) - 1))) rfl)
                                  have hz0_ : ((((w47.setCell ⟨gb242, 0, none⟩ (.int .i64 ((rd_T30 t232 (ji34)).f0))).setCell ⟨gb242, 1, none⟩ (.string ((rd_T30 t232 (ji34)).f1))).setCell ⟨gb242, 2, none⟩ (.int .i64 ((rd_T30 t232 (ji34)).f2))).setCell ⟨gb242, 2, none⟩ (.int .i64 (wrap64 ((wrap64 (((rd_T30 t232 (ji34)).f2) - (a0.size : Int))) - 1)))).cell? ⟨gb242, 0, none⟩ = some (.int .i64 ((rd_T30 t232 (ji34)).f0)) := (blk_cell BZ_ 0).trans rfl
                                  have hzn0_ := fun (n_ : Nat) => (show (((((w47.drewN n_).setCell ⟨gb242, 0, none⟩ (.int .i64 ((rd_T30 t232 (ji34)).f0))).setCell ⟨gb242, 1, none⟩ (.string ((rd_T30 t232 (ji34)).f1))).setCell ⟨gb242, 2, none⟩ (.int .i64 ((rd_T30 t232 (ji34)).f2))).setCell ⟨gb242, 2, none⟩ (.int .i64 (wrap64 ((wrap64 (((rd_T30 t232 (ji34)).f2) - (a0.size : Int))) - 1)))).cell? ⟨gb242, 0, none⟩ = some (.int .i64 ((rd_T30 t232 (ji34)).f0)) from hz0_)
                                  have hz1_ : ((((w47.setCell ⟨gb242, 0, none⟩ (.int .i64 ((rd_T30 t232 (ji34)).f0))).setCell ⟨gb242, 1, none⟩ (.string ((rd_T30 t232 (ji34)).f1))).setCell ⟨gb242, 2, none⟩ (.int .i64 ((rd_T30 t232 (ji34)).f2))).setCell ⟨gb242, 2, none⟩ (.int .i64 (wrap64 ((wrap64 (((rd_T30 t232 (ji34)).f2) - (a0.size : Int))) - 1)))).cell? ⟨gb242, 1, none⟩ = some (.string ((rd_T30 t232 (ji34)).f1)) := (blk_cell BZ_ 1).trans rfl
                                  have hzn1_ := fun (n_ : Nat) => (show (((((w47.drewN n_).setCell ⟨gb242, 0, none⟩ (.int .i64 ((rd_T30 t232 (ji34)).f0))).setCell ⟨gb242, 1, none⟩ (.string ((rd_T30 t232 (ji34)).f1))).setCell ⟨gb242, 2, none⟩ (.int .i64 ((rd_T30 t232 (ji34)).f2))).setCell ⟨gb242, 2, none⟩ (.int .i64 (wrap64 ((wrap64 (((rd_T30 t232 (ji34)).f2) - (a0.size : Int))) - 1)))).cell? ⟨gb242, 1, none⟩ = some (.string ((rd_T30 t232 (ji34)).f1)) from hz1_)
                                  have hz2_ : ((((w47.setCell ⟨gb242, 0, none⟩ (.int .i64 ((rd_T30 t232 (ji34)).f0))).setCell ⟨gb242, 1, none⟩ (.string ((rd_T30 t232 (ji34)).f1))).setCell ⟨gb242, 2, none⟩ (.int .i64 ((rd_T30 t232 (ji34)).f2))).setCell ⟨gb242, 2, none⟩ (.int .i64 (wrap64 ((wrap64 (((rd_T30 t232 (ji34)).f2) - (a0.size : Int))) - 1)))).cell? ⟨gb242, 2, none⟩ = some (.int .i64 (wrap64 ((wrap64 (((rd_T30 t232 (ji34)).f2) - (a0.size : Int))) - 1))) := (blk_cell BZ_ 2).trans rfl
                                  have hzn2_ := fun (n_ : Nat) => (show (((((w47.drewN n_).setCell ⟨gb242, 0, none⟩ (.int .i64 ((rd_T30 t232 (ji34)).f0))).setCell ⟨gb242, 1, none⟩ (.string ((rd_T30 t232 (ji34)).f1))).setCell ⟨gb242, 2, none⟩ (.int .i64 ((rd_T30 t232 (ji34)).f2))).setCell ⟨gb242, 2, none⟩ (.int .i64 (wrap64 ((wrap64 (((rd_T30 t232 (ji34)).f2) - (a0.size : Int))) - 1)))).cell? ⟨gb242, 2, none⟩ = some (.int .i64 (wrap64 ((wrap64 (((rd_T30 t232 (ji34)).f2) - (a0.size : Int))) - 1))) from hz2_)
                                  clear BZ_
                                  (try clear hcz43_0); (try clear hcz43_1); (try clear hcz43_2)
                                  repeat (go_quiet (first | ((with_reducible refine gate_dst (N := 12) rfl ?_); (try (refine gate_guard (by rfl) ?_; dsimp only)); refine box_event ?hg (N := 12) ?hd (cs := #[.int .i64 0, .string (⟨#[]⟩ : ByteArray), .int .i64 0]) (t := 30) ?hr ?_; (case hd => rfl); (case hg => rfl); (case hr => first | (go_simp; done) | (go_simp; rfl)); intro gb242 hg w47 hbox hb; have n0_ := Aside0.mk (Kd.R_below (Kd.R_elderB (by (with_reducible repeat (first | apply Kd.R_alloc | apply Kd.R_drewN | apply Kd.R_drew)); exact HO_5.out) gb242 (Nat.le_of_eq hg.symm)) hb); have n1_ := Aside0.mk (Kd.R_below (Kd.R_elderB (by (with_reducible repeat (first | apply Kd.R_alloc | apply Kd.R_drewN | apply Kd.R_drew)); exact HO_7.out) gb242 (Nat.le_of_eq hg.symm)) hb); have n2_ := Aside0.mk (Kd.R_below (Kd.R_elderB (by (with_reducible repeat (first | apply Kd.R_alloc | apply Kd.R_drewN | apply Kd.R_drew)); exact HO_9.out) gb242 (Nat.le_of_eq hg.symm)) hb); have n3_ := Aside0.mk (below_step (by repeat (first | (with_reducible first | exact HB.out | apply below_alloc | apply pw_below_drewN | apply below_drew1) | exact HB.out)) hb); have n4_ := Aside0.mk (hbox); have n5_ := Aside0.mk ((by rw [hg]; exact (below_size (by repeat (first | (with_reducible first | exact HB.out | apply below_alloc | apply pw_below_drewN | apply below_drew1) | exact HB.out))) : w.heap.size ≤ gb242)); have n6_ := Aside0.mk ((by rw [hg]; exact (below_size (by repeat (first | (with_reducible first | exact HB.out | apply below_alloc | apply pw_below_drewN | apply below_drew1) | exact HB.out))) : w.heap.size ≤ gb242)); clear HO_5; clear HO_7; clear HO_9; clear HB; have HO_5 := n0_; have HO_7 := n1_; have HO_9 := n2_; have HB := n3_; have BK242 := n4_; have GW242 := n5_; have GE242 := n6_; clear n0_ n1_ n2_ n3_ n4_ n5_ n6_; clear hb hbox hg; have hcz48_0 : w47.cell? ⟨gb242, 0, none⟩ = some (.int .i64 0) := (blk_cell BK242.out 0).trans rfl; have hcz48_1 : w47.cell? ⟨gb242, 1, none⟩ = some (.string (⟨#[]⟩ : ByteArray)) := (blk_cell BK242.out 1).trans rfl; have hcz48_2 : w47.cell? ⟨gb242, 2, none⟩ = some (.int .i64 0) := (blk_cell BK242.out 2).trans rfl; have hfz48_0 := blk_frozen BK242.out 0; have hfz48_1 := blk_frozen BK242.out 1; have hfz48_2 := blk_frozen BK242.out 2; have p243 : 0 ≤ (x11_3 : Int) := of_decide_eq_true (by first | (with_reducible assumption) | assumption); have q243 : x11_3 < (t228.length : Int) := of_decide_eq_true (by first | (with_reducible assumption) | assumption); obtain ⟨ad243, e243, hx243_0, hx243_1, hx243_2⟩ := at_T30 (Kd.R_reads' HO_7.out).2.2 x11_3 p243 q243; cases e243; have hn243_0 : ad243.block ≠ gb242 := (by first | exact Kd.own_blk (Kd.R_ne HO_7.out BK242.out (by decide)) | exact Kd.own_blk (fun e_ => (HO_7.out.1 _ e_.symm).2 rfl) | exact Kd.own_blk (fun e_ => (HO_7.out.1 _ e_.symm).1.2 rfl)); have hn243_1 : ad243.block ≠ gb242 := (by first | exact Kd.own_blk (Kd.R_ne HO_7.out BK242.out (by decide)) | exact Kd.own_blk (fun e_ => (HO_7.out.1 _ e_.symm).2 rfl) | exact Kd.own_blk (fun e_ => (HO_7.out.1 _ e_.symm).1.2 rfl)); have hn243_2 : ad243.block ≠ gb242 := (by first | exact Kd.own_blk (Kd.R_ne HO_7.out BK242.out (by decide)) | exact Kd.own_blk (fun e_ => (HO_7.out.1 _ e_.symm).2 rfl) | exact Kd.own_blk (fun e_ => (HO_7.out.1 _ e_.symm).1.2 rfl)); have hn243_3 : ad243.block ≠ gb242 := (by first | exact Kd.own_blk (Kd.R_ne HO_7.out BK242.out (by decide)) | exact Kd.own_blk (fun e_ => (HO_7.out.1 _ e_.symm).2 rfl) | exact Kd.own_blk (fun e_ => (HO_7.out.1 _ e_.symm).1.2 rfl)); replace hx243_0 := (cell_far (p := ⟨gb242, 0, none⟩) (by first | (rw [add_block]; exact hn243_0) | (show (Addr.add _ _).block ≠ _; rw [add_block]; exact hn243_0) | exact hn243_0) (.int .i64 ((rd_T30 t232 (ji34)).f0))).trans hx243_0; replace hx243_1 := (cell_far (p := ⟨gb242, 0, none⟩) (by first | (rw [add_block]; exact hn243_0) | (show (Addr.add _ _).block ≠ _; rw [add_block]; exact hn243_0) | exact hn243_0) (.int .i64 ((rd_T30 t232 (ji34)).f0))).trans hx243_1; replace hx243_2 := (cell_far (p := ⟨gb242, 0, none⟩) (by first | (rw [add_block]; exact hn243_0) | (show (Addr.add _ _).block ≠ _; rw [add_block]; exact hn243_0) | exact hn243_0) (.int .i64 ((rd_T30 t232 (ji34)).f0))).trans hx243_2; replace hx243_0 := (cell_far (p := ⟨gb242, 1, none⟩) (by first | (rw [add_block]; exact hn243_1) | (show (Addr.add _ _).block ≠ _; rw [add_block]; exact hn243_1) | exact hn243_1) (.string ((rd_T30 t232 (ji34)).f1))).trans hx243_0; replace hx243_1 := (cell_far (p := ⟨gb242, 1, none⟩) (by first | (rw [add_block]; exact hn243_1) | (show (Addr.add _ _).block ≠ _; rw [add_block]; exact hn243_1) | exact hn243_1) (.string ((rd_T30 t232 (ji34)).f1))).trans hx243_1; replace hx243_2 := (cell_far (p := ⟨gb242, 1, none⟩) (by first | (rw [add_block]; exact hn243_1) | (show (Addr.add _ _).block ≠ _; rw [add_block]; exact hn243_1) | exact hn243_1) (.string ((rd_T30 t232 (ji34)).f1))).trans hx243_2; replace hx243_0 := (cell_far (p := ⟨gb242, 2, none⟩) (by first | (rw [add_block]; exact hn243_2) | (show (Addr.add _ _).block ≠ _; rw [add_block]; exact hn243_2) | exact hn243_2) (.int .i64 ((rd_T30 t232 (ji34)).f2))).trans hx243_0; replace hx243_1 := (cell_far (p := ⟨gb242, 2, none⟩) (by first | (rw [add_block]; exact hn243_2) | (show (Addr.add _ _).block ≠ _; rw [add_block]; exact hn243_2) | exact hn243_2) (.int .i64 ((rd_T30 t232 (ji34)).f2))).trans hx243_1; replace hx243_2 := (cell_far (p := ⟨gb242, 2, none⟩) (by first | (rw [add_block]; exact hn243_2) | (show (Addr.add _ _).block ≠ _; rw [add_block]; exact hn243_2) | exact hn243_2) (.int .i64 ((rd_T30 t232 (ji34)).f2))).trans hx243_2; replace hx243_0 := (cell_far (p := ⟨gb242, 2, none⟩) (by first | (rw [add_block]; exact hn243_3) | (show (Addr.add _ _).block ≠ _; rw [add_block]; exact hn243_3) | exact hn243_3) (.int .i64 (wrap64 ((wrap64 (((rd_T30 t232 (ji34)).f2) - (a0.size : Int))) - 1)))).trans hx243_0; replace hx243_1 := (cell_far (p := ⟨gb242, 2, none⟩) (by first | (rw [add_block]; exact hn243_3) | (show (Addr.add _ _).block ≠ _; rw [add_block]; exact hn243_3) | exact hn243_3) (.int .i64 (wrap64 ((wrap64 (((rd_T30 t232 (ji34)).f2) - (a0.size : Int))) - 1)))).trans hx243_1; replace hx243_2 := (cell_far (p := ⟨gb242, 2, none⟩) (by first | (rw [add_block]; exact hn243_3) | (show (Addr.add _ _).block ≠ _; rw [add_block]; exact hn243_3) | exact hn243_3) (.int .i64 (wrap64 ((wrap64 (((rd_T30 t232 (ji34)).f2) - (a0.size : Int))) - 1)))).trans hx243_2; (try have hy243_0 := fun (n_ : Nat) => (show ((((((w47.drewN n_).setCell ⟨gb242, 0, none⟩ (.int .i64 ((rd_T30 t232 (ji34)).f0))).setCell ⟨gb242, 1, none⟩ (.string ((rd_T30 t232 (ji34)).f1))).setCell ⟨gb242, 2, none⟩ (.int .i64 ((rd_T30 t232 (ji34)).f2))).setCell ⟨gb242, 2, none⟩ (.int .i64 (wrap64 ((wrap64 (((rd_T30 t232 (ji34)).f2) - (a0.size : Int))) - 1))))).cell? _ = some _ from hx243_0)); (try have hy243_1 := fun (n_ : Nat) => (show ((((((w47.drewN n_).setCell ⟨gb242, 0, none⟩ (.int .i64 ((rd_T30 t232 (ji34)).f0))).setCell ⟨gb242, 1, none⟩ (.string ((rd_T30 t232 (ji34)).f1))).setCell ⟨gb242, 2, none⟩ (.int .i64 ((rd_T30 t232 (ji34)).f2))).setCell ⟨gb242, 2, none⟩ (.int .i64 (wrap64 ((wrap64 (((rd_T30 t232 (ji34)).f2) - (a0.size : Int))) - 1))))).cell? _ = some _ from hx243_1)); (try have hy243_2 := fun (n_ : Nat) => (show ((((((w47.drewN n_).setCell ⟨gb242, 0, none⟩ (.int .i64 ((rd_T30 t232 (ji34)).f0))).setCell ⟨gb242, 1, none⟩ (.string ((rd_T30 t232 (ji34)).f1))).setCell ⟨gb242, 2, none⟩ (.int .i64 ((rd_T30 t232 (ji34)).f2))).setCell ⟨gb242, 2, none⟩ (.int .i64 (wrap64 ((wrap64 (((rd_T30 t232 (ji34)).f2) - (a0.size : Int))) - 1))))).cell? _ = some _ from hx243_2)); clear hn243_0; clear hn243_1; clear hn243_2; clear hn243_3; replace p243 := eq_true p243; replace q243 := eq_true q243)); try go_wp2_with (first | ((with_reducible refine gate_dst (N := 12) rfl ?_); (try (refine gate_guard (by rfl) ?_; dsimp only)); refine box_event ?hg (N := 12) ?hd (cs := #[.int .i64 0, .string (⟨#[]⟩ : ByteArray), .int .i64 0]) (t := 30) ?hr ?_; (case hd => rfl); (case hg => rfl); (case hr => first | (go_simp; done) | (go_simp; rfl)); intro gb242 hg w47 hbox hb; have n0_ := Aside0.mk (Kd.R_below (Kd.R_elderB (by (with_reducible repeat (first | apply Kd.R_alloc | apply Kd.R_drewN | apply Kd.R_drew)); exact HO_5.out) gb242 (Nat.le_of_eq hg.symm)) hb); have n1_ := Aside0.mk (Kd.R_below (Kd.R_elderB (by (with_reducible repeat (first | apply Kd.R_alloc | apply Kd.R_drewN | apply Kd.R_drew)); exact HO_7.out) gb242 (Nat.le_of_eq hg.symm)) hb); have n2_ := Aside0.mk (Kd.R_below (Kd.R_elderB (by (with_reducible repeat (first | apply Kd.R_alloc | apply Kd.R_drewN | apply Kd.R_drew)); exact HO_9.out) gb242 (Nat.le_of_eq hg.symm)) hb); have n3_ := Aside0.mk (below_step (by repeat (first | (with_reducible first | exact HB.out | apply below_alloc | apply pw_below_drewN | apply below_drew1) | exact HB.out)) hb); have n4_ := Aside0.mk (hbox); have n5_ := Aside0.mk ((by rw [hg]; exact (below_size (by repeat (first | (with_reducible first | exact HB.out | apply below_alloc | apply pw_below_drewN | apply below_drew1) | exact HB.out))) : w.heap.size ≤ gb242)); have n6_ := Aside0.mk ((by rw [hg]; exact (below_size (by repeat (first | (with_reducible first | exact HB.out | apply below_alloc | apply pw_below_drewN | apply below_drew1) | exact HB.out))) : w.heap.size ≤ gb242)); clear HO_5; clear HO_7; clear HO_9; clear HB; have HO_5 := n0_; have HO_7 := n1_; have HO_9 := n2_; have HB := n3_; have BK242 := n4_; have GW242 := n5_; have GE242 := n6_; clear n0_ n1_ n2_ n3_ n4_ n5_ n6_; clear hb hbox hg; have hcz48_0 : w47.cell? ⟨gb242, 0, none⟩ = some (.int .i64 0) := (blk_cell BK242.out 0).trans rfl; have hcz48_1 : w47.cell? ⟨gb242, 1, none⟩ = some (.string (⟨#[]⟩ : ByteArray)) := (blk_cell BK242.out 1).trans rfl; have hcz48_2 : w47.cell? ⟨gb242, 2, none⟩ = some (.int .i64 0) := (blk_cell BK242.out 2).trans rfl; have hfz48_0 := blk_frozen BK242.out 0; have hfz48_1 := blk_frozen BK242.out 1; have hfz48_2 := blk_frozen BK242.out 2; have p243 : 0 ≤ (x11_3 : Int) := of_decide_eq_true (by first | (with_reducible assumption) | assumption); have q243 : x11_3 < (t228.length : Int) := of_decide_eq_true (by first | (with_reducible assumption) | assumption); obtain ⟨ad243, e243, hx243_0, hx243_1, hx243_2⟩ := at_T30 (Kd.R_reads' HO_7.out).2.2 x11_3 p243 q243; cases e243; have hn243_0 : ad243.block ≠ gb242 := (by first | exact Kd.own_blk (Kd.R_ne HO_7.out BK242.out (by decide)) | exact Kd.own_blk (fun e_ => (HO_7.out.1 _ e_.symm).2 rfl) | exact Kd.own_blk (fun e_ => (HO_7.out.1 _ e_.symm).1.2 rfl)); have hn243_1 : ad243.block ≠ gb242 := (by first | exact Kd.own_blk (Kd.R_ne HO_7.out BK242.out (by decide)) | exact Kd.own_blk (fun e_ => (HO_7.out.1 _ e_.symm).2 rfl) | exact Kd.own_blk (fun e_ => (HO_7.out.1 _ e_.symm).1.2 rfl)); have hn243_2 : ad243.block ≠ gb242 := (by first | exact Kd.own_blk (Kd.R_ne HO_7.out BK242.out (by decide)) | exact Kd.own_blk (fun e_ => (HO_7.out.1 _ e_.symm).2 rfl) | exact Kd.own_blk (fun e_ => (HO_7.out.1 _ e_.symm).1.2 rfl)); have hn243_3 : ad243.block ≠ gb242 := (by first | exact Kd.own_blk (Kd.R_ne HO_7.out BK242.out (by decide)) | exact Kd.own_blk (fun e_ => (HO_7.out.1 _ e_.symm).2 rfl) | exact Kd.own_blk (fun e_ => (HO_7.out.1 _ e_.symm).1.2 rfl)); replace hx243_0 := (cell_far (p := ⟨gb242, 0, none⟩) (by first | (rw [add_block]; exact hn243_0) | (show (Addr.add _ _).block ≠ _; rw [add_block]; exact hn243_0) | exact hn243_0) (.int .i64 ((rd_T30 t232 (ji34)).f0))).trans hx243_0; replace hx243_1 := (cell_far (p := ⟨gb242, 0, none⟩) (by first | (rw [add_block]; exact hn243_0) | (show (Addr.add _ _).block ≠ _; rw [add_block]; exact hn243_0) | exact hn243_0) (.int .i64 ((rd_T30 t232 (ji34)).f0))).trans hx243_1; replace hx243_2 := (cell_far (p := ⟨gb242, 0, none⟩) (by first | (rw [add_block]; exact hn243_0) | (show (Addr.add _ _).block ≠ _; rw [add_block]; exact hn243_0) | exact hn243_0) (.int .i64 ((rd_T30 t232 (ji34)).f0))).trans hx243_2; replace hx243_0 := (cell_far (p := ⟨gb242, 1, none⟩) (by first | (rw [add_block]; exact hn243_1) | (show (Addr.add _ _).block ≠ _; rw [add_block]; exact hn243_1) | exact hn243_1) (.string ((rd_T30 t232 (ji34)).f1))).trans hx243_0; replace hx243_1 := (cell_far (p := ⟨gb242, 1, none⟩) (by first | (rw [add_block]; exact hn243_1) | (show (Addr.add _ _).block ≠ _; rw [add_block]; exact hn243_1) | exact hn243_1) (.string ((rd_T30 t232 (ji34)).f1))).trans hx243_1; replace hx243_2 := (cell_far (p := ⟨gb242, 1, none⟩) (by first | (rw [add_block]; exact hn243_1) | (show (Addr.add _ _).block ≠ _; rw [add_block]; exact hn243_1) | exact hn243_1) (.string ((rd_T30 t232 (ji34)).f1))).trans hx243_2; replace hx243_0 := (cell_far (p := ⟨gb242, 2, none⟩) (by first | (rw [add_block]; exact hn243_2) | (show (Addr.add _ _).block ≠ _; rw [add_block]; exact hn243_2) | exact hn243_2) (.int .i64 ((rd_T30 t232 (ji34)).f2))).trans hx243_0; replace hx243_1 := (cell_far (p := ⟨gb242, 2, none⟩) (by first | (rw [add_block]; exact hn243_2) | (show (Addr.add _ _).block ≠ _; rw [add_block]; exact hn243_2) | exact hn243_2) (.int .i64 ((rd_T30 t232 (ji34)).f2))).trans hx243_1; replace hx243_2 := (cell_far (p := ⟨gb242, 2, none⟩) (by first | (rw [add_block]; exact hn243_2) | (show (Addr.add _ _).block ≠ _; rw [add_block]; exact hn243_2) | exact hn243_2) (.int .i64 ((rd_T30 t232 (ji34)).f2))).trans hx243_2; replace hx243_0 := (cell_far (p := ⟨gb242, 2, none⟩) (by first | (rw [add_block]; exact hn243_3) | (show (Addr.add _ _).block ≠ _; rw [add_block]; exact hn243_3) | exact hn243_3) (.int .i64 (wrap64 ((wrap64 (((rd_T30 t232 (ji34)).f2) - (a0.size : Int))) - 1)))).trans hx243_0; replace hx243_1 := (cell_far (p := ⟨gb242, 2, none⟩) (by first | (rw [add_block]; exact hn243_3) | (show (Addr.add _ _).block ≠ _; rw [add_block]; exact hn243_3) | exact hn243_3) (.int .i64 (wrap64 ((wrap64 (((rd_T30 t232 (ji34)).f2) - (a0.size : Int))) - 1)))).trans hx243_1; replace hx243_2 := (cell_far (p := ⟨gb242, 2, none⟩) (by first | (rw [add_block]; exact hn243_3) | (show (Addr.add _ _).block ≠ _; rw [add_block]; exact hn243_3) | exact hn243_3) (.int .i64 (wrap64 ((wrap64 (((rd_T30 t232 (ji34)).f2) - (a0.size : Int))) - 1)))).trans hx243_2; (try have hy243_0 := fun (n_ : Nat) => (show ((((((w47.drewN n_).setCell ⟨gb242, 0, none⟩ (.int .i64 ((rd_T30 t232 (ji34)).f0))).setCell ⟨gb242, 1, none⟩ (.string ((rd_T30 t232 (ji34)).f1))).setCell ⟨gb242, 2, none⟩ (.int .i64 ((rd_T30 t232 (ji34)).f2))).setCell ⟨gb242, 2, none⟩ (.int .i64 (wrap64 ((wrap64 (((rd_T30 t232 (ji34)).f2) - (a0.size : Int))) - 1))))).cell? _ = some _ from hx243_0)); (try have hy243_1 := fun (n_ : Nat) => (show ((((((w47.drewN n_).setCell ⟨gb242, 0, none⟩ (.int .i64 ((rd_T30 t232 (ji34)).f0))).setCell ⟨gb242, 1, none⟩ (.string ((rd_T30 t232 (ji34)).f1))).setCell ⟨gb242, 2, none⟩ (.int .i64 ((rd_T30 t232 (ji34)).f2))).setCell ⟨gb242, 2, none⟩ (.int .i64 (wrap64 ((wrap64 (((rd_T30 t232 (ji34)).f2) - (a0.size : Int))) - 1))))).cell? _ = some _ from hx243_1)); (try have hy243_2 := fun (n_ : Nat) => (show ((((((w47.drewN n_).setCell ⟨gb242, 0, none⟩ (.int .i64 ((rd_T30 t232 (ji34)).f0))).setCell ⟨gb242, 1, none⟩ (.string ((rd_T30 t232 (ji34)).f1))).setCell ⟨gb242, 2, none⟩ (.int .i64 ((rd_T30 t232 (ji34)).f2))).setCell ⟨gb242, 2, none⟩ (.int .i64 (wrap64 ((wrap64 (((rd_T30 t232 (ji34)).f2) - (a0.size : Int))) - 1))))).cell? _ = some _ from hx243_2)); clear hn243_0; clear hn243_1; clear hn243_2; clear hn243_3; replace p243 := eq_true p243; replace q243 := eq_true q243)))
                                  go_roundg k3
                                  case measure => have := HJ6.out; have := HJ17.out; have := HK3.out; omega
                                  case rel => exact ⟨(wrap64 (x11_3 + 1)), (by first | rfl | (simp; done) | (simp [*]; done) | (simp <;> omega) | (simp [*] <;> omega)), H', ⟨by have := HJ6.out; have := HJ17.out; have := HK3.out; omega⟩, ⟨by (with_reducible repeat (first | apply Kd.R_alloc | apply Kd.R_drewN | apply Kd.R_drew)); exact Kd.R_mono (Kd.R_far (p := ⟨gb242, 2, none⟩) (Kd.R_far (p := ⟨gb242, 2, none⟩) (Kd.R_far (p := ⟨gb242, 1, none⟩) (Kd.R_far (p := ⟨gb242, 0, none⟩) (Kd.R_mono HO_5.out (fun k_ hk => (⟨hk, hk.2⟩ : _ ∧ k_ ≠ gb242))) (fun _ hk => hk.2) (.int .i64 ((rd_T30 t232 (ji34)).f0))) (fun _ hk => hk.2) (.string ((rd_T30 t232 (ji34)).f1))) (fun _ hk => hk.2) (.int .i64 ((rd_T30 t232 (ji34)).f2))) (fun _ hk => hk.2) (.int .i64 (wrap64 ((wrap64 (((rd_T30 t232 (ji34)).f2) - (a0.size : Int))) - 1)))) (fun _ hk => ⟨hk.1.1.1, hk.1.1.2⟩)⟩, ⟨by (with_reducible repeat (first | apply Kd.R_alloc | apply Kd.R_drewN | apply Kd.R_drew)); exact Kd.R_mono (Kd.R_far (p := ⟨gb242, 2, none⟩) (Kd.R_far (p := ⟨gb242, 2, none⟩) (Kd.R_far (p := ⟨gb242, 1, none⟩) (Kd.R_far (p := ⟨gb242, 0, none⟩) (Kd.R_mono HO_7.out (fun k_ hk => (⟨hk, hk.2⟩ : _ ∧ k_ ≠ gb242))) (fun _ hk => hk.2) (.int .i64 ((rd_T30 t232 (ji34)).f0))) (fun _ hk => hk.2) (.string ((rd_T30 t232 (ji34)).f1))) (fun _ hk => hk.2) (.int .i64 ((rd_T30 t232 (ji34)).f2))) (fun _ hk => hk.2) (.int .i64 (wrap64 ((wrap64 (((rd_T30 t232 (ji34)).f2) - (a0.size : Int))) - 1)))) (fun _ hk => ⟨hk.1.1.1, hk.1.1.2⟩)⟩, ⟨by (with_reducible repeat (first | apply Kd.R_alloc | apply Kd.R_drewN | apply Kd.R_drew)); exact Kd.R_mono (Kd.R_far (p := ⟨gb242, 2, none⟩) (Kd.R_far (p := ⟨gb242, 2, none⟩) (Kd.R_far (p := ⟨gb242, 1, none⟩) (Kd.R_far (p := ⟨gb242, 0, none⟩) (Kd.R_mono HO_9.out (fun k_ hk => (⟨hk, hk.2⟩ : _ ∧ k_ ≠ gb242))) (fun _ hk => hk.2) (.int .i64 ((rd_T30 t232 (ji34)).f0))) (fun _ hk => hk.2) (.string ((rd_T30 t232 (ji34)).f1))) (fun _ hk => hk.2) (.int .i64 ((rd_T30 t232 (ji34)).f2))) (fun _ hk => hk.2) (.int .i64 (wrap64 ((wrap64 (((rd_T30 t232 (ji34)).f2) - (a0.size : Int))) - 1)))) (fun _ hk => ⟨hk.1.1.1, hk.1.1.2⟩)⟩, ⟨by repeat (first | (with_reducible first | exact HB.out | apply below_alloc | apply pw_below_drewN | apply below_drew1 | refine below_set ?_ GE242.out) | exact HB.out)⟩⟩
                              · rw [if_neg c37] at H
                                exact absurd H (by simp)
                            · rw [if_neg c36] at H
                              exact absurd H (by simp)
                          · rw [if_neg c35] at H
                            exact absurd H (by simp)
                        · rw [if_neg c33] at H
                          have c33b0 : decide (x11_3 < (t228.length : Int)) = false := decide_eq_false c33
                          clear c33
                          obtain rfl := Option.some.inj H
                          obtain ⟨Ao49, co49, eo49⟩ := Kd.R_slice HO_7.out
                          subst eo49
                          go_wp2
                          repeat (go_quiet (fail); try go_wp2)
                          go_ret
                          exact ⟨by first | rfl | (simp [errW_none, errW_some] <;> rfl) | (simp [*, errW_none, errW_some] <;> rfl) | (simp [errW_none, errW_some] <;> omega) | (simp [*, errW_none, errW_some] <;> omega), by repeat (first | (with_reducible first | exact HB.out | apply below_alloc | apply pw_below_drewN | apply below_drew1) | exact HB.out)⟩
            · rw [if_neg c16] at H
              exact absurd H (by simp)
          · rw [if_neg c15] at H
            exact absurd H (by simp)
  · replace c4 := Bool.eq_false_iff.mpr c4
    subst c4
    have H1 : (some false) = some r := by rw [if_neg (show ¬ (false = true) by decide)] at H; exact H
    clear H
    have H := H1
    clear H1
    obtain rfl := Option.some.inj H
    go_enter Try.func4, Try.ntmps4
    go_wp2_with (first | (go_at_call 8; (with_reducible refine (tinderlaw06_alive.calls k  false _ A3.out).mono ?_); rintro e w50 ⟨rfl, hb⟩; have n0_ := Aside0.mk (below_step (by repeat (first | (with_reducible first | exact HB.out | apply below_alloc | apply pw_below_drewN | apply below_drew1) | exact HB.out)) hb); clear HB; have HB := n0_; clear n0_; (try clear hb); (try clear hb2); (try clear hk); (try clear hi)))
    repeat (go_quiet (first | (go_at_call 8; (with_reducible refine (tinderlaw06_alive.calls k  false _ A3.out).mono ?_); rintro e w50 ⟨rfl, hb⟩; have n0_ := Aside0.mk (below_step (by repeat (first | (with_reducible first | exact HB.out | apply below_alloc | apply pw_below_drewN | apply below_drew1) | exact HB.out)) hb); clear HB; have HB := n0_; clear n0_; (try clear hb); (try clear hb2); (try clear hk); (try clear hi))); try go_wp2_with (first | (go_at_call 8; (with_reducible refine (tinderlaw06_alive.calls k  false _ A3.out).mono ?_); rintro e w50 ⟨rfl, hb⟩; have n0_ := Aside0.mk (below_step (by repeat (first | (with_reducible first | exact HB.out | apply below_alloc | apply pw_below_drewN | apply below_drew1) | exact HB.out)) hb); clear HB; have HB := n0_; clear n0_; (try clear hb); (try clear hb2); (try clear hk); (try clear hi))))
    go_ret
    exact ⟨by first | rfl | (simp [errW_none, errW_some] <;> rfl) | (simp [*, errW_none, errW_some] <;> rfl) | (simp [errW_none, errW_some] <;> omega) | (simp [*, errW_none, errW_some] <;> omega), by repeat (first | (with_reducible first | exact HB.out | apply below_alloc | apply pw_below_drewN | apply below_drew1) | exact HB.out)⟩

/-- THE ONE PURE STATEMENT of tinderlaw06_ScanJoins: yours. -/
def tinderlaw06_ScanJoins.Pure : Prop := ∀ (a0 : ByteArray) (a1 : ByteArray), a0.size ≤ 140737488351232 → a1.size ≤ 140737488351232 → ∃ k, tinderlaw06_ScanJoins.f k a0 a1 = some true
theorem tinderlaw06_ScanJoins.walk (P : tinderlaw06_ScanJoins.Pure) (a0 : ByteArray) (a1 : ByteArray) (w : World) (w0 : a0.size ≤ 140737488351232) (w1 : a1.size ≤ 140737488351232) :
    Calls Try.prog 4 #[.string a0, .string a1] w fun e w' => e = .returned (.bool true) ∧ Below w.heap.size w w' := by
  obtain ⟨k, h⟩ := P a0 a1 w0 w1
  refine (tinderlaw06_ScanJoins.calls k a0 a1 true w h).mono ?_
  rintro e w' ⟨rfl, hd⟩
  exact ⟨rfl, hd⟩

end Go.Proofs.Ytnnhpbghimjhiaa.QScan
