-- written by a program of this session (xprint.py) out of the translation
import Derived.Test.YtnnhpbghimjhiaaQScanTx0
import Derived.Test.YtnnhpbghimjhiaaQScanTx1
import Derived.Test.YtnnhpbghimjhiaaQScanTx2
import Derived.Test.YtnnhpbghimjhiaaQScanTx4
namespace Go.Proofs.Ytnnhpbghimjhiaa.QScanT
open Go.RowKit Go.Proofs.YtnnhpbghimjhiaaW.PrintWords Go.Proofs.YtnnhpbghimjhiaaW.PrintLast Go.Proofs.YtnnhpbghimjhiaaW.PrintMore
attribute [local go_sem] max2_int min2_int max_two min_two max_three min_three max_four min_four   -- for this text's walks alone
set_option linter.unusedVariables false
set_option linter.unusedSimpArgs false

attribute [local go_sem high] eqA30
/-! ### scan_Cut: function 9 -/
def scan_Cut.l0 : Nat → List S30 → ByteArray → Int → Option (List S30 × Int)
  | 0, _, _, _ => none
  | k + 1, l, s, at_ => (scan_cutter_word.f k s at_).bind fun r => if r.2.1 = true then ((scan_small.f r.1).bind fun t => (scan_isSpecial.f r.1).bind fun sp =>
      if sp = true then ((scan_cutter_special.f k r.2.2.1 r.2.2.2 r.1).bind fun b => if b.2.2.1 = 0 then (if b.1 = 0 then scan_Cut.l0 k l b.2.2.2.1 b.2.2.2.2 else if l.length < 4398046511104 then scan_Cut.l0 k (l ++ [⟨b.1, b.2.1, wrap64 (r.2.2.2 - (r.1.size : Int))⟩]) b.2.2.2.1 b.2.2.2.2 else none) else some ([], b.2.2.1))
      else if l.length < 4398046511104 then scan_Cut.l0 k (l ++ [⟨1, t, wrap64 (r.2.2.2 - (r.1.size : Int))⟩]) r.2.2.1 r.2.2.2 else none)
    else some (l, 0)
def scan_Cut.f (k : Nat) (a0 : ByteArray) : Option (List S30 × Int) := if (a0.size : Int) > 4096 then some ([], 3) else scan_Cut.l0 k [] a0 0
theorem scan_Cut.mono_l : ∀ k y0 y1 y2, LeO (scan_Cut.l0 k y0 y1 y2) (scan_Cut.l0 (k + 1) y0 y1 y2)
  | 0, _, _, _ => fun r h => by simp [scan_Cut.l0] at h
  | k + 1, y0, y1, y2 => by
    have ih := scan_Cut.mono_l k
    unfold scan_Cut.l0
    repeat' first
      | (with_reducible exact ih _ _ _)
      | (with_reducible exact scan_cutter_word.mono _ _ _)
      | (with_reducible exact scan_cutter_special.mono _ _ _ _)
      | (with_reducible exact LeO.refl _)
      | (with_reducible exact LeO.none _)
      | (with_reducible refine LeO.ite ?_ ?_)
      | (with_reducible refine LeO.bind ?_ (fun _ => ?_))
theorem scan_Cut.mono : ∀ a0 k, LeO (scan_Cut.f k a0) (scan_Cut.f (k + 1) a0) := by
  intro a0 k
  unfold scan_Cut.f
  exact LeO.ite (LeO.refl _) (scan_Cut.mono_l _ _ _ _)
set_option maxHeartbeats 8000000 in
set_option maxRecDepth 100000 in
theorem scan_Cut.calls (k : Nat) (a0 : ByteArray) (r1 : List (S30)) (r2 : Int) (w : World) (h : scan_Cut.f k a0 = some (r1, r2)) :
    Calls Try.prog 9 #[.string a0] w fun e w' => ∃ v0_ : Value, e = .returned (.tuple #[v0_, .int .i64 r2]) ∧ Kd.R k30 30 w' w.heap.size (fun _ => True) v0_ r1 ∧ Below w.heap.size w w' := by
  unfold scan_Cut.f at h
  by_cases c0 : (a0.size : Int) > 4096
  · rw [if_pos c0] at h
    injection h with h
    injection h with e1 e2
    subst e1 e2
    have c1 : decide (4096 < (a0.size : Int)) = true := decide_eq_true c0
    have c2 : decide (4096 < a0.size) = true := decide_eq_true (by omega)
    go_enter Try.func9, Try.ntmps9
    go_wp2_with fail
    exact bodyPost_ret (v := .tuple #[.slice none 0 0, .int .i64 3]) (by simp [results, Try.results9, go_sem]) rfl ⟨_, rfl, Kd.R_nil _ _ _ _ _, Below.refl _ _⟩
  rw [if_neg c0] at h
  have c1 : decide (4096 < (a0.size : Int)) = false := decide_eq_false c0
  have c2 : decide (4096 < a0.size) = false := decide_eq_false (by omega)
  have H := Aside0.mk h
  clear h c0
  go_enter Try.func9, Try.ntmps9
  go_wp2_with fail
  go_loopg [4] k (fun gg v4 wr => ∃ (l : List S30) (s : ByteArray) (at_ : Int), Aside0 (scan_Cut.l0 gg l s at_ = some (r1, r2)) ∧ Aside0 (gg ≤ k) ∧ Aside0 (Kd.R k30 30 wr w.heap.size (fun _ => True) v4 l) ∧ Aside0 (IsS37 w wr w.heap.size s at_) ∧ Aside0 (Below w.heap.size w wr))
  case atStart => exact ⟨[], a0, 0, H, ⟨Nat.le_refl _⟩, ⟨Kd.R_nil _ _ _ _ _⟩, ⟨IsS37.new w w a0 0 (Below.refl _ _)⟩, ⟨below_alloc (Below.refl _ _) _⟩⟩
  case round =>
    clear H c1 c2
    obtain ⟨l, s, at_, HA, HK1, HO, HI, HB⟩ := hrel
    cases gk with
    | zero => exact absurd HA.out (by simp [scan_Cut.l0])
    | succ k1 =>
    have H := HA.out
    clear HA
    simp only [scan_Cut.l0] at H
    replace H := Option.bind_eq_some_iff.mp H
    obtain ⟨⟨t1, t2, t3, t4⟩, A10, H⟩ := H
    have A1 := Aside0.mk A10
    clear A10
    simp only at H
    have H' := Aside0.mk H
    clear H
    go_wp2_with (go_at_call 14; refine (scan_cutter_word.calls k1 w.heap.size s at_ t1 t2 t3 t4 w _ HI.out HB.out A1.out).mono ?_; rintro e w1 ⟨rfl, hi, hb, hk⟩; have n0_ := Aside0.mk (Kd.R_mono (Kd.R_keep (Kd.R_types HO.out HI.out.1 (by decide)) hk (fun _ h => h.2)) (fun _ h => h.1)); clear HO HI HB hk; have HO := n0_; clear n0_; have HI := Aside0.mk hi; have HB := Aside0.mk hb; clear hi hb; cases t2)
    · have H := H'.out
      rw [if_neg (by decide)] at H
      injection H with H
      injection H with e1 e2
      subst e1 e2
      clear H'
      obtain ⟨A, c, rfl, hc, hC⟩ := Kd.R_reads HO.out
      go_wp2_with fail
      exact bodyPost_ret (v := .tuple #[.slice A l.length c, .int .i64 0]) (by simp [results, Try.results9, go_sem]) rfl ⟨_, rfl, HO.out, HB.out⟩
    · have H := H'.out
      rw [if_pos trivial] at H
      clear H'
      replace H := Option.bind_eq_some_iff.mp H
      obtain ⟨t, A20, H⟩ := H
      have A2 := Aside0.mk A20
      clear A20
      replace H := Option.bind_eq_some_iff.mp H
      obtain ⟨sp, A30, H⟩ := H
      have A3 := Aside0.mk A30
      clear A30
      have H' := Aside0.mk H
      clear H
      go_upto_region 8 with (fail)
      go_cut [8] (fun s8 wc => ∃ p, s8 = .pointer (some ⟨p, 0, none⟩) ∧ Aside0 (wc.heap[p]? = some (.cells #[.int .i64 1, .string t, .int .i64 (wrap64 (t4 - (t1.size : Int)))] 30 (0, 0))) ∧ Aside0 (Kd.R k30 30 wc w.heap.size (fun k => k ≠ p) u4 l) ∧ Aside0 (IsS37 w wc w.heap.size t3 t4) ∧ Aside0 (Below w.heap.size w wc) ∧ Aside0 (w.heap.size ≤ p))
      case first =>
        refine start_ (n := 12) (S := fun w' => w'.cell? ⟨w.heap.size, 1, none⟩ = some (.int .i64 t4)) (ds := [11]) #[false, false, false, false, false, false, false, false, false, false, false, false] (by kernel_rfl) rfl rfl ((blk_cell HI.out.1 1).trans rfl) (fun hHeld => ?_)
        refine with_tab (rfl : rtab .any (opsOf Try.f9 8) = rtab .any (opsOf Try.f9 8)) (fun HT_ => ?_)
        have HI9 : IsS37 w w1.drew w.heap.size t3 t4 := HI.out
        have HO9 : Kd.R k30 30 w1.drew w.heap.size (fun _ => True) u4 l := Kd.R_drew HO.out
        have HB9 : Below w.heap.size w w1.drew := below_drew1 HB.out
        clear HI HO HB
        have HI := Aside0.mk HI9
        have HO := Aside0.mk HO9
        have HB := Aside0.mk HB9
        clear HI9 HO9 HB9
        generalize w1.drew = w9 at HI HO HB hHeld ⊢
        refine pure_ (i := 0) (N := some 24) (v := ?_) (a' := ?_) #[true, false, false, false, false, false, false, false, false, false, false, false] rfl rfl (any_of HT_.out (by kernel_rfl)) (fun _ _ _ h => h) (Or.inl ⟨by rfl, ?_⟩) ?_ ?_
        rotate_left
        · intro w'
          go_simp
          with_reducible rfl
        rotate_left
        · simp only [Act.put, List.setIfInBounds_toArray, List.set_cons_zero, List.set_cons_succ, i64_w, i32_w]
          rfl
        refine pure_ (i := 2) (N := some 26) (v := ?_) (a' := ?_) #[true, false, true, false, false, false, false, false, false, false, false, false] rfl rfl (any_of HT_.out (by kernel_rfl)) (fun _ _ _ h => h) (Or.inl ⟨by rfl, ?_⟩) ?_ ?_
        rotate_left
        · intro w'
          go_simp
          with_reducible rfl
        rotate_left
        · simp only [Act.put, List.setIfInBounds_toArray, List.set_cons_zero, List.set_cons_succ, i64_w, i32_w]
          rfl
        refine pure_ (i := 3) (N := some 27) (v := ?_) (a' := ?_) #[true, false, true, true, false, false, false, false, false, false, false, false] rfl rfl (any_of HT_.out (by kernel_rfl)) (fun _ _ _ h => h) (Or.inl ⟨by rfl, ?_⟩) ?_ ?_
        rotate_left
        · intro w'
          go_simp
          with_reducible rfl
        rotate_left
        · simp only [Act.put, List.setIfInBounds_toArray, List.set_cons_zero, List.set_cons_succ, i64_w, i32_w]
          rfl
        refine pure_ (i := 4) (N := some 28) (v := ?_) (a' := ?_) #[true, false, true, true, true, false, false, false, false, false, false, false] rfl rfl (any_of HT_.out (by kernel_rfl)) (fun _ _ _ h => h) (Or.inl ⟨by rfl, ?_⟩) ?_ ?_
        rotate_left
        · intro w'
          go_simp
          with_reducible rfl
        rotate_left
        · simp only [Act.put, List.setIfInBounds_toArray, List.set_cons_zero, List.set_cons_succ, i64_w, i32_w]
          rfl
        refine pure_ (i := 6) (N := some 30) (v := ?_) (a' := ?_) #[true, false, true, true, true, false, true, false, false, false, false, false] rfl rfl (any_of HT_.out (by kernel_rfl)) (fun _ _ _ h => h) (Or.inl ⟨by rfl, ?_⟩) ?_ ?_
        rotate_left
        · intro w'
          go_simp
          with_reducible rfl
        rotate_left
        · simp only [Act.put, List.setIfInBounds_toArray, List.set_cons_zero, List.set_cons_succ, i64_w, i32_w]
          rfl
        refine pure_ (i := 7) (N := some 31) (v := ?_) (a' := ?_) #[true, false, true, true, true, false, true, true, false, false, false, false] rfl rfl (any_of HT_.out (by kernel_rfl)) (fun _ _ _ h => h) (Or.inl ⟨by rfl, ?_⟩) ?_ ?_
        rotate_left
        · intro w'
          go_simp
          with_reducible rfl
        rotate_left
        · simp only [Act.put, List.setIfInBounds_toArray, List.set_cons_zero, List.set_cons_succ, i64_w, i32_w]
          rfl
        refine take_ (i := 5) (N := some 29) (v := ?_) (a' := ?_) #[true, false, true, true, true, true, true, true, false, false, false, false] rfl rfl (take_of HT_.out (by kernel_rfl)) (fun _ _ _ h => h) (Or.inl ⟨by rfl, ?_⟩) hHeld ?_ ?_
        rotate_left
        · rintro w' hS; go_split_ands
          go_simp
          with_reducible rfl
        rotate_left
        · simp only [Act.put, List.setIfInBounds_toArray, List.set_cons_zero, List.set_cons_succ, i64_w, i32_w]
          rfl
        refine pure_ (i := 8) (N := some 32) (v := ?_) (a' := ?_) #[true, false, true, true, true, true, true, true, true, false, false, false] rfl rfl (any_of HT_.out (by kernel_rfl)) (fun _ _ _ h => h) (Or.inl ⟨by rfl, ?_⟩) ?_ ?_
        rotate_left
        · intro w'
          go_simp
          with_reducible rfl
        rotate_left
        · simp only [Act.put, List.setIfInBounds_toArray, List.set_cons_zero, List.set_cons_succ, i64_w, i32_w]
          rfl
        refine two_ (i := 1) (j := 10) (Ni := some 25) (Nj := some 8) #[true, true, true, true, true, true, true, true, true, false, false, false] #[true, false, true, true, true, true, true, true, true, false, true, false] rfl rfl rfl rfl (two_of HT_.out (by kernel_rfl)) (by decide) (by decide) (fun K hK => ?_) (fun K hK => ?_)
        · refine goes_ Try.func15 (by kernel_rfl) rfl #[.string t1] (by rfl) rfl rfl (by simp only [List.map_toArray, List.map_cons, List.map_nil]; rfl) ?_
          with_reducible refine (scan_small.calls _ t _ A2.out).mono ?_
          rintro e w3 ⟨rfl, hb⟩
          refine ⟨_, rfl, ?_⟩
          have n0_ := Aside0.mk (HI.out.below hb)
          have n1_ := Aside0.mk (Kd.R_below HO.out hb)
          have n2_ := Aside0.mk (below_step HB.out hb)
          clear HI HO HB
          have HI := n0_
          have HO := n1_
          have HB := n2_
          clear n0_ n1_ n2_
          clear hb hHeld
          refine hK.out _ _ ((blk_cell HI.out.1 1).trans rfl) (fun hHeld => ?_)
          clear hK K
          refine norm_ (a' := ?_) ?_ ?_
          rotate_left
          · show Act.put _ (some 25) _ = _
            simp only [Act.put, List.setIfInBounds_toArray, List.set_cons_zero, List.set_cons_succ, i64_w, i32_w]
            rfl
          refine pure_ (i := 9) (N := some 33) (v := ?_) (a' := ?_) #[true, true, true, true, true, true, true, true, true, true, false, false] rfl rfl (any_of HT_.out (by kernel_rfl)) (fun _ _ _ h => h) (Or.inl ⟨by rfl, ?_⟩) ?_ ?_
          rotate_left
          · intro w'
            go_simp
            with_reducible rfl
          rotate_left
          · simp only [Act.put, List.setIfInBounds_toArray, List.set_cons_zero, List.set_cons_succ, i64_w, i32_w]
            rfl
          refine one_ (i := 10) (N := some 8) #[true, true, true, true, true, true, true, true, true, true, true, false] rfl rfl (one_of HT_.out (by kernel_rfl)) (by decide) (fun K hK => ?_)
          refine value_ (w1 := ?_) (v := ?_) (by rfl) rfl ?_ ?_
          rotate_left 2
          · go_simp
            constructor
            · rfl
            · rfl
          have n0_ := Aside0.mk (HI.out.alloc (.cells #[.int .i64 0, .string ⟨#[]⟩, .int .i64 0] 30))
          have n1_ := Aside0.mk (Kd.R_mono (ok' := fun k => k ≠ w3.heap.size) (Kd.R_alloc (Kd.R_bound HO.out) (.cells #[.int .i64 0, .string ⟨#[]⟩, .int .i64 0] 30)) (fun k h => Nat.ne_of_lt h.2.2.1))
          have n2_ := Aside0.mk (below_size HB.out)
          have n3_ := Aside0.mk (below_alloc HB.out (.cells #[.int .i64 0, .string ⟨#[]⟩, .int .i64 0] 30))
          have n4_ := Aside0.mk (blk_new w3 (.cells #[.int .i64 0, .string ⟨#[]⟩, .int .i64 0] 30))
          clear HI HO HB
          have HI := n0_
          have HO := n1_
          have HG := n2_
          have HB := n3_
          have HP := n4_
          clear n0_ n1_ n2_ n3_ n4_
          clear hHeld
          refine hK.out _ _ ((blk_cell HI.out.1 1).trans rfl) (fun hHeld => ?_)
          clear hK K
          refine norm_ (a' := ?_) ?_ ?_
          rotate_left
          · show Act.put _ (some 8) _ = _
            simp only [Act.put, List.setIfInBounds_toArray, List.set_cons_zero, List.set_cons_succ, i64_w, i32_w]
            rfl
          generalize hp_ : w3.heap.size = p at HO HG HP ⊢
          generalize w3.alloc (.cells #[.int .i64 0, .string ⟨#[]⟩, .int .i64 0] 30) = w5 at HI HO HB HP hHeld ⊢
          refine last_ (i := 11) (N := none) #[true, true, true, true, true, true, true, true, true, true, true, true] rfl rfl (one_of HT_.out (by kernel_rfl)) (by decide) (fun K hK => ?_)
          have p0 : w5.cell? ⟨p, 0, none⟩ = some (.int .i64 0) := (blk_cell HP.out 0).trans rfl
          have f0 := blk_frozen HP.out 0
          have HP1 := Aside0.mk (blk_put HP.out 0 (.int .i64 1) rfl)
          have p1 : (w5.setCell ⟨p, 0, none⟩ (.int .i64 1)).cell? ⟨p, 1, none⟩ = some (.string ⟨#[]⟩) := (blk_cell HP1.out 1).trans rfl
          have f1 := blk_frozen HP1.out 1
          have HP2 := Aside0.mk (blk_put HP1.out 1 (.string t) rfl)
          have p2 : ((w5.setCell ⟨p, 0, none⟩ (.int .i64 1)).setCell ⟨p, 1, none⟩ (.string t)).cell? ⟨p, 2, none⟩ = some (.int .i64 0) := (blk_cell HP2.out 2).trans rfl
          have f2 := blk_frozen HP2.out 2
          have HP3 := Aside0.mk (blk_put HP2.out 2 (.int .i64 (wrap64 (t4 - (t1.size : Int)))) rfl)
          go_simp
          refine hK.out _ _ ?_
          clear hK K
          refine done_ (done_of HT_.out (by kernel_rfl)) ?_
          have hne : w.heap.size ≠ p := IsS37.ne_blk HI.out HP.out (by decide)
          have HI3 := Aside0.mk (((HI.out.far (p := ⟨p, 0, none⟩) hne (.int .i64 1)).far (p := ⟨p, 1, none⟩) hne (.string t)).far (p := ⟨p, 2, none⟩) hne (.int .i64 (wrap64 (t4 - (t1.size : Int)))))
          have HO3 := Aside0.mk (Kd.R_far (p := ⟨p, 2, none⟩) (Kd.R_far (p := ⟨p, 1, none⟩) (Kd.R_far (p := ⟨p, 0, none⟩) HO.out (fun _ h => h) (.int .i64 1)) (fun _ h => h) (.string t)) (fun _ h => h) (.int .i64 (wrap64 (t4 - (t1.size : Int)))))
          have HB3 := Aside0.mk (below_set (below_set (below_set HB.out HG.out (j := 0) (v := .int .i64 1)) HG.out (j := 1) (v := .string t)) HG.out (j := 2) (v := .int .i64 (wrap64 (t4 - (t1.size : Int)))))
          clear p0 p1 p2 f0 f1 f2 hHeld HI HO HB HP HP1 HP2 HT_ hne
          go_wp2_with fail
          go_meet
          case rel => exact ⟨p, rfl, HP3, HO3, HI3, HB3, HG⟩
        · refine value_ (w1 := ?_) (v := ?_) (by rfl) rfl ?_ ?_
          rotate_left 2
          · go_simp
            constructor
            · rfl
            · rfl
          have n0_ := Aside0.mk (HI.out.alloc (.cells #[.int .i64 0, .string ⟨#[]⟩, .int .i64 0] 30))
          have n1_ := Aside0.mk (Kd.R_mono (ok' := fun k => k ≠ w9.heap.size) (Kd.R_alloc (Kd.R_bound HO.out) (.cells #[.int .i64 0, .string ⟨#[]⟩, .int .i64 0] 30)) (fun k h => Nat.ne_of_lt h.2.2.1))
          have n2_ := Aside0.mk (below_size HB.out)
          have n3_ := Aside0.mk (below_alloc HB.out (.cells #[.int .i64 0, .string ⟨#[]⟩, .int .i64 0] 30))
          have n4_ := Aside0.mk (blk_new w9 (.cells #[.int .i64 0, .string ⟨#[]⟩, .int .i64 0] 30))
          clear HI HO HB
          have HI := n0_
          have HO := n1_
          have HG := n2_
          have HB := n3_
          have HP := n4_
          clear n0_ n1_ n2_ n3_ n4_
          clear hHeld
          refine hK.out _ _ ((blk_cell HI.out.1 1).trans rfl) (fun hHeld => ?_)
          clear hK K
          refine norm_ (a' := ?_) ?_ ?_
          rotate_left
          · show Act.put _ (some 8) _ = _
            simp only [Act.put, List.setIfInBounds_toArray, List.set_cons_zero, List.set_cons_succ, i64_w, i32_w]
            rfl
          refine one_ (i := 1) (N := some 25) #[true, true, true, true, true, true, true, true, true, false, true, false] rfl rfl (one_of HT_.out (by kernel_rfl)) (by decide) (fun K hK => ?_)
          refine goes_ Try.func15 (by kernel_rfl) rfl #[.string t1] (by rfl) rfl rfl (by simp only [List.map_toArray, List.map_cons, List.map_nil]; rfl) ?_
          with_reducible refine (scan_small.calls _ t _ A2.out).mono ?_
          rintro e w5 ⟨rfl, hb⟩
          refine ⟨_, rfl, ?_⟩
          have n0_ := Aside0.mk (HI.out.below hb)
          have n1_ := Aside0.mk (Kd.R_below HO.out hb)
          have n2_ := Aside0.mk (below_step HB.out hb)
          have n3_ := Aside0.mk (blk_below HP.out hb)
          clear HI HO HB HP
          have HI := n0_
          have HO := n1_
          have HB := n2_
          have HP := n3_
          clear n0_ n1_ n2_ n3_
          clear hb hHeld
          refine hK.out _ _ ((blk_cell HI.out.1 1).trans rfl) (fun hHeld => ?_)
          clear hK K
          refine norm_ (a' := ?_) ?_ ?_
          rotate_left
          · show Act.put _ (some 25) _ = _
            simp only [Act.put, List.setIfInBounds_toArray, List.set_cons_zero, List.set_cons_succ, i64_w, i32_w]
            rfl
          refine pure_ (i := 9) (N := some 33) (v := ?_) (a' := ?_) #[true, true, true, true, true, true, true, true, true, true, true, false] rfl rfl (any_of HT_.out (by kernel_rfl)) (fun _ _ _ h => h) (Or.inl ⟨by rfl, ?_⟩) ?_ ?_
          rotate_left
          · intro w'
            go_simp
            with_reducible rfl
          rotate_left
          · simp only [Act.put, List.setIfInBounds_toArray, List.set_cons_zero, List.set_cons_succ, i64_w, i32_w]
            rfl
          generalize hp_ : w9.heap.size = p at HO HG HP ⊢
          refine last_ (i := 11) (N := none) #[true, true, true, true, true, true, true, true, true, true, true, true] rfl rfl (one_of HT_.out (by kernel_rfl)) (by decide) (fun K hK => ?_)
          have p0 : w5.cell? ⟨p, 0, none⟩ = some (.int .i64 0) := (blk_cell HP.out 0).trans rfl
          have f0 := blk_frozen HP.out 0
          have HP1 := Aside0.mk (blk_put HP.out 0 (.int .i64 1) rfl)
          have p1 : (w5.setCell ⟨p, 0, none⟩ (.int .i64 1)).cell? ⟨p, 1, none⟩ = some (.string ⟨#[]⟩) := (blk_cell HP1.out 1).trans rfl
          have f1 := blk_frozen HP1.out 1
          have HP2 := Aside0.mk (blk_put HP1.out 1 (.string t) rfl)
          have p2 : ((w5.setCell ⟨p, 0, none⟩ (.int .i64 1)).setCell ⟨p, 1, none⟩ (.string t)).cell? ⟨p, 2, none⟩ = some (.int .i64 0) := (blk_cell HP2.out 2).trans rfl
          have f2 := blk_frozen HP2.out 2
          have HP3 := Aside0.mk (blk_put HP2.out 2 (.int .i64 (wrap64 (t4 - (t1.size : Int)))) rfl)
          go_simp
          refine hK.out _ _ ?_
          clear hK K
          refine done_ (done_of HT_.out (by kernel_rfl)) ?_
          have hne : w.heap.size ≠ p := IsS37.ne_blk HI.out HP.out (by decide)
          have HI3 := Aside0.mk (((HI.out.far (p := ⟨p, 0, none⟩) hne (.int .i64 1)).far (p := ⟨p, 1, none⟩) hne (.string t)).far (p := ⟨p, 2, none⟩) hne (.int .i64 (wrap64 (t4 - (t1.size : Int)))))
          have HO3 := Aside0.mk (Kd.R_far (p := ⟨p, 2, none⟩) (Kd.R_far (p := ⟨p, 1, none⟩) (Kd.R_far (p := ⟨p, 0, none⟩) HO.out (fun _ h => h) (.int .i64 1)) (fun _ h => h) (.string t)) (fun _ h => h) (.int .i64 (wrap64 (t4 - (t1.size : Int)))))
          have HB3 := Aside0.mk (below_set (below_set (below_set HB.out HG.out (j := 0) (v := .int .i64 1)) HG.out (j := 1) (v := .string t)) HG.out (j := 2) (v := .int .i64 (wrap64 (t4 - (t1.size : Int)))))
          clear p0 p1 p2 f0 f1 f2 hHeld HI HO HB HP HP1 HP2 HT_ hne
          go_wp2_with fail
          go_meet
          case rel => exact ⟨p, rfl, HP3, HO3, HI3, HB3, HG⟩
      case rest =>
        clear HO HI HB
        obtain ⟨p, rfl, HP, HO, HI, HB, HG⟩ := hcut
        go_wp2_with fail
        refine (scan_isSpecial.calls t1 sp _ A3.out).mono ?_
        rintro e w2 ⟨rfl, hd⟩
        have hb := hd.below
        have n0_ := Aside0.mk (blk_below HP.out hb)
        have n1_ := Aside0.mk (Kd.R_below HO.out hb)
        have n2_ := Aside0.mk (HI.out.below hb)
        have n3_ := Aside0.mk (below_step HB.out hb)
        clear HP HO HI HB hb hd
        have HP := n0_
        have HO := n1_
        have HI := n2_
        have HB := n3_
        clear n0_ n1_ n2_ n3_
        cases sp
        · have H := H'.out
          rw [if_neg (by decide)] at H
          by_cases c3 : l.length < 4398046511104
          case neg => rw [if_neg c3] at H; cases H
          rw [if_pos c3] at H
          have LM := Aside0.mk c3
          have H2 := Aside0.mk H
          clear H H' c3
          have HO1 := Aside0.mk (Kd.R_mono (ok' := fun _ => True) HO.out (fun _ _ => trivial))
          clear HO
          have p0 : w2.cell? ⟨p, 0, none⟩ = some (.int .i64 1) := (blk_cell HP.out 0).trans rfl
          have p1 : w2.cell? ⟨p, 1, none⟩ = some (.string t) := (blk_cell HP.out 1).trans rfl
          have p2 : w2.cell? ⟨p, 2, none⟩ = some (.int .i64 (wrap64 (t4 - (t1.size : Int)))) := (blk_cell HP.out 2).trans rfl
          have HBX := HB
          go_wp2_with (at_builtin; refine Kd.R_append k30 (w0 := w) w.heap.size rfl (.tmp 51) (.tmp 53) 23 30 (.agg #[(.int .i64 0), (.string ⟨#[]⟩), (.int .i64 0)]) 32 rfl Try.underlying23 info30 rfl (by decide) (by decide) u4 l ⟨1, t, wrap64 (t4 - (t1.size : Int))⟩ [.int .i64 1, .string t, .int .i64 (wrap64 (t4 - (t1.size : Int)))] (fun _ => True) (fun _ => False) rfl rfl ?aP (fun _ hk => hk.elim) ?aF ?aO ?aB ?aS ?aL ?_; (case aP => exact k30_mkM _ _ _ _); (case aF => exact fun _ _ => trivial); (case aO => exact HO1.out); (case aB => exact HBX.out); (case aS => exact HBX.out.size); (case aL => have := LM.out; omega); intro v5 w5 ho hb hg hat; have HI9 := Aside0.mk (HI.out.grown hg (IsS37.own_ne HI.out HO1.out (by decide))); have HO9 := Aside0.mk ho; have HB9 := Aside0.mk hb; clear ho hb hg hat)
          go_roundg k1
          case measure => omega
          case rel => exact ⟨_, t3, t4, H2, ⟨by have := HK1.out; omega⟩, HO9, HI9, HB9⟩
        · have H := H'.out
          rw [if_pos rfl] at H
          replace H := Option.bind_eq_some_iff.mp H
          obtain ⟨⟨b1, b2, b3, b4, b5⟩, A40, H⟩ := H
          have A4 := Aside0.mk A40
          clear A40
          simp only at H
          have H2 := Aside0.mk H
          clear H H'
          have HNE := Aside0.mk (IsS37.ne_blk HI.out HP.out (by decide))
          go_wp2_with fail
          refine (scan_cutter_special.calls k1 w.heap.size t3 t4 t1 b1 b2 b3 b4 b5 w _ HI.out HB.out A4.out).mono ?_
          rintro e w3 ⟨rfl, hi, hb, hk⟩
          have n0_ := Aside0.mk (KeepBut.blk hk HP.out HNE.out.symm (by simp))
          have n1_ := Aside0.mk (Kd.R_mono (ok' := fun k => k ≠ p) (Kd.R_keep (Kd.R_types HO.out HI.out.1 (by decide)) hk (fun _ h => h.2)) (fun _ h => h.1))
          clear HP HO HI HB hk
          have HP := n0_
          have HO := n1_
          have HI := Aside0.mk hi
          have HB := Aside0.mk hb
          clear n0_ n1_ hi hb
          have p0 : w3.cell? ⟨p, 0, none⟩ = some (.int .i64 1) := (blk_cell HP.out 0).trans rfl
          have f0 := blk_frozen HP.out 0
          have HP1 := Aside0.mk (blk_put HP.out 0 (.int .i64 b1) rfl)
          have p1 : (w3.setCell ⟨p, 0, none⟩ (.int .i64 b1)).cell? ⟨p, 1, none⟩ = some (.string t) := (blk_cell HP1.out 1).trans rfl
          have f1 := blk_frozen HP1.out 1
          have HP2 := Aside0.mk (blk_put HP1.out 1 (.string b2) rfl)
          by_cases z3 : b3 = 0
          · subst z3
            have H := H2.out
            rw [if_pos rfl] at H
            have HI3 := Aside0.mk ((HI.out.far (p := ⟨p, 0, none⟩) HNE.out (.int .i64 b1)).far (p := ⟨p, 1, none⟩) HNE.out (.string b2))
            have HO3 := Aside0.mk (Kd.R_far (p := ⟨p, 1, none⟩) (Kd.R_far (p := ⟨p, 0, none⟩) HO.out (fun _ h => h) (.int .i64 b1)) (fun _ h => h) (.string b2))
            have HB3 := Aside0.mk (below_set (below_set HB.out HG.out (j := 0) (v := .int .i64 b1)) HG.out (j := 1) (v := .string b2))
            clear HI HO HB HP H2
            have q0 : ((w3.setCell ⟨p, 0, none⟩ (.int .i64 b1)).setCell ⟨p, 1, none⟩ (.string b2)).cell? ⟨p, 0, none⟩ = some (.int .i64 b1) := (blk_cell HP2.out 0).trans rfl
            have q1 : ((w3.setCell ⟨p, 0, none⟩ (.int .i64 b1)).setCell ⟨p, 1, none⟩ (.string b2)).cell? ⟨p, 1, none⟩ = some (.string b2) := (blk_cell HP2.out 1).trans rfl
            have q2 : ((w3.setCell ⟨p, 0, none⟩ (.int .i64 b1)).setCell ⟨p, 1, none⟩ (.string b2)).cell? ⟨p, 2, none⟩ = some (.int .i64 (wrap64 (t4 - (t1.size : Int)))) := (blk_cell HP2.out 2).trans rfl
            go_upto_region 14 with (fail)
            generalize ((w3.setCell ⟨p, 0, none⟩ (.int .i64 b1)).setCell ⟨p, 1, none⟩ (.string b2)) = w4 at HI3 HO3 HB3 q0 q1 q2 HP2 ⊢
            clear p0 p1 f0 f1 HP1
            by_cases z1 : b1 = 0
            · subst z1
              rw [if_pos rfl] at H
              have H2 := Aside0.mk H
              clear H
              go_wp2_with fail
              go_roundg k1
              case measure => omega
              case rel => exact ⟨l, b4, b5, H2, ⟨by have := HK1.out; omega⟩, ⟨Kd.R_mono HO3.out (fun _ _ => trivial)⟩, HI3, HB3⟩
            · rw [if_neg z1] at H
              have z2 : (b1 != 0) = true := bne_iff_ne.mpr z1
              by_cases c3 : l.length < 4398046511104
              case neg => rw [if_neg c3] at H; cases H
              rw [if_pos c3] at H
              have LM := Aside0.mk c3
              have H2 := Aside0.mk H
              clear H c3 z1
              have HO1 := Aside0.mk (Kd.R_mono (ok' := fun _ => True) HO3.out (fun _ _ => trivial))
              clear HO3
              have HBX := HB3
              go_wp2_with (at_builtin; refine Kd.R_append k30 (w0 := w) w.heap.size rfl (.tmp 51) (.tmp 53) 23 30 (.agg #[(.int .i64 0), (.string ⟨#[]⟩), (.int .i64 0)]) 32 rfl Try.underlying23 info30 rfl (by decide) (by decide) u4 l ⟨b1, b2, wrap64 (t4 - (t1.size : Int))⟩ [.int .i64 b1, .string b2, .int .i64 (wrap64 (t4 - (t1.size : Int)))] (fun _ => True) (fun _ => False) rfl rfl ?aP (fun _ hk => hk.elim) ?aF ?aO ?aB ?aS ?aL ?_; (case aP => exact k30_mkM _ _ _ _); (case aF => exact fun _ _ => trivial); (case aO => exact HO1.out); (case aB => exact HBX.out); (case aS => exact HBX.out.size); (case aL => have := LM.out; omega); intro v5 w5 ho hb hg hat; have HI9 := Aside0.mk (HI3.out.grown hg (IsS37.own_ne HI3.out HO1.out (by decide))); have HO9 := Aside0.mk ho; have HB9 := Aside0.mk hb; clear ho hb hg hat)
              go_roundg k1
              case measure => omega
              case rel => exact ⟨_, b4, b5, H2, ⟨by have := HK1.out; omega⟩, HO9, HI9, HB9⟩
          · have H := H2.out
            rw [if_neg z3] at H
            injection H with H
            injection H with e1 e2
            subst e1 e2
            have z4 : (b3 != 0) = true := bne_iff_ne.mpr z3
            clear H2
            go_wp2_with fail
            exact bodyPost_ret (v := .tuple #[.slice none 0 0, .int .i64 b3]) (by simp [results, Try.results9, go_sem]) rfl ⟨_, rfl, Kd.R_nil _ _ _ _ _, below_set (below_set HB.out HG.out) HG.out⟩

/-! ### tinderref06_Same: function 11 -/
def tinderref06_Same.l0 : Nat → List (S30) → List (S30) → Int → Option (Bool)
  | 0, _, _, _ => none
  | k + 1, x0, x1, x5 => if x5 < (x0.length : Int) then (if 0 ≤ x5 then (if x5 < (x1.length : Int) then (if (!(((rd_T30 x0 x5).f0) == ((rd_T30 x1 x5).f0)) || (!((((rd_T30 x0 x5).f1).toList) == (((rd_T30 x1 x5).f1).toList)) || (!(((rd_T30 x0 x5).f2) == ((rd_T30 x1 x5).f2))))) = true then (some false) else (tinderref06_Same.l0 k x0 x1 (wrap64 (x5 + 1)))) else (none)) else (none)) else (some true)
def tinderref06_Same.f (k : Nat) (l0 : List (S30)) (l1 : List (S30)) : Option (Bool) := if (l0.length : Int) = (l1.length : Int) then (tinderref06_Same.l0 k l0 l1 0) else (some false)
theorem tinderref06_Same.mono_l : ∀ k, (∀ y0 y1 y2, LeO (tinderref06_Same.l0 k y0 y1 y2) (tinderref06_Same.l0 (k + 1) y0 y1 y2))
  | 0 => fun _ _ _ r h => by simp [tinderref06_Same.l0] at h
  | k + 1 => by
    have ih0 := tinderref06_Same.mono_l k
    · intro y0 y1 y2
      unfold tinderref06_Same.l0
      repeat' first
      | (with_reducible exact ih0 _ _ _)
      | (with_reducible exact LeO.refl _)
      | (with_reducible exact LeO.none _)
      | (with_reducible refine LeO.ite ?_ ?_)
      | (with_reducible refine LeO.bind ?_ (fun _ => ?_))
      | exact ih0 _ _ _
      | exact LeO.none _
      | refine LeO.ite ?_ ?_
      | refine LeO.bind ?_ (fun _ => ?_)
theorem tinderref06_Same.mono : ∀ a0 a1 k, LeO (tinderref06_Same.f k a0 a1) (tinderref06_Same.f (k + 1) a0 a1) := by
  intro a0 a1 k
  have ih0 := tinderref06_Same.mono_l k
  unfold tinderref06_Same.f
  repeat' first
      | (with_reducible exact ih0 _ _ _)
      | (with_reducible exact LeO.refl _)
      | (with_reducible exact LeO.none _)
      | (with_reducible refine LeO.ite ?_ ?_)
      | (with_reducible refine LeO.bind ?_ (fun _ => ?_))
      | exact ih0 _ _ _
      | exact LeO.none _
      | refine LeO.ite ?_ ?_
      | refine LeO.bind ?_ (fun _ => ?_)
set_option maxHeartbeats 8000000 in
set_option maxRecDepth 100000 in
theorem tinderref06_Same.calls (k : Nat) (A0 : Option Addr) (c0 : Nat) (l0 : List (S30)) (A1 : Option Addr) (c1 : Nat) (l1 : List (S30)) (r : Bool) (w : World) (hr0 : Kd.C k30 w A0 l0.length l0) (hc0 : l0.length ≤ c0) (hr1 : Kd.C k30 w A1 l1.length l1) (hc1 : l1.length ≤ c1) (h : tinderref06_Same.f k l0 l1 = some r) :
    Calls Try.prog 11 #[.slice A0 l0.length c0, .slice A1 l1.length c1] w fun e w' => e = .returned (.bool r) ∧ Drawn0 w w' := by
  have hu30 := Try.underlying30
  have HR0 := Aside0.mk hr0
  have HC0 := Aside0.mk hc0
  clear hr0 hc0
  have HR1 := Aside0.mk hr1
  have HC1 := Aside0.mk hc1
  clear hr1 hc1
  have H : (if (l0.length : Int) = (l1.length : Int) then (tinderref06_Same.l0 k l0 l1 0) else (some false)) = some r := h
  clear h
  by_cases c3 : (l0.length : Int) = (l1.length : Int)
  · rw [if_pos c3] at H
    have c3b0 : ((l0.length : Int) == (l1.length : Int)) = true := beq_iff_eq.mpr c3
    have c3b1 : ((l0.length : Int) != (l1.length : Int)) = false := bne_eq_false_iff_eq.mpr c3
    have c3b2 : (l0.length == l1.length) = true := by first | simpa using c3 | (simp at c3 ⊢; omega)
    clear c3
    have H' := Aside0.mk H
    clear H
    go_enter Try.func11, Try.ntmps11
    go_wp2
    repeat (go_quiet (fail); try go_wp2)
    go_loopg [5] k (fun kq v5 w' => ∃ (x5_1 : Int), v5 = .int .i64 x5_1 ∧ Aside0 (tinderref06_Same.l0 kq l0 l1 x5_1 = some r) ∧ Aside0 (kq ≤ k) ∧ Drawn0 w w')
    case atStart => exact ⟨(0), (by first | rfl | (simp; done) | (simp [*]; done) | (simp <;> omega) | (simp [*] <;> omega)), H', ⟨Nat.le_refl _⟩, by repeat (first | exact Drawn0.refl _ | apply Drawn0.step)⟩
    case round =>
      clear H'
      try clear c1
      try clear p2
      try clear c3
      try clear c3b0
      try clear c3b1
      try clear c3b2
      obtain ⟨x5_1, rfl, HA, HK1, ⟨m1, rfl⟩⟩ := hrel
      cases gk with
      | zero => exact absurd HA.out (by simp [tinderref06_Same.l0])
      | succ k1 =>
        have H := HA.out
        clear HA
        simp only [tinderref06_Same.l0] at H
        by_cases c4 : x5_1 < (l0.length : Int)
        · rw [if_pos c4] at H
          have c4b0 : decide (x5_1 < (l0.length : Int)) = true := decide_eq_true c4
          clear c4
          by_cases c5 : 0 ≤ x5_1
          · rw [if_pos c5] at H
            have c5b0 : decide (0 ≤ x5_1) = true := decide_eq_true c5
            clear c5
            by_cases c6 : x5_1 < (l1.length : Int)
            · rw [if_pos c6] at H
              have c6b0 : decide (x5_1 < (l1.length : Int)) = true := decide_eq_true c6
              clear c6
              by_cases c7 : (!(((rd_T30 l0 x5_1).f0) == ((rd_T30 l1 x5_1).f0)) || (!((((rd_T30 l0 x5_1).f1).toList) == (((rd_T30 l1 x5_1).f1).toList)) || (!(((rd_T30 l0 x5_1).f2) == ((rd_T30 l1 x5_1).f2))))) = true
              · rw [if_pos c7] at H
                have c7b0 : (!(((rd_T30 l0 x5_1).f0) == ((rd_T30 l1 x5_1).f0)) || (!((((rd_T30 l0 x5_1).f1).toList) == (((rd_T30 l1 x5_1).f1).toList)) || (!(((rd_T30 l0 x5_1).f2) == ((rd_T30 l1 x5_1).f2))))) = true := c7
                clear c7
                obtain rfl := Option.some.inj H
                have p157 : 0 ≤ (x5_1 : Int) := of_decide_eq_true (by first | (with_reducible assumption) | assumption)
                have q157 : x5_1 < (l0.length : Int) := of_decide_eq_true (by first | (with_reducible assumption) | assumption)
                obtain ⟨ad157, e157, hx157_0, hx157_1, hx157_2⟩ := at_T30 HR0.out x5_1 p157 q157
                cases e157
                replace p157 := eq_true p157
                replace q157 := eq_true q157
                have p158 : 0 ≤ (x5_1 : Int) := of_decide_eq_true (by first | (with_reducible assumption) | assumption)
                have q158 : x5_1 < (l1.length : Int) := of_decide_eq_true (by first | (with_reducible assumption) | assumption)
                obtain ⟨ad158, e158, hx158_0, hx158_1, hx158_2⟩ := at_T30 HR1.out x5_1 p158 q158
                cases e158
                replace p158 := eq_true p158
                replace q158 := eq_true q158
                go_wp2
                repeat (go_quiet (fail); try go_wp2)
                go_ret
                exact ⟨by first | rfl | (simp; done) | (simp [*]; done) | (simp <;> omega) | (simp [*] <;> omega), by repeat (first | exact Drawn0.refl _ | apply Drawn0.step)⟩
              · rw [if_neg c7] at H
                have c7b0 : (!(((rd_T30 l0 x5_1).f0) == ((rd_T30 l1 x5_1).f0)) || (!((((rd_T30 l0 x5_1).f1).toList) == (((rd_T30 l1 x5_1).f1).toList)) || (!(((rd_T30 l0 x5_1).f2) == ((rd_T30 l1 x5_1).f2))))) = false := by simpa using c7
                clear c7
                have H' := Aside0.mk H
                clear H
                have p157 : 0 ≤ (x5_1 : Int) := of_decide_eq_true (by first | (with_reducible assumption) | assumption)
                have q157 : x5_1 < (l0.length : Int) := of_decide_eq_true (by first | (with_reducible assumption) | assumption)
                obtain ⟨ad157, e157, hx157_0, hx157_1, hx157_2⟩ := at_T30 HR0.out x5_1 p157 q157
                cases e157
                replace p157 := eq_true p157
                replace q157 := eq_true q157
                have p158 : 0 ≤ (x5_1 : Int) := of_decide_eq_true (by first | (with_reducible assumption) | assumption)
                have q158 : x5_1 < (l1.length : Int) := of_decide_eq_true (by first | (with_reducible assumption) | assumption)
                obtain ⟨ad158, e158, hx158_0, hx158_1, hx158_2⟩ := at_T30 HR1.out x5_1 p158 q158
                cases e158
                replace p158 := eq_true p158
                replace q158 := eq_true q158
                go_wp2
                repeat (go_quiet (fail); try go_wp2)
                go_roundg k1
                case measure => have := HK1.out; omega
                case rel => exact ⟨(wrap64 (x5_1 + 1)), (by first | rfl | (simp; done) | (simp [*]; done) | (simp <;> omega) | (simp [*] <;> omega)), H', ⟨by have := HK1.out; omega⟩, by repeat (first | exact Drawn0.refl _ | apply Drawn0.step)⟩
            · rw [if_neg c6] at H
              exact absurd H (by simp)
          · rw [if_neg c5] at H
            exact absurd H (by simp)
        · rw [if_neg c4] at H
          have c4b0 : decide (x5_1 < (l0.length : Int)) = false := decide_eq_false c4
          clear c4
          obtain rfl := Option.some.inj H
          go_wp2
          repeat (go_quiet (fail); try go_wp2)
          go_ret
          exact ⟨by first | rfl | (simp; done) | (simp [*]; done) | (simp <;> omega) | (simp [*] <;> omega), by repeat (first | exact Drawn0.refl _ | apply Drawn0.step)⟩
  · rw [if_neg c3] at H
    have c3b0 : ((l0.length : Int) == (l1.length : Int)) = false := beq_eq_false_iff_ne.mpr c3
    have c3b1 : ((l0.length : Int) != (l1.length : Int)) = true := bne_iff_ne.mpr c3
    have c3b2 : (l0.length == l1.length) = false := by first | simpa using c3 | (simp at c3 ⊢; omega)
    obtain rfl := Option.some.inj H
    go_enter Try.func11, Try.ntmps11
    go_wp2
    repeat (go_quiet (fail); try go_wp2)
    go_ret
    exact ⟨by first | rfl | (simp; done) | (simp [*]; done) | (simp <;> omega) | (simp [*] <;> omega), by repeat (first | exact Drawn0.refl _ | apply Drawn0.step)⟩

/-! ### tinderlaw06_alive: function 8 -/
def tinderlaw06_alive.f (k : Nat)  : Option (Bool) := (scan_Cut.f k (⟨#[65, 32, 34, 32, 98, 34, 40, 52, 49, 32, 52, 32, 50, 41, 99, 34, 32, 92, 32, 100]⟩ : ByteArray)).bind fun bt159 => (if bt159.2 = 0 then ((tinderref06_Same.f k bt159.1 (([(⟨1, (⟨#[97]⟩ : ByteArray), 0⟩ : S30), (⟨2, (⟨#[98, 65, 66, 99]⟩ : ByteArray), 2⟩ : S30)] : List (S30)))).bind fun t166 => (some t166)) else (some false))
theorem tinderlaw06_alive.mono : ∀ k, LeO (tinderlaw06_alive.f k ) (tinderlaw06_alive.f (k + 1) ) := by
  intro  k
  unfold tinderlaw06_alive.f
  repeat' first
      | (with_reducible exact scan_Cut.mono _ _)
      | (with_reducible exact tinderref06_Same.mono _ _ _)
      | (with_reducible exact LeO.refl _)
      | (with_reducible exact LeO.none _)
      | (with_reducible refine LeO.ite ?_ ?_)
      | (with_reducible refine LeO.bind ?_ (fun _ => ?_))
      | exact scan_Cut.mono _ _
      | exact tinderref06_Same.mono _ _ _
      | exact LeO.none _
      | refine LeO.ite ?_ ?_
      | refine LeO.bind ?_ (fun _ => ?_)
set_option maxHeartbeats 8000000 in
set_option maxRecDepth 100000 in
theorem tinderlaw06_alive.calls (k : Nat)  (r : Bool) (w : World) (h : tinderlaw06_alive.f k  = some r) :
    Calls Try.prog 8 #[] w fun e w' => e = .returned (.bool r) ∧ Below w.heap.size w w' := by
  have hu30 := Try.underlying30
  have HB := Aside0.mk (Below.refl w.heap.size w)
  have H : ((scan_Cut.f k (⟨#[65, 32, 34, 32, 98, 34, 40, 52, 49, 32, 52, 32, 50, 41, 99, 34, 32, 92, 32, 100]⟩ : ByteArray)).bind fun bt159 => (if bt159.2 = 0 then ((tinderref06_Same.f k bt159.1 (([(⟨1, (⟨#[97]⟩ : ByteArray), 0⟩ : S30), (⟨2, (⟨#[98, 65, 66, 99]⟩ : ByteArray), 2⟩ : S30)] : List (S30)))).bind fun t166 => (some t166)) else (some false))) = some r := h
  clear h
  replace H := Option.bind_eq_some_iff.mp H
  obtain ⟨⟨t159, t160⟩, A10, H⟩ := H
  replace H : (if t160 = 0 then ((tinderref06_Same.f k t159 (([(⟨1, (⟨#[97]⟩ : ByteArray), 0⟩ : S30), (⟨2, (⟨#[98, 65, 66, 99]⟩ : ByteArray), 2⟩ : S30)] : List (S30)))).bind fun t166 => (some t166)) else (some false)) = some r := H
  have A1 := Aside0.mk A10
  clear A10
  by_cases c2 : t160 = 0
  · rw [if_pos c2] at H
    have c2b0 : (t160 == 0) = true := beq_iff_eq.mpr c2
    have c2b1 : (t160 != 0) = false := bne_eq_false_iff_eq.mpr c2
    clear c2
    obtain ⟨y163, hy163⟩ : ∃ y_ : List (S30), y_ = (([(⟨1, (⟨#[97]⟩ : ByteArray), 0⟩ : S30), (⟨2, (⟨#[98, 65, 66, 99]⟩ : ByteArray), 2⟩ : S30)] : List (S30))) := ⟨_, rfl⟩
    replace H : ((tinderref06_Same.f k t159 y163).bind fun t166 => (some t166)) = some r := by first | (rw [hy163]; with_reducible exact H) | (have H2_ := (Option.bind_some _ _).symm.trans H; rw [hy163]; with_reducible exact H2_) | (have H2_ := (Option.bind_some _ _).symm.trans H; with_reducible exact H2_) | with_reducible exact H | (rw [hy163]; exact H) | exact H
    have Ny163 := Aside0.mk hy163
    clear hy163
    replace H := Option.bind_eq_some_iff.mp H
    obtain ⟨t166, A30, H⟩ := H
    replace H : (some t166) = some r := H
    have A3 := Aside0.mk A30
    clear A30
    obtain rfl := Option.some.inj H
    go_enter Try.func8, Try.ntmps8
    go_wp2_with (first | ((with_reducible refine gate_callee (f := 9) rfl ?_); refine goesL_ (some 4) rfl rfl Try.func9 (by kernel_rfl) rfl #[.string (⟨#[65, 32, 34, 32, 98, 34, 40, 52, 49, 32, 52, 32, 50, 41, 99, 34, 32, 92, 32, 100]⟩ : ByteArray)] rfl (by (try simp only [List.map_toArray, List.map_cons, List.map_nil]); first | done | rfl | (simp only [List.length_drop, List.length_take]; rfl)) ?_; (with_reducible refine (scan_Cut.calls k (⟨#[65, 32, 34, 32, 98, 34, 40, 52, 49, 32, 52, 32, 50, 41, 99, 34, 32, 92, 32, 100]⟩ : ByteArray) t159 t160 _ A1.out).mono ?_); rintro e w4 ⟨v161, rfl, ho0, hb⟩; refine ⟨_, rfl, ?_⟩; have n0_ := Aside0.mk (Kd.R_lower ho0 (below_size (by repeat (first | (with_reducible first | exact HB.out | apply below_alloc | apply pw_below_drewN | apply below_drew1) | exact HB.out)))); have n1_ := Aside0.mk (below_step (by repeat (first | (with_reducible first | exact HB.out | apply below_alloc | apply pw_below_drewN | apply below_drew1) | exact HB.out)) hb); clear HB; have HO162 := n0_; have HB := n1_; clear n0_ n1_; (try clear hb); (try clear hb2); (try clear hk); (try clear hi); (try clear ho0)) | ((with_reducible refine gate_dst (N := 13) rfl ?_); (try (refine gate_guard (by rfl) ?_; dsimp only)); refine Kd.R_lit k30 _ 30 ?hg (N := 13) ?hd (xs := ([(⟨1, (⟨#[97]⟩ : ByteArray), 0⟩ : S30), (⟨2, (⟨#[98, 65, 66, 99]⟩ : ByteArray), 2⟩ : S30)] : List (S30))) (inner := [.int .i64 1, .string (⟨#[97]⟩ : ByteArray), .int .i64 0, .int .i64 2, .string (⟨#[98, 65, 66, 99]⟩ : ByteArray), .int .i64 2]) (ok := fun _ => True) (okp := fun _ => True) ?hr ?hp (fun _ hk => hk) trivial (Below.refl _ _) (Nat.le_refl _) (by simp) ?_; (case hd => rfl); (case hg => rfl); (case hr => first | (go_simp; done) | (go_simp; rfl)); (case hp => exact (Reps.c3 (show Kd.M k30 _ _ _ (⟨1, (⟨#[97]⟩ : ByteArray), 0⟩ : S30) [.int .i64 1, .string (⟨#[97]⟩ : ByteArray), .int .i64 0] from (k30_mkM _ _ _ (⟨1, (⟨#[97]⟩ : ByteArray), 0⟩ : S30) )) (Reps.c3 (show Kd.M k30 _ _ _ (⟨2, (⟨#[98, 65, 66, 99]⟩ : ByteArray), 2⟩ : S30) [.int .i64 2, .string (⟨#[98, 65, 66, 99]⟩ : ByteArray), .int .i64 2] from (k30_mkM _ _ _ (⟨2, (⟨#[98, 65, 66, 99]⟩ : ByteArray), 2⟩ : S30) )) (Reps.none _ _)))); intro v164 w5 ho6 hb hg_ hnew_; clear hg_ hnew_; (first | rw [← Ny163.out] at ho6 | (simp only [Int.reduceToNat] at ho6; rw [← Ny163.out] at ho6)); have n0_ := Aside0.mk (Kd.R_elder' (by (with_reducible repeat (first | apply Kd.R_alloc | apply Kd.R_drewN | apply Kd.R_drew)); exact HO162.out) (Kd.R_base ho6) hb); have n1_ := Aside0.mk (Kd.R_lower (Kd.R_new' ho6 (Kd.R_lt (by (with_reducible repeat (first | apply Kd.R_alloc | apply Kd.R_drewN | apply Kd.R_drew)); exact HO162.out))) (below_size (by repeat (first | (with_reducible first | exact HB.out | apply below_alloc | apply pw_below_drewN | apply below_drew1) | exact HB.out)))); have n2_ := Aside0.mk (below_step (by repeat (first | (with_reducible first | exact HB.out | apply below_alloc | apply pw_below_drewN | apply below_drew1) | exact HB.out)) hb); clear HO162; clear HB; have HO162 := n0_; have HO165 := n1_; have HB := n2_; clear n0_ n1_ n2_; clear hb ho6; obtain ⟨Ao7, co7, eo7⟩ := Kd.R_slice HO162.out; subst eo7; obtain ⟨Ao8, co8, eo8⟩ := Kd.R_slice HO165.out; subst eo8) | (go_at_call 11; (with_reducible refine (tinderref06_Same.calls k _ _ t159 _ _ y163 t166 _ ?side1 ?side2 ?side3 ?side4 A3.out).mono ?_); (case side1 => repeat (first | exact (Kd.R_reads' HO162.out).2.2 | (with_reducible refine Kd.C_alloc ?_ _) | (with_reducible refine Kd.C_drewN ?_ _) | (with_reducible refine Kd.C_drew ?_))); (case side2 => exact (Kd.R_reads' HO162.out).2.1); (case side3 => repeat (first | exact (Kd.R_reads' HO165.out).2.2 | (with_reducible refine Kd.C_alloc ?_ _) | (with_reducible refine Kd.C_drewN ?_ _) | (with_reducible refine Kd.C_drew ?_))); (case side4 => exact (Kd.R_reads' HO165.out).2.1); rintro e w' ⟨rfl, ⟨nd, rfl⟩⟩))
    go_ret
    exact ⟨by first | rfl | (simp [errW_none, errW_some] <;> rfl) | (simp [*, errW_none, errW_some] <;> rfl) | (simp [errW_none, errW_some] <;> omega) | (simp [*, errW_none, errW_some] <;> omega), by repeat (first | (with_reducible first | exact HB.out | apply below_alloc | apply pw_below_drewN | apply below_drew1) | exact HB.out)⟩
  · rw [if_neg c2] at H
    have c2b0 : (t160 == 0) = false := beq_eq_false_iff_ne.mpr c2
    have c2b1 : (t160 != 0) = true := bne_iff_ne.mpr c2
    obtain rfl := Option.some.inj H
    go_enter Try.func8, Try.ntmps8
    go_wp2_with (first | ((with_reducible refine gate_callee (f := 9) rfl ?_); refine goesL_ (some 4) rfl rfl Try.func9 (by kernel_rfl) rfl #[.string (⟨#[65, 32, 34, 32, 98, 34, 40, 52, 49, 32, 52, 32, 50, 41, 99, 34, 32, 92, 32, 100]⟩ : ByteArray)] rfl (by (try simp only [List.map_toArray, List.map_cons, List.map_nil]); first | done | rfl | (simp only [List.length_drop, List.length_take]; rfl)) ?_; (with_reducible refine (scan_Cut.calls k (⟨#[65, 32, 34, 32, 98, 34, 40, 52, 49, 32, 52, 32, 50, 41, 99, 34, 32, 92, 32, 100]⟩ : ByteArray) t159 t160 _ A1.out).mono ?_); rintro e w9 ⟨v161, rfl, ho0, hb⟩; refine ⟨_, rfl, ?_⟩; have n0_ := Aside0.mk (Kd.R_lower ho0 (below_size (by repeat (first | (with_reducible first | exact HB.out | apply below_alloc | apply pw_below_drewN | apply below_drew1) | exact HB.out)))); have n1_ := Aside0.mk (below_step (by repeat (first | (with_reducible first | exact HB.out | apply below_alloc | apply pw_below_drewN | apply below_drew1) | exact HB.out)) hb); clear HB; have HO162 := n0_; have HB := n1_; clear n0_ n1_; (try clear hb); (try clear hb2); (try clear hk); (try clear hi); (try clear ho0)))
    go_ret
    exact ⟨by first | rfl | (simp [errW_none, errW_some] <;> rfl) | (simp [*, errW_none, errW_some] <;> rfl) | (simp [errW_none, errW_some] <;> omega) | (simp [*, errW_none, errW_some] <;> omega), by repeat (first | (with_reducible first | exact HB.out | apply below_alloc | apply pw_below_drewN | apply below_drew1) | exact HB.out)⟩

/-! ### scan_right: function 23 -/
def scan_right.f (k : Nat) (x0 : Int) (x1 : ByteArray) (x2 : Int) : Option Bool :=
  if x0 = 2 ∨ x0 = 3 then some (decide (x1.size ≤ 255)) else if x0 = 1 then
    (scan_cutter_word.f k x1 0).bind fun r => if r.1.toList = [] then some false else if r.1.toList = x1.toList then
      (scan_small.f r.1).bind fun t => if t.toList = r.1.toList then (scan_isSpecial.f r.1).bind fun sp => some (!sp) else some false
    else some false
  else some false
theorem scan_right.mono : ∀ x0 x1 x2 k, LeO (scan_right.f k x0 x1 x2) (scan_right.f (k + 1) x0 x1 x2) := by
  intro x0 x1 x2 k
  unfold scan_right.f
  exact LeO.ite (LeO.refl _) (LeO.ite (LeO.bind (scan_cutter_word.mono _ _ _) (fun _ => LeO.refl _)) (LeO.refl _))
set_option maxHeartbeats 8000000 in
set_option maxRecDepth 100000 in
theorem scan_right.calls (k : Nat) (x0 : Int) (x1 : ByteArray) (x2 : Int) (r : Bool) (w : World) (h : scan_right.f k x0 x1 x2 = some r) :
    Calls Try.prog 23 #[.agg #[.int .i64 x0, .string x1, .int .i64 x2]] w fun e w' => e = .returned (.bool r) ∧ Below w.heap.size w w' := by
  unfold scan_right.f at h
  by_cases h2 : x0 = 2
  · subst h2
    rw [if_pos (.inl rfl)] at h
    injection h with h
    subst h
    go_enter Try.func23, Try.ntmps23
    go_wp2_with fail
    go_ret
    exact ⟨by rw [show decide ((x1.size : Int) ≤ 255) = decide (x1.size ≤ 255) from decide_eq_decide.2 (by omega)]; rfl, below_alloc (Below.refl _ _) _⟩
  by_cases h3 : x0 = 3
  · subst h3
    rw [if_pos (.inr rfl)] at h
    injection h with h
    subst h
    go_enter Try.func23, Try.ntmps23
    go_wp2_with fail
    go_ret
    exact ⟨by rw [show decide ((x1.size : Int) ≤ 255) = decide (x1.size ≤ 255) from decide_eq_decide.2 (by omega)]; rfl, below_alloc (Below.refl _ _) _⟩
  rw [if_neg (by omega)] at h
  have b2 : (x0 == 2) = false := by simpa using h2
  have b3 : (x0 == 3) = false := by simpa using h3
  by_cases h1 : x0 = 1
  case neg =>
    rw [if_neg h1] at h
    injection h with h
    subst h
    have b1 : (x0 == 1) = false := by simpa using h1
    clear h1 h2 h3
    go_enter Try.func23, Try.ntmps23
    go_wp2_with fail
    go_ret
    exact ⟨rfl, below_alloc (Below.refl _ _) _⟩
  subst h1
  rw [if_pos rfl] at h
  replace h := Option.bind_eq_some_iff.mp h
  obtain ⟨⟨t1, t2, t3, t4⟩, A10, h⟩ := h
  have A1 := Aside0.mk A10
  clear A10 b2 b3 h2 h3
  simp only at h
  have H := Aside0.mk h
  clear h
  go_enter Try.func23, Try.ntmps23
  go_wp2_with fail
  have HB := Aside0.mk (show Below w.heap.size w ((w.alloc (.cells #[.int .i64 1, .string x1, .int .i64 x2] 30)).alloc (.cells #[.string x1, .int .i64 0] 37)) from below_alloc (below_alloc (Below.refl _ _) _) _)
  have HD := Aside0.mk (show ((w.alloc (.cells #[.int .i64 1, .string x1, .int .i64 x2] 30)).alloc (.cells #[.string x1, .int .i64 0] 37)).heap[w.heap.size]? = some (.cells #[.int .i64 1, .string x1, .int .i64 x2] 30 (0, 0)) from blk_alloc (blk_new _ _) _)
  have HI := Aside0.mk (show IsS37 w ((w.alloc (.cells #[.int .i64 1, .string x1, .int .i64 x2] 30)).alloc (.cells #[.string x1, .int .i64 0] 37)) (w.heap.size + 1) x1 0 from by simpa using IsS37.new w (w.alloc (.cells #[.int .i64 1, .string x1, .int .i64 x2] 30)) x1 0 (below_alloc (Below.refl _ _) _))
  refine (scan_cutter_word.calls k (w.heap.size + 1) x1 0 t1 t2 t3 t4 w _ HI.out HB.out A1.out).mono ?_
  rintro e w1 ⟨rfl, hi, hb, hk⟩
  have HD1 := Aside0.mk (KeepBut.blk hk HD.out (by omega) (by simp))
  have HB1 := Aside0.mk hb
  have p1 : w1.cell? ⟨w.heap.size, 1, none⟩ = some (.string x1) := (blk_cell HD1.out 1).trans rfl
  clear HD HB HI hi hb hk A1
  have H2 := H.out
  clear H
  by_cases c1 : t1.toList = []
  · rw [if_pos c1] at H2
    injection H2 with H2
    subst H2
    have c2 : t1.toList.isEmpty = true := by simpa using c1
    go_wp2_with fail
    go_ret
    exact ⟨rfl, HB1.out⟩
  rw [if_neg c1] at H2
  have c2 : t1.toList.isEmpty = false := by simpa using c1
  by_cases c3 : t1.toList = x1.toList
  case neg =>
    rw [if_neg c3] at H2
    injection H2 with H2
    subst H2
    have c4 : (t1.toList == x1.toList) = false := by simpa using c3
    go_wp2_with fail
    go_ret
    exact ⟨rfl, HB1.out⟩
  rw [if_pos c3] at H2
  have c4 : (t1.toList == x1.toList) = true := by simpa using c3
  replace H2 := Option.bind_eq_some_iff.mp H2
  obtain ⟨t, A20, H2⟩ := H2
  have A2 := Aside0.mk A20
  have H := Aside0.mk H2
  clear A20 H2 c3
  go_wp2_with fail
  refine (scan_small.calls _ t _ A2.out).mono ?_
  rintro e w2 ⟨rfl, hb⟩
  have HB2 := Aside0.mk (below_step HB1.out hb)
  clear hb HB1 HD1 p1
  have H2 := H.out
  clear H
  by_cases c5 : t.toList = t1.toList
  case neg =>
    rw [if_neg c5] at H2
    injection H2 with H2
    subst H2
    have c6 : (t.toList == t1.toList) = false := by simpa using c5
    go_wp2_with fail
    go_ret
    exact ⟨rfl, HB2.out⟩
  rw [if_pos c5] at H2
  have c6 : (t.toList == t1.toList) = true := by simpa using c5
  replace H2 := Option.bind_eq_some_iff.mp H2
  obtain ⟨sp, A30, H2⟩ := H2
  have A3 := Aside0.mk A30
  injection H2 with H2
  subst H2
  clear A30 c5
  go_wp2_with fail
  refine (scan_isSpecial.calls t1 sp _ A3.out).mono ?_
  rintro e w3 ⟨rfl, hd⟩
  have HB3 := Aside0.mk (below_step HB2.out hd.below)
  clear hd HB2
  cases sp
  · go_wp2_with fail
    go_ret
    exact ⟨rfl, HB3.out⟩
  · go_wp2_with fail
    go_ret
    exact ⟨rfl, HB3.out⟩

-- NOT PRINTED: function 40 (abi_NoEscape)

-- NOT PRINTED: function 35 (strings_Builder_copyCheck)

-- NOT PRINTED: function 24 (strings_Builder_WriteByte)

-- NOT PRINTED: function 25 (strings_Builder_WriteString)

-- NOT PRINTED: function 26 (strings_Builder_String)

-- NOT PRINTED: function 44 (bytealg_MakeNoZero)

-- NOT PRINTED: function 41 (strings_Builder_grow)

-- NOT PRINTED: function 36 (strings_Builder_Grow)

-- NOT PRINTED: function 27 (strings_Join)

end Go.Proofs.Ytnnhpbghimjhiaa.QScanT
