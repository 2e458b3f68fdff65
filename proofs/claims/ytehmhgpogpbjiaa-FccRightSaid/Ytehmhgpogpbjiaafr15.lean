import Derived.Test.Ytehmhgpogpbjiaafr14
set_option linter.unusedVariables false
set_option linter.unusedSimpArgs false
set_option maxRecDepth 100000
set_option maxHeartbeats 8000000
namespace Go.Proofs.Ytehmhgpogpbjiaa.Fcc
open Go.RowKit Go.Proofs.YtehmhgpogpbjiaaW.PrintWords Go.Proofs.YtehmhgpogpbjiaaW.PrintLast Go.Proofs.YtehmhgpogpbjiaaW.PrintMore Go.Proofs.Ytehmhgpogpbjiaa.PFccTokens
section
variable {w : World} {base g : Nat} {prims : List (ByteArray × Int)} {o : Nat → Nat} {vs : List Value} {m : Mk}
theorem JP (c : Int) (h : Mx w base g prims o vs m) (hl : m.out.length < 1099511627776) (hl2 : m.leads.length < 1099511627776) : Calls Try.prog 88 #[.pointer (some ⟨g, 0, none⟩), .int .i64 c] w (XQ base g prims (backP m c) w) := by
 rcases snoc_cases m.dests with ho | ⟨xs, x, ho⟩
 ·have hr : backP m c = .inr 13 := by unfold backP; rw [ho]; rfl
  rw [hr]
  have hF : (mkF base prims m)[8]? = some (rowF (Kd.int .i64) 3 base []) := by rw [← ho]; rfl
  obtain ⟨v0, A1, c1, b, A7, c7, A8, c8, A9, c9, A10, c10, A11, c11, rfl⟩ := h.cells
  have hp := h.st.pop_none (i := 8) rfl hF
  clear hF hr
  go_enter Try.func88, Try.ntmps88
  go_wp2_with fail
  refine hp.mono ?_
  rintro e w1 ⟨rfl, rfl⟩
  go_wp2_with fail
  exact bodyPost_ret (v := .int .i64 13) (by simp [results, Try.results88, go_sem]) rfl ⟨Below.refl _ _, rfl⟩
 ·have hr : backP m c = .inl ({ m with dests := xs, leads := m.leads ++ ([⟨m.at_, x⟩] : List Ld) }.add c) := by unfold backP; rw [ho, Uq]
  rw [hr]
  have hF : (mkF base prims m)[8]? = some (rowF (Kd.int .i64) 3 base (xs ++ [x])) := by rw [← ho]; rfl
  obtain ⟨v, hv⟩ : ∃ v, vs[8]? = some v := ⟨_, List.getElem?_eq_getElem ZZ⟩
  have hp := h.st.pop hv hF
  clear hF hr hv
  go_enter Try.func88, Try.ntmps88
  go_wp2_with fail
  refine hp.mono ?_
  rintro e w1 ⟨rfl, v', hst, hB1⟩
  have h1 : Mx w1 base g prims o (vs.set 8 v') { m with dests := xs } := ⟨hst, (by rw [List.length_set]; exact h.len)⟩
  have hgb := h.st.hb
  clear hst h hp
  generalize hm1 : ({ m with dests := xs } : Mk) = m1 at h1
  have hmo := Aside0.mk (show m1.out = m.out by rw [← hm1])
  have hml := Aside0.mk (show m1.leads = m.leads by rw [← hm1])
  generalize vs.set 8 v' = vs1 at h1
  obtain ⟨v0, A1, c1, b, A7, c7, A8, c8, A9, c9, A10, c10, A11, c11, rfl⟩ := h1.cells
  have hS : w1.cell? ⟨g, 11, none⟩ = some (.slice A11 m1.leads.length c11) ∧ w1.cell? ⟨g, 1, none⟩ = some (.slice A1 m1.out.length c1) := ⟨h1.st.cell 11 rfl, h1.st.cell 1 rfl⟩
  go_wp2_with fail
  refine Yam (n := 17) (S := fun w' => w'.cell? ⟨g, 11, none⟩ = some (.slice A11 m1.leads.length c11) ∧ w'.cell? ⟨g, 1, none⟩ = some (.slice A1 m1.out.length c1)) (ds := [16]) #[false, false, false, false, false, false, false, false, false, false, false, false, false, false, false, false, false] Z2 rfl rfl (hS) (fun hHeld => ?_)
  refine Jj (rfl : rtab .any (Yaw Try.f88 4) = rtab .any (Yaw Try.f88 4)) (fun HT_ => ?_)
  have hd := h1.below (YY (Below.refl _ _))
  have hBd : Below w1.heap.size w1 w1.drew := YY (Below.refl _ _)
  generalize w1.drew = wa at hd hBd hHeld ⊢
  refine Xr (i := 0) (N := some 16) (v := ?_) (a' := ?_) #[true, false, false, false, false, false, false, false, false, false, false, false, false, false, false, false, false] rfl rfl (any_of HT_.out Z2) (fun _ _ _ h => h) (Or.inl ⟨Z7, ?_⟩) ?_ ?_
  rotate_left
  ·intro w'
   go_simp
   with_reducible rfl
  rotate_left
  ·simp only [Act.put, List.setIfInBounds_toArray, List.set_cons_zero, List.set_cons_succ, YH, YJ]
   rfl
  refine Xr (i := 1) (N := some 17) (v := ?_) (a' := ?_) #[true, true, false, false, false, false, false, false, false, false, false, false, false, false, false, false, false] rfl rfl (any_of HT_.out Z2) (fun _ _ _ h => h) (Or.inl ⟨Z7, ?_⟩) ?_ ?_
  rotate_left
  ·intro w'
   go_simp
   with_reducible rfl
  rotate_left
  ·simp only [Act.put, List.setIfInBounds_toArray, List.set_cons_zero, List.set_cons_succ, YH, YJ]
   rfl
  refine Xr (i := 2) (N := some 18) (v := ?_) (a' := ?_) #[true, true, true, false, false, false, false, false, false, false, false, false, false, false, false, false, false] rfl rfl (any_of HT_.out Z2) (fun _ _ _ h => h) (Or.inl ⟨Z7, ?_⟩) ?_ ?_
  rotate_left
  ·intro w'
   go_simp
   with_reducible rfl
  rotate_left
  ·simp only [Act.put, List.setIfInBounds_toArray, List.set_cons_zero, List.set_cons_succ, YH, YJ]
   rfl
  refine Xr (i := 3) (N := some 19) (v := ?_) (a' := ?_) #[true, true, true, true, false, false, false, false, false, false, false, false, false, false, false, false, false] rfl rfl (any_of HT_.out Z2) (fun _ _ _ h => h) (Or.inl ⟨Z7, ?_⟩) ?_ ?_
  rotate_left
  ·intro w'
   go_simp
   with_reducible rfl
  rotate_left
  ·simp only [Act.put, List.setIfInBounds_toArray, List.set_cons_zero, List.set_cons_succ, YH, YJ]
   rfl
  refine Xr (i := 5) (N := some 21) (v := ?_) (a' := ?_) #[true, true, true, true, false, true, false, false, false, false, false, false, false, false, false, false, false] rfl rfl (any_of HT_.out Z2) (fun _ _ _ h => h) (Or.inl ⟨Z7, ?_⟩) ?_ ?_
  rotate_left
  ·intro w'
   go_simp
   with_reducible rfl
  rotate_left
  ·simp only [Act.put, List.setIfInBounds_toArray, List.set_cons_zero, List.set_cons_succ, YH, YJ]
   rfl
  refine Xr (i := 6) (N := some 22) (v := ?_) (a' := ?_) #[true, true, true, true, false, true, true, false, false, false, false, false, false, false, false, false, false] rfl rfl (any_of HT_.out Z2) (fun _ _ _ h => h) (Or.inl ⟨Z7, ?_⟩) ?_ ?_
  rotate_left
  ·intro w'
   go_simp
   with_reducible rfl
  rotate_left
  ·simp only [Act.put, List.setIfInBounds_toArray, List.set_cons_zero, List.set_cons_succ, YH, YJ]
   rfl
  refine Xr (i := 7) (N := some 23) (v := ?_) (a' := ?_) #[true, true, true, true, false, true, true, true, false, false, false, false, false, false, false, false, false] rfl rfl (any_of HT_.out Z2) (fun _ _ _ h => h) (Or.inl ⟨Z7, ?_⟩) ?_ ?_
  rotate_left
  ·intro w'
   go_simp
   with_reducible rfl
  rotate_left
  ·simp only [Act.put, List.setIfInBounds_toArray, List.set_cons_zero, List.set_cons_succ, YH, YJ]
   rfl
  refine Xr (i := 10) (N := some 26) (v := ?_) (a' := ?_) #[true, true, true, true, false, true, true, true, false, false, true, false, false, false, false, false, false] rfl rfl (any_of HT_.out Z2) (fun _ _ _ h => h) (Or.inl ⟨Z7, ?_⟩) ?_ ?_
  rotate_left
  ·intro w'
   go_simp
   with_reducible rfl
  rotate_left
  ·simp only [Act.put, List.setIfInBounds_toArray, List.set_cons_zero, List.set_cons_succ, YH, YJ]
   rfl
  refine take_ (i := 4) (N := some 20) (v := ?_) (a' := ?_) #[true, true, true, true, true, true, true, true, false, false, true, false, false, false, false, false, false] rfl rfl (take_of HT_.out Z2) (fun _ _ _ h => h) (Or.inl ⟨Z7, ?_⟩) hHeld ?_ ?_
  rotate_left
  ·rintro w' hS; go_split_ands
   go_simp
   with_reducible rfl
  rotate_left
  ·simp only [Act.put, List.setIfInBounds_toArray, List.set_cons_zero, List.set_cons_succ, YH, YJ]
   rfl
  refine take_ (i := 8) (N := some 24) (v := ?_) (a' := ?_) #[true, true, true, true, true, true, true, true, true, false, true, false, false, false, false, false, false] rfl rfl (take_of HT_.out Z2) (fun _ _ _ h => h) (Or.inl ⟨Z7, ?_⟩) hHeld ?_ ?_
  rotate_left
  ·rintro w' hS; go_split_ands
   go_simp
   with_reducible rfl
  rotate_left
  ·simp only [Act.put, List.setIfInBounds_toArray, List.set_cons_zero, List.set_cons_succ, YH, YJ]
   rfl
  refine Xr (i := 9) (N := some 25) (v := ?_) (a' := ?_) #[true, true, true, true, true, true, true, true, true, true, true, false, false, false, false, false, false] rfl rfl (any_of HT_.out Z2) (fun _ _ _ h => h) (Or.inl ⟨Z7, ?_⟩) ?_ ?_
  rotate_left
  ·intro w'
   go_simp
   with_reducible rfl
  rotate_left
  ·simp only [Act.put, List.setIfInBounds_toArray, List.set_cons_zero, List.set_cons_succ, YH, YJ]
   rfl
  refine Xr (i := 11) (N := some 27) (v := ?_) (a' := ?_) #[true, true, true, true, true, true, true, true, true, true, true, true, false, false, false, false, false] rfl rfl (any_of HT_.out Z2) (fun _ _ _ h => h) (Or.inl ⟨Z7, ?_⟩) ?_ ?_
  rotate_left
  ·intro w'
   go_simp
   with_reducible rfl
  rotate_left
  ·simp only [Act.put, List.setIfInBounds_toArray, List.set_cons_zero, List.set_cons_succ, YH, YJ]
   rfl
  refine one_ (i := 12) (N := some 28) #[true, true, true, true, true, true, true, true, true, true, true, true, true, false, false, false, false] rfl rfl (VM HT_.out Z2) Z1 (fun K hK => ?_)
  refine JR (w1 := ?_) (v := ?_) Z7 rfl ?_ ?_
  rotate_left 2
  ·go_simp
   constructor
   ·rfl
   ·rfl
  have hS : (wa.alloc (.cells #[.int .i64 m1.out.length, .int .i64 x] 101)).cell? ⟨g, 11, none⟩ = some (.slice A11 m1.leads.length c11) ∧ (wa.alloc (.cells #[.int .i64 m1.out.length, .int .i64 x] 101)).cell? ⟨g, 1, none⟩ = some (.slice A1 m1.out.length c1) := ⟨(hd.below (Yc (Below.refl _ _) _)).st.cell 11 rfl, (hd.below (Yc (Below.refl _ _) _)).st.cell 1 rfl⟩
  refine hK.out _ _ (hS) (fun hHeld => ?_)
  clear hK K
  refine Jd (a' := ?_) ?_ ?_
  rotate_left
  ·show Act.put _ (some 28) _ = _
   simp only [Act.put, List.setIfInBounds_toArray, List.set_cons_zero, List.set_cons_succ, YH, YJ]
   rfl
  refine one_ (i := 13) (N := some 29) #[true, true, true, true, true, true, true, true, true, true, true, true, true, true, false, false, false] rfl rfl (VM HT_.out Z2) Z1 (fun K hK => ?_)
  refine St.pushD (d := k77) (e := 101) (i := 11) hd.st rfl rfl (⟨m1.out.length, x⟩ : S77) [.int .i64 m1.out.length, .int .i64 x] (fun _ => False) rfl Try.underlying55 JH rfl Z1 Z1 rfl rfl rfl rfl (JF _ _ _ _) (by rw [hml.out]; omega) ?_
  rintro v2 w2 ⟨hst, hB2, ⟨A2, c2, rfl⟩, hb2, hg2⟩
  have hz : (m1.leads ++ [(⟨m1.out.length, x⟩ : S77)]).length = m1.leads.length + 1 := by simp
  rw [hz] at hst ⊢
  have hS : w2.cell? ⟨g, 11, none⟩ = some (.slice A11 m1.leads.length c11) ∧ w2.cell? ⟨g, 1, none⟩ = some (.slice A1 m1.out.length c1) := ⟨(Ya hb2 11).trans rfl, (Ya hb2 1).trans rfl⟩
  have hf := Yf hb2 11
  have hcc := hS.1
  refine hK.out _ _ (hS) (fun hHeld => ?_)
  clear hK K
  refine Jd (a' := ?_) ?_ ?_
  rotate_left
  ·show Act.put _ (some 29) _ = _
   simp only [Act.put, List.setIfInBounds_toArray, List.set_cons_zero, List.set_cons_succ, YH, YJ]
   rfl
  refine Xr (i := 14) (N := some 30) (v := ?_) (a' := ?_) #[true, true, true, true, true, true, true, true, true, true, true, true, true, true, true, false, false] rfl rfl (any_of HT_.out Z2) (fun _ _ _ h => h) (Or.inl ⟨Z7, ?_⟩) ?_ ?_
  rotate_left
  ·intro w'
   go_simp
   with_reducible rfl
  rotate_left
  ·simp only [Act.put, List.setIfInBounds_toArray, List.set_cons_zero, List.set_cons_succ, YH, YJ]
   rfl
  refine Xr (i := 15) (N := some 31) (v := ?_) (a' := ?_) #[true, true, true, true, true, true, true, true, true, true, true, true, true, true, true, true, false] rfl rfl (any_of HT_.out Z2) (fun _ _ _ h => h) (Or.inl ⟨Z7, ?_⟩) ?_ ?_
  rotate_left
  ·intro w'
   go_simp
   with_reducible rfl
  rotate_left
  ·simp only [Act.put, List.setIfInBounds_toArray, List.set_cons_zero, List.set_cons_succ, YH, YJ]
   rfl
  refine YcM (i := 16) (N := none) #[true, true, true, true, true, true, true, true, true, true, true, true, true, true, true, true, true] rfl rfl (VM HT_.out Z2) Z1 (fun K hK => ?_)
  go_simp
  refine hK.out _ _ ?_
  clear hK K
  refine Ycm (UM HT_.out Z2) ?_
  clear HT_ hHeld
  have hB3 : Below base w (w2.setCell ⟨g, 11, none⟩ (.slice A2 (m1.leads.length + 1) c2)) := Below.setCell (Below.trans hB1 (Below.trans (Below.mono hBd h1.st.base_le) hB2)) hgb _
  have h2 : Mx _ base g prims _ _ { m1 with leads := m1.leads ++ ([⟨m1.out.length, x⟩] : List Ld) } := ⟨hst, rfl⟩
  go_wp2_with fail
  refine (YW h2 c 0 ⟨#[]⟩ (by show m1.out.length < _; rw [hmo.out]; exact hl)).mono ?_
  rintro e w4 ⟨rfl, hB4, o4, vs4, h4⟩
  go_wp2_with fail
  refine bodyPost_ret (v := .int .i64 0) (by simp [results, Try.results88, go_sem]) rfl ⟨hB3.trans hB4, rfl, o4, vs4, ?_⟩
  subst hm1
  exact h4
end
theorem info3 : (Try.prog.info? 3).map (fun i => (i.zero, i.size, i.bytes)) = some (some (.int .i64 0), 1, 8) := by kernel_rfl
def VB (base g : Nat) (prims : List (ByteArray × Int)) (r : Res) (w : World) (e : Ending) (w' : World) : Prop :=
 Below base w w' ∧ match r with
  | .inl m => e = .returned (.tuple #[.int .i64 0, .bool true]) ∧ ∃ o vs, Mx w' base g prims o vs m
  | .inr c => e = .returned (.tuple #[.int .i64 c, .bool true])
section
variable {w : World} {base g : Nat} {prims : List (ByteArray × Int)} {o : Nat → Nat} {vs : List Value} {m : Mk}
theorem Yc3 (h : Mx w base g prims o vs m) (hl : m.out.length < 1099511627776) (hl2 : m.dests.length < 1099511627776) :
 Calls Try.prog 61 #[.pointer (some ⟨g, 0, none⟩), .string ⟨#[98, 101, 103, 105, 110]⟩] w (VB base g prims (.inl ({ m with dests := m.dests ++ [m.at_] }.add 177)) w) := by
 obtain ⟨v0, A1, c1, b, A7, c7, A8, c8, A9, c9, A10, c10, A11, c11, rfl⟩ := h.cells
 have k1 := h.st.cell 1 rfl
 have k8 := h.st.cell 8 rfl
 have hX := Aside0.mk h
 clear h
 go_enter Try.func61, Try.ntmps61
 go_wp2_with (at_builtin; refine St.push (d := Kd.int .i64) (e := 3) (i := 8) hX.out.st rfl rfl (m.out.length : Int) [.int .i64 m.out.length] (fun _ => False) rfl Try.underlying53 info3 rfl Z1 Z1 rfl rfl rfl rfl rfl Z0 ?_)
 rintro v2 w2 ⟨hst, hB2, ⟨A2, c2, rfl⟩, hb2, hg2⟩
 have hz : (m.dests ++ [(m.out.length : Int)]).length = m.dests.length + 1 := by simp
 rw [hz] at hst ⊢
 have hf := Yf hb2 8
 have k8' : w2.cell? ⟨g, 8, none⟩ = some (.slice A8 m.dests.length c8) := (Ya hb2 8).trans rfl
 have h2 : Mx _ base g prims _ _ { m with dests := m.dests ++ [(m.out.length : Int)] } := ⟨hst, rfl⟩
 have hB3 : Below base w (w2.setCell ⟨g, 8, none⟩ (.slice A2 (m.dests.length + 1) c2)) := Below.setCell hB2 hX.out.st.hb _
 go_wp2_with fail
 refine (YW h2 177 0 ⟨#[]⟩ hl).mono ?_
 rintro e w4 ⟨rfl, hB4, o4, vs4, h4⟩
 go_wp2_with fail
 exact Z1M
theorem if_calls (h : Mx w base g prims o vs m) (hl : m.out.length < 1099511627776) (hl2 : m.origs.length < 1099511627776) :
 Calls Try.prog 61 #[.pointer (some ⟨g, 0, none⟩), .string ⟨#[105, 102]⟩] w (VB base g prims (.inl ({ m with origs := m.origs ++ [m.at_] }.add 20)) w) := by
 obtain ⟨v0, A1, c1, b, A7, c7, A8, c8, A9, c9, A10, c10, A11, c11, rfl⟩ := h.cells
 have k1 := h.st.cell 1 rfl
 have k8 := h.st.cell 7 rfl
 have hX := Aside0.mk h
 clear h
 go_enter Try.func61, Try.ntmps61
 go_wp2_with (at_builtin; refine St.push (d := Kd.int .i64) (e := 3) (i := 7) hX.out.st rfl rfl (m.out.length : Int) [.int .i64 m.out.length] (fun _ => False) rfl Try.underlying53 info3 rfl Z1 Z1 rfl rfl rfl rfl rfl Z0 ?_)
 rintro v2 w2 ⟨hst, hB2, ⟨A2, c2, rfl⟩, hb2, hg2⟩
 have hz : (m.origs ++ [(m.out.length : Int)]).length = m.origs.length + 1 := by simp
 rw [hz] at hst ⊢
 have hf := Yf hb2 7
 have k8' : w2.cell? ⟨g, 7, none⟩ = some (.slice A7 m.origs.length c7) := (Ya hb2 7).trans rfl
 have h2 : Mx _ base g prims _ _ { m with origs := m.origs ++ [(m.out.length : Int)] } := ⟨hst, rfl⟩
 have hB3 : Below base w (w2.setCell ⟨g, 7, none⟩ (.slice A2 (m.origs.length + 1) c2)) := Below.setCell hB2 hX.out.st.hb _
 go_wp2_with fail
 refine (YW h2 20 0 ⟨#[]⟩ hl).mono ?_
 rintro e w4 ⟨rfl, hB4, o4, vs4, h4⟩
 go_wp2_with fail
 exact Z1M
theorem Ycu (h : Mx w base g prims o vs m) (hl : m.out.length < 1099511627776) (hl2 : m.origs.length < 1099511627776) :
 Calls Try.prog 61 #[.pointer (some ⟨g, 0, none⟩), .string ⟨#[119, 104, 105, 108, 101]⟩] w (VB base g prims (.inl ({ m with origs := m.origs ++ [m.at_] }.add 20)) w) := by
 obtain ⟨v0, A1, c1, b, A7, c7, A8, c8, A9, c9, A10, c10, A11, c11, rfl⟩ := h.cells
 have k1 := h.st.cell 1 rfl
 have k8 := h.st.cell 7 rfl
 have hX := Aside0.mk h
 clear h
 go_enter Try.func61, Try.ntmps61
 go_wp2_with (at_builtin; refine St.push (d := Kd.int .i64) (e := 3) (i := 7) hX.out.st rfl rfl (m.out.length : Int) [.int .i64 m.out.length] (fun _ => False) rfl Try.underlying53 info3 rfl Z1 Z1 rfl rfl rfl rfl rfl Z0 ?_)
 rintro v2 w2 ⟨hst, hB2, ⟨A2, c2, rfl⟩, hb2, hg2⟩
 have hz : (m.origs ++ [(m.out.length : Int)]).length = m.origs.length + 1 := by simp
 rw [hz] at hst ⊢
 have hf := Yf hb2 7
 have k8' : w2.cell? ⟨g, 7, none⟩ = some (.slice A7 m.origs.length c7) := (Ya hb2 7).trans rfl
 have h2 : Mx _ base g prims _ _ { m with origs := m.origs ++ [(m.out.length : Int)] } := ⟨hst, rfl⟩
 have hB3 : Below base w (w2.setCell ⟨g, 7, none⟩ (.slice A2 (m.origs.length + 1) c2)) := Below.setCell hB2 hX.out.st.hb _
 go_wp2_with fail
 refine (YW h2 20 0 ⟨#[]⟩ hl).mono ?_
 rintro e w4 ⟨rfl, hB4, o4, vs4, h4⟩
 go_wp2_with fail
 exact Z1M
theorem YdD (h : Mx w base g prims o vs m) (hl : m.out.length < 1099511627776) (hl2 : m.leads.length < 1099511627776) :
 Calls Try.prog 61 #[.pointer (some ⟨g, 0, none⟩), .string ⟨#[116, 104, 101, 110]⟩] w (VB base g prims (resolveP m) w) := by
 have hX := Aside0.mk h
 obtain ⟨v0, A1, c1, b, A7, c7, A8, c8, A9, c9, A10, c10, A11, c11, rfl⟩ := h.cells
 have k1 := h.st.cell 1 rfl
 clear h
 have hR := Aside0.mk (Uy hX.out hl hl2)
 generalize resolveP m = r at hR ⊢
 go_enter Try.func61, Try.ntmps61
 go_wp2_with fail
 refine hR.out.mono ?_
 rcases r with m1 | c
 ·rintro e w4 ⟨hB4, rfl, o4, vs4, h4⟩
  go_wp2_with fail
  exact Z1N
 ·rintro e w4 ⟨hB4, rfl⟩
  go_wp2_with fail
  exact Z1O
theorem Ycv (h : Mx w base g prims o vs m) (hl : m.out.length < 1099511627776) (hl2 : m.leads.length < 1099511627776) :
 Calls Try.prog 61 #[.pointer (some ⟨g, 0, none⟩), .string ⟨#[117, 110, 116, 105, 108]⟩] w (VB base g prims (backP m 20) w) := by
 have hX := Aside0.mk h
 obtain ⟨v0, A1, c1, b, A7, c7, A8, c8, A9, c9, A10, c10, A11, c11, rfl⟩ := h.cells
 have k1 := h.st.cell 1 rfl
 clear h
 have hR := Aside0.mk (JP 20 hX.out hl hl2)
 generalize backP m 20 = r at hR ⊢
 go_enter Try.func61, Try.ntmps61
 go_wp2_with fail
 refine hR.out.mono ?_
 rcases r with m1 | c
 ·rintro e w4 ⟨hB4, rfl, o4, vs4, h4⟩
  go_wp2_with fail
  exact Z1N
 ·rintro e w4 ⟨hB4, rfl⟩
  go_wp2_with fail
  exact Z1O
theorem Yc6 (h : Mx w base g prims o vs m) (hl : m.out.length < 1099511627776) (hl2 : m.leads.length < 1099511627776) :
 Calls Try.prog 61 #[.pointer (some ⟨g, 0, none⟩), .string ⟨#[97, 103, 97, 105, 110]⟩] w (VB base g prims (backP m 19) w) := by
 have hX := Aside0.mk h
 obtain ⟨v0, A1, c1, b, A7, c7, A8, c8, A9, c9, A10, c10, A11, c11, rfl⟩ := h.cells
 have k1 := h.st.cell 1 rfl
 clear h
 have hR := Aside0.mk (JP 19 hX.out hl hl2)
 generalize backP m 19 = r at hR ⊢
 go_enter Try.func61, Try.ntmps61
 go_wp2_with fail
 refine hR.out.mono ?_
 rcases r with m1 | c
 ·rintro e w4 ⟨hB4, rfl, o4, vs4, h4⟩
  go_wp2_with fail
  exact Z1N
 ·rintro e w4 ⟨hB4, rfl⟩
  go_wp2_with fail
  exact Z1O
theorem Yc4 (m : Mk) (c : Int) : backP m c = .inr 13 ∨ ∃ m1, backP m c = .inl m1 ∧ m1.out.length = m.out.length + 1 ∧ m1.leads.length = m.leads.length + 1 := by
 unfold backP
 cases popP m.dests with
 | none => exact .inl rfl
 | some p => exact .inr ⟨_, rfl, (by simp [Mk.add]), (by simp [Mk.add])⟩
theorem Yb2 (h : Mx w base g prims o vs m) (hl : m.out.length < 1099511627775) (hl2 : m.leads.length < 1099511627775) :
 Calls Try.prog 61 #[.pointer (some ⟨g, 0, none⟩), .string ⟨#[114, 101, 112, 101, 97, 116]⟩] w (VB base g prims (match backP m 19 with | .inr e => .inr e | .inl m1 => resolveP m1) w) := by
 have hX := Aside0.mk h
 have hbk := Aside0.mk (Yc4 m 19)
 obtain ⟨v0, A1, c1, b, A7, c7, A8, c8, A9, c9, A10, c10, A11, c11, rfl⟩ := h.cells
 have k1 := h.st.cell 1 rfl
 clear h
 have hR := Aside0.mk (JP 19 hX.out Z0 Z0)
 rcases hbk.out with hb | ⟨m1, hb, h1, h2⟩
 ·have hr : (match backP m 19 with | .inr e => .inr e | .inl m1 => resolveP m1 : Res) = .inr 13 := by rw [hb]
  rw [hr]
  rw [hb] at hR
  clear hr hbk hb
  go_enter Try.func61, Try.ntmps61
  go_wp2_with fail
  refine hR.out.mono ?_
  rintro e w4 ⟨hB4, rfl⟩
  go_wp2_with fail
  exact bodyPost_ret (v := .tuple #[.int .i64 13, .bool true]) Zq rfl ⟨hB4, rfl⟩
 ·have hr : (match backP m 19 with | .inr e => .inr e | .inl m1 => resolveP m1 : Res) = resolveP m1 := by rw [hb]
  rw [hr]
  rw [hb] at hR
  clear hr hbk hb
  have hR2 : Aside0 (∀ W o4 vs4, Mx W base g prims o4 vs4 m1 → Calls Try.prog 87 #[.pointer (some ⟨g, 0, none⟩)] W (XQ base g prims (resolveP m1) W)) := ⟨fun W o4 vs4 h4 => Uy h4 Z0 Z0⟩
  generalize resolveP m1 = r at hR2 ⊢
  go_enter Try.func61, Try.ntmps61
  go_wp2_with fail
  refine hR.out.mono ?_
  rintro e w4 ⟨hB4, rfl, o4, vs4, h4⟩
  go_wp2_with fail
  refine (hR2.out _ _ _ h4).mono ?_
  rcases r with m2 | c
  ·rintro e w5 ⟨hB5, rfl, o5, vs5, h5⟩
   go_wp2_with fail
   exact bodyPost_ret (v := .tuple #[.int .i64 0, .bool true]) Zq rfl ⟨hB4.trans hB5, rfl, o5, vs5, h5⟩
  ·rintro e w5 ⟨hB5, rfl⟩
   go_wp2_with fail
   exact bodyPost_ret (v := .tuple #[.int .i64 c, .bool true]) Zq rfl ⟨hB4.trans hB5, rfl⟩
theorem Ycr (h : Mx w base g prims o vs m) (s : ByteArray) (hs : s.toList ∉ ([[105, 102], [119, 104, 105, 108, 101], [101, 108, 115, 101], [116, 104, 101, 110], [98, 101, 103, 105, 110], [117, 110, 116, 105, 108], [97, 103, 97, 105, 110], [114, 101, 112, 101, 97, 116]] : List (List UInt8))) :
 Calls Try.prog 61 #[.pointer (some ⟨g, 0, none⟩), .string s] w fun e w' => e = .returned (.tuple #[.int .i64 0, .bool false]) ∧ w' = w := by
 obtain ⟨v0, A1, c1, b, A7, c7, A8, c8, A9, c9, A10, c10, A11, c11, rfl⟩ := h.cells
 have k1 := h.st.cell 1 rfl
 clear h
 simp only [List.mem_cons, List.not_mem_nil, or_false, not_or] at hs
 obtain ⟨n0, n1, n2, n3, n4, n5, n6, n7⟩ := hs
 have b0 : (s.toList == ([105, 102] : List UInt8)) = false := beq_eq_false_iff_ne.mpr n0
 have b1 : (s.toList == ([119, 104, 105, 108, 101] : List UInt8)) = false := beq_eq_false_iff_ne.mpr n1
 have b2 : (s.toList == ([101, 108, 115, 101] : List UInt8)) = false := beq_eq_false_iff_ne.mpr n2
 have b3 : (s.toList == ([116, 104, 101, 110] : List UInt8)) = false := beq_eq_false_iff_ne.mpr n3
 have b4 : (s.toList == ([98, 101, 103, 105, 110] : List UInt8)) = false := beq_eq_false_iff_ne.mpr n4
 have b5 : (s.toList == ([117, 110, 116, 105, 108] : List UInt8)) = false := beq_eq_false_iff_ne.mpr n5
 have b6 : (s.toList == ([97, 103, 97, 105, 110] : List UInt8)) = false := beq_eq_false_iff_ne.mpr n6
 have b7 : (s.toList == ([114, 101, 112, 101, 97, 116] : List UInt8)) = false := beq_eq_false_iff_ne.mpr n7
 go_enter Try.func61, Try.ntmps61
 go_wp2_with fail
 exact bodyPost_ret (v := .tuple #[.int .i64 0, .bool false]) Zq rfl ⟨rfl, rfl⟩
end
theorem lit_C {α : Type} (d : Kd α) (e : Nat) (W : World) (l : List α) (cs : List Value) (hl : l.length ≤ 140737488351232) (hr : Reps (d.K (W.alloc (.cells cs.toArray e))) d.sz l cs) :
 d.C (W.alloc (.cells cs.toArray e)) (some ⟨W.heap.size, 0, none⟩) l.length l := by
 refine ⟨rfl, Z0, fun _ => ⟨_, rfl, fun j p hj => ⟨_, d.K_len (hr.2 j p hj), hr.2 j p hj, fun i u hu => ?_⟩⟩⟩
 have hb := Xa W (.cells cs.toArray e)
 have e1 : (⟨W.heap.size, 0, none⟩ : Addr).add (j * d.sz + i) = ⟨W.heap.size, j * d.sz + i, none⟩ := by rw [add_at, Nat.zero_add]
 rw [e1, Ya hb]
 rw [List.getElem?_take] at hu
 split at hu
 ·rw [List.getElem?_drop] at hu
  simpa using hu
 ·cases hu
section
variable {α : Type} {d : Kd α} {w : World} {base g T z i e t bytes : Nat} {vs : List Value} {o : Nat → Nat} {F : List Fld} {xs : List α} {v zv : Value}
theorem St.pushN {P : Program} {ops : Array Oper} {rest : List Oper} {Q : Exit → Act → World → Prop} {a : Act} {q : Oper} {s x : Operand} (h : St w base g T z vs o F) (hv : vs[i]? = some v) (hF : F[i]? = some (rowF d e base xs)) (ys : List α) (A : Option Addr) (m c : Nat)
 (ht : P.underlying t = some (.slice e)) (hinfo : (P.info? e).map (fun i => (i.zero, i.size, i.bytes)) = some (some zv, d.sz, bytes)) (hz : zv.cells.size = d.sz) (hs0 : 0 < d.sz) (hb0 : 0 < bytes)
 (hgd : q.guard = none) (hq : q.op = .call { callee := .builtin .append, args := #[s, x], argTypes := #[t, t] }) (hs : a.eval s = v) (hx : a.eval x = .slice A m c)
 (hC : d.C w A m ys) (hKM : ∀ x cs, d.K w x cs → d.M w base (fun _ => False) x cs) (hl : (xs.length + m) * bytes ≤ 140737488355328)
 (k : ∀ v' w2, Pushed d e base g T z i w vs o F v (xs ++ ys) v' w2 → wpList P ops Q rest (a.put q.dst v') w2) : wpList P ops Q (q :: rest) a w := by
 refine Kd.R_append_rows d (Rr := d.K w) (w0 := w) (W := w) base hgd s x t e zv bytes hq ht hinfo hz hs0 hb0 v xs ys A m c (fun k => new_ w o (z + 1 + i) k = z + 1 + i) (fun _ => False) hs hx (h.oldR hv hF) hC hKM (fun _ h => h.elim) (fun k hk => Yca hk) (Below.refl _ _) h.base_le hl ?_
 intro v' w2 hR hB hg _
 refine k v' w2 ⟨h.pushed hv hF hg hR, hB, ?_, ?_, hg⟩
 ·obtain ⟨A, c, rfl⟩ := Kd.R_slice hR
  exact ⟨A, c, rfl⟩
 ·refine XU h.box hg (fun e2 => ?_)
  have h1 := (h.row i v _ hv hF : Kd.R d e w base _ v xs).1 g e2.symm
  have h2 := h.own
  omega
end
theorem ints2 (W : World) (x y : Int) : Reps ((Kd.int .i64).K W) 1 [x, y] [.int .i64 x, .int .i64 y] :=
 ⟨rfl, fun j p hj => match j, hj with
  | 0, hj => by cases hj; rfl
  | 1, hj => by cases hj; rfl
  | j + 2, hj => by simp at hj⟩
theorem leads2 (W : World) (x y : S77) : Reps (k77.K W) 2 [x, y] [.int .i64 x.f0, .int .i64 x.f1, .int .i64 y.f0, .int .i64 y.f1] :=
 ⟨rfl, fun j p hj => match j, hj with
  | 0, hj => by cases hj; exact k77_mk _ _
  | 1, hj => by cases hj; exact k77_mk _ _
  | j + 2, hj => by simp at hj⟩
section
variable {w : World} {base g : Nat} {prims : List (ByteArray × Int)} {o : Nat → Nat} {vs : List Value} {m : Mk}
theorem Yd7 (h : Mx w base g prims o vs m) (hl : m.out.length < 1099511627770) (hl2 : m.leads.length < 1099511627776) (hl3 : m.origs.length < 1099511627770) :
 Calls Try.prog 61 #[.pointer (some ⟨g, 0, none⟩), .string ⟨#[101, 108, 115, 101]⟩] w (VB base g prims (match popP m.origs with | none => .inr 13 | some (x, l) => resolveP ({ m with origs := l ++ [m.at_, x] }.add 19)) w) := by
 rcases snoc_cases m.origs with ho | ⟨xs, x, ho⟩
 ·have hr : (match popP m.origs with | none => .inr 13 | some (x, l) => resolveP ({ m with origs := l ++ [m.at_, x] }.add 19) : Res) = .inr 13 := by rw [ho]; rfl
  rw [hr]
  have hF : (mkF base prims m)[7]? = some (rowF (Kd.int .i64) 3 base []) := by rw [← ho]; rfl
  obtain ⟨v0, A1, c1, b, A7, c7, A8, c8, A9, c9, A10, c10, A11, c11, rfl⟩ := h.cells
  have k1 := h.st.cell 1 rfl
  have hp := h.st.pop_none (i := 7) rfl hF
  clear hF hr h ho
  go_enter Try.func61, Try.ntmps61
  go_wp2_with fail
  refine hp.mono ?_
  rintro e w1 ⟨rfl, rfl⟩
  go_wp2_with fail
  exact bodyPost_ret (v := .tuple #[.int .i64 13, .bool true]) Zq rfl ⟨Below.refl _ _, rfl⟩
 ·have hr : (match popP m.origs with | none => .inr 13 | some (x, l) => resolveP ({ m with origs := l ++ [m.at_, x] }.add 19) : Res) = resolveP ({ m with origs := xs ++ [m.at_, x] }.add 19) := by rw [ho, Uq]
  rw [hr]
  have hF : (mkF base prims m)[7]? = some (rowF (Kd.int .i64) 3 base (xs ++ [x])) := by rw [← ho]; rfl
  clear hr
  obtain ⟨r, R0⟩ : ∃ r, resolveP ({ m with origs := xs ++ [m.at_, x] }.add 19) = r := ⟨_, rfl⟩
  rw [R0]
  have R := Aside0.mk R0
  clear R0
  obtain ⟨v, hv⟩ : ∃ v, vs[7]? = some v := ⟨_, List.getElem?_eq_getElem ZZ⟩
  have hp := h.st.pop hv hF
  have hxl : xs.length < 1099511627770 := by rw [ho] at hl3; simp at hl3; omega
  clear hF hv
  have hX := Aside0.mk h
  have hHo := Aside0.mk ho
  have k1 : ∃ A1 c1, w.cell? ⟨g, 1, none⟩ = some (.slice A1 m.out.length c1) := by
   obtain ⟨v0, A1, c1, b, A7, c7, A8, c8, A9, c9, A10, c10, A11, c11, rfl⟩ := h.cells
   exact ⟨_, _, h.st.cell 1 rfl⟩
  obtain ⟨A1, c1, k1⟩ := k1
  clear h ho
  go_enter Try.func61, Try.ntmps61
  go_wp2_with fail
  refine hp.mono ?_
  rintro e w1 ⟨rfl, v', hst, hB1⟩
  have h1 : Mx w1 base g prims o (vs.set 7 v') { m with origs := xs } := ⟨hst, Z1D⟩
  have hgb := hX.out.st.hb
  clear hst hp k1
  generalize hm1 : ({ m with origs := xs } : Mk) = m1 at h1
  have hmo := Aside0.mk (show m1.out = m.out by rw [← hm1])
  have hml := Aside0.mk (show m1.leads = m.leads by rw [← hm1])
  have hmx := Aside0.mk (show m1.origs = xs by rw [← hm1])
  generalize vs.set 7 v' = vs1 at h1
  obtain ⟨v0, A1, c1, b, A7, c7, A8, c8, A9, c9, A10, c10, A11, c11, rfl⟩ := h1.cells
  have k7 := h1.st.cell 7 rfl
  have hY := Aside0.mk h1
  have hm1' := Aside0.mk hm1
  clear h1 hm1
  have hsz := Below.refl w1.heap.size w1
  have hBn := Yc hsz (.cells #[.int .i64 m.out.length, .int .i64 x] 3)
  have hLC := lit_C (Kd.int .i64) 3 w1 [(m.out.length : Int), x] [.int .i64 m.out.length, .int .i64 x] Z3 (ints2 _ _ _)
  have hb1 := hY.out.st.base_le
  have hn : m1.origs.length < 1099511627770 := by rw [hmx.out]; exact hxl
  go_wp2_with (at_builtin; refine St.pushN (d := Kd.int .i64) (e := 3) (i := 7) (hY.out.below hBn).st rfl rfl [(m.out.length : Int), x] (some ⟨w1.heap.size, 0, none⟩) 2 2 Try.underlying53 info3 rfl Z1 Z1 rfl rfl rfl rfl hLC (fun _ _ h => h) Z0 ?_)
  rintro v2 w2 ⟨hst, hB2, ⟨A2, c2, rfl⟩, hb2, hg2⟩
  have hz : (m1.origs ++ [(m.out.length : Int), x]).length = m1.origs.length + 2 := by simp
  rw [hz] at hst ⊢
  have hf := Yf hb2 7
  have k7' : w2.cell? ⟨g, 7, none⟩ = some (.slice A7 m1.origs.length c7) := (Ya hb2 7).trans rfl
  have h2 : Mx _ base g prims _ _ { m1 with origs := m1.origs ++ [(m.out.length : Int), x] } := ⟨hst, rfl⟩
  have hB3 : Below base w (w2.setCell ⟨g, 7, none⟩ (.slice A2 (m1.origs.length + 2) c2)) := Below.setCell (hB1.trans ((Below.mono hBn hb1).trans hB2)) hgb _
  clear hLC k7 hBn hsz hb2 hg2
  go_wp2_with fail
  refine (YW h2 19 0 ⟨#[]⟩ Z1A).mono ?_
  rintro e w4 ⟨rfl, hB4, o4, vs4, h4⟩
  have he : (({ m1 with origs := m1.origs ++ [(m.out.length : Int), x] } : Mk).add 19 0 ⟨#[]⟩) = ({ m with origs := xs ++ [m.at_, x] } : Mk).add 19 := by rw [← hm1'.out]; rfl
  rw [he] at h4
  have hR := Uy h4 Z18 Z18
  rw [R.out] at hR
  clear he h4
  go_wp2_with fail
  refine hR.mono ?_
  rcases r with m2 | c
  ·rintro e w5 ⟨hB5, rfl, o5, vs5, h5⟩
   go_wp2_with fail
   exact bodyPost_ret (v := .tuple #[.int .i64 0, .bool true]) Zq rfl ⟨hB3.trans (hB4.trans hB5), rfl, o5, vs5, h5⟩
  ·rintro e w5 ⟨hB5, rfl⟩
   go_wp2_with fail
   exact bodyPost_ret (v := .tuple #[.int .i64 c, .bool true]) Zq rfl ⟨hB3.trans (hB4.trans hB5), rfl⟩
end
section
variable {w : World} {base g : Nat} {prims : List (ByteArray × Int)} {o : Nat → Nat} {vs : List Value} {m : Mk}
theorem do_calls (h : Mx w base g prims o vs m) (hl : m.out.length < 1099511627776) (hl2 : m.loops.length < 1099511627776) :
 Calls Try.prog 62 #[.pointer (some ⟨g, 0, none⟩), .string ⟨#[100, 111]⟩] w (VB base g prims (.inl ({ m with loops := m.loops ++ [m.at_] }.add 23)) w) := by
 obtain ⟨v0, A1, c1, b, A7, c7, A8, c8, A9, c9, A10, c10, A11, c11, rfl⟩ := h.cells
 have k1 := h.st.cell 1 rfl
 have k8 := h.st.cell 9 rfl
 have hX := Aside0.mk h
 clear h
 go_enter Try.func62, Try.ntmps62
 go_wp2_with (at_builtin; refine St.push (d := Kd.int .i64) (e := 3) (i := 9) hX.out.st rfl rfl (m.out.length : Int) [.int .i64 m.out.length] (fun _ => False) rfl Try.underlying53 info3 rfl Z1 Z1 rfl rfl rfl rfl rfl Z0 ?_)
 rintro v2 w2 ⟨hst, hB2, ⟨A2, c2, rfl⟩, hb2, hg2⟩
 have hz : (m.loops ++ [(m.out.length : Int)]).length = m.loops.length + 1 := by simp
 rw [hz] at hst ⊢
 have hf := Yf hb2 9
 have k8' : w2.cell? ⟨g, 9, none⟩ = some (.slice A9 m.loops.length c9) := (Ya hb2 9).trans rfl
 have h2 : Mx _ base g prims _ _ { m with loops := m.loops ++ [(m.out.length : Int)] } := ⟨hst, rfl⟩
 have hB3 : Below base w (w2.setCell ⟨g, 9, none⟩ (.slice A2 (m.loops.length + 1) c2)) := Below.setCell hB2 hX.out.st.hb _
 go_wp2_with fail
 refine (YW h2 23 0 ⟨#[]⟩ hl).mono ?_
 rintro e w4 ⟨rfl, hB4, o4, vs4, h4⟩
 go_wp2_with fail
 exact Z1t
theorem qdo_calls (h : Mx w base g prims o vs m) (hl : m.out.length < 1099511627776) (hl2 : m.loops.length < 1099511627776) :
 Calls Try.prog 62 #[.pointer (some ⟨g, 0, none⟩), .string ⟨#[63, 100, 111]⟩] w (VB base g prims (.inl ({ m with loops := m.loops ++ [m.at_] }.add 24)) w) := by
 obtain ⟨v0, A1, c1, b, A7, c7, A8, c8, A9, c9, A10, c10, A11, c11, rfl⟩ := h.cells
 have k1 := h.st.cell 1 rfl
 have k8 := h.st.cell 9 rfl
 have hX := Aside0.mk h
 clear h
 go_enter Try.func62, Try.ntmps62
 go_wp2_with (at_builtin; refine St.push (d := Kd.int .i64) (e := 3) (i := 9) hX.out.st rfl rfl (m.out.length : Int) [.int .i64 m.out.length] (fun _ => False) rfl Try.underlying53 info3 rfl Z1 Z1 rfl rfl rfl rfl rfl Z0 ?_)
 rintro v2 w2 ⟨hst, hB2, ⟨A2, c2, rfl⟩, hb2, hg2⟩
 have hz : (m.loops ++ [(m.out.length : Int)]).length = m.loops.length + 1 := by simp
 rw [hz] at hst ⊢
 have hf := Yf hb2 9
 have k8' : w2.cell? ⟨g, 9, none⟩ = some (.slice A9 m.loops.length c9) := (Ya hb2 9).trans rfl
 have h2 : Mx _ base g prims _ _ { m with loops := m.loops ++ [(m.out.length : Int)] } := ⟨hst, rfl⟩
 have hB3 : Below base w (w2.setCell ⟨g, 9, none⟩ (.slice A2 (m.loops.length + 1) c2)) := Below.setCell hB2 hX.out.st.hb _
 go_wp2_with fail
 refine (YW h2 24 0 ⟨#[]⟩ hl).mono ?_
 rintro e w4 ⟨rfl, hB4, o4, vs4, h4⟩
 go_wp2_with fail
 exact Z1t
theorem YcL (h : Mx w base g prims o vs m) (hl : m.out.length < 1099511627776) (hl2 : m.loops.length < 1099511627776) (hne : m.loops ≠ []) :
 Calls Try.prog 62 #[.pointer (some ⟨g, 0, none⟩), .string ⟨#[108, 101, 97, 118, 101]⟩] w (VB base g prims (.inl (m.add 27)) w) := by
 have hX := Aside0.mk h
 obtain ⟨v0, A1, c1, b, A7, c7, A8, c8, A9, c9, A10, c10, A11, c11, rfl⟩ := h.cells
 have k1 := h.st.cell 1 rfl
 have k9 := h.st.cell 9 rfl
 have hp : 0 < m.loops.length := List.length_pos_iff.2 hne
 have e0 : ((m.loops.length : Int) == 0) = false := by simp; exact hne
 clear h hne
 go_enter Try.func62, Try.ntmps62
 go_wp2_with fail
 refine (YW hX.out 27 0 ⟨#[]⟩ hl).mono ?_
 rintro e w4 ⟨rfl, hB4, o4, vs4, h4⟩
 go_wp2_with fail
 exact bodyPost_ret (v := .tuple #[.int .i64 0, .bool true]) ZI rfl ⟨hB4, rfl, o4, vs4, h4⟩
end
section
variable {w : World} {base g : Nat} {prims : List (ByteArray × Int)} {o : Nat → Nat} {vs : List Value} {m : Mk}
theorem YdQ (h : Mx w base g prims o vs m) (hl : m.out.length < 1099511627770) (hl2 : m.leads.length < 1099511627770) :
 Calls Try.prog 62 #[.pointer (some ⟨g, 0, none⟩), .string ⟨#[108, 111, 111, 112]⟩] w (VB base g prims (match popP m.loops with | none => .inr 13 | some (x, l) => .inl ({ m with loops := l, leads := m.leads ++ ([⟨m.at_, x⟩, ⟨x, m.at_⟩] : List Ld) }.add 21)) w) := by
 rcases snoc_cases m.loops with ho | ⟨xs, x, ho⟩
 ·have hr : (match popP m.loops with | none => .inr 13 | some (x, l) => .inl ({ m with loops := l, leads := m.leads ++ ([⟨m.at_, x⟩, ⟨x, m.at_⟩] : List Ld) }.add 21) : Res) = .inr 13 := by rw [ho]; rfl
  rw [hr]
  have hF : (mkF base prims m)[9]? = some (rowF (Kd.int .i64) 3 base []) := by rw [← ho]; rfl
  obtain ⟨v0, A1, c1, b, A7, c7, A8, c8, A9, c9, A10, c10, A11, c11, rfl⟩ := h.cells
  have k1 := h.st.cell 1 rfl
  have hp := h.st.pop_none (i := 9) rfl hF
  clear hF hr h ho
  go_enter Try.func62, Try.ntmps62
  go_wp2_with fail
  refine hp.mono ?_
  rintro e w1 ⟨rfl, rfl⟩
  go_wp2_with fail
  exact Z1P
 ·have hr : (match popP m.loops with | none => .inr 13 | some (x, l) => .inl ({ m with loops := l, leads := m.leads ++ ([⟨m.at_, x⟩, ⟨x, m.at_⟩] : List Ld) }.add 21) : Res) = .inl ({ m with loops := xs, leads := m.leads ++ ([⟨m.at_, x⟩, ⟨x, m.at_⟩] : List Ld) }.add 21) := by rw [ho, Uq]
  rw [hr]
  have hF : (mkF base prims m)[9]? = some (rowF (Kd.int .i64) 3 base (xs ++ [x])) := by rw [← ho]; rfl
  clear hr
  obtain ⟨v, hv⟩ : ∃ v, vs[9]? = some v := ⟨_, List.getElem?_eq_getElem ZZ⟩
  have hp := h.st.pop hv hF
  clear hF hv
  have hX := Aside0.mk h
  have k1 : ∃ A1 c1, w.cell? ⟨g, 1, none⟩ = some (.slice A1 m.out.length c1) := by
   obtain ⟨v0, A1, c1, b, A7, c7, A8, c8, A9, c9, A10, c10, A11, c11, rfl⟩ := h.cells
   exact ⟨_, _, h.st.cell 1 rfl⟩
  obtain ⟨A1, c1, k1⟩ := k1
  clear h ho
  go_enter Try.func62, Try.ntmps62
  go_wp2_with fail
  refine hp.mono ?_
  rintro e w1 ⟨rfl, v', hst, hB1⟩
  have h1 : Mx w1 base g prims o (vs.set 9 v') { m with loops := xs } := ⟨hst, Z1D⟩
  have hgb := hX.out.st.hb
  clear hst hp k1
  generalize hm1 : ({ m with loops := xs } : Mk) = m1 at h1
  have hmo := Aside0.mk (show m1.out = m.out by rw [← hm1])
  have hml := Aside0.mk (show m1.leads = m.leads by rw [← hm1])
  generalize vs.set 9 v' = vs1 at h1
  obtain ⟨v0, A1, c1, b, A7, c7, A8, c8, A9, c9, A10, c10, A11, c11, rfl⟩ := h1.cells
  have k11 := h1.st.cell 11 rfl
  have hY := Aside0.mk h1
  have hm1' := Aside0.mk hm1
  clear h1 hm1
  have hsz := Below.refl w1.heap.size w1
  have hBn := Yc hsz (.cells #[.int .i64 m.out.length, .int .i64 x, .int .i64 x, .int .i64 m.out.length] 101)
  have hLC := lit_C k77 101 w1 [⟨m.out.length, x⟩, ⟨x, m.out.length⟩] [.int .i64 m.out.length, .int .i64 x, .int .i64 x, .int .i64 m.out.length] Z3 (leads2 _ _ _)
  have hb1 := hY.out.st.base_le
  have hn : m1.leads.length < 1099511627770 := by rw [hml.out]; exact hl2
  go_wp2_with (at_builtin; refine St.pushN (d := k77) (e := 101) (i := 11) (hY.out.below hBn).st rfl rfl [⟨m.out.length, x⟩, ⟨x, m.out.length⟩] (some ⟨w1.heap.size, 0, none⟩) 2 2 Try.underlying55 JH rfl Z1 Z1 rfl rfl rfl rfl hLC (fun x cs h => by rw [YbH h]; exact JF _ _ _ _) Z0 ?_)
  rintro v2 w2 ⟨hst, hB2, ⟨A2, c2, rfl⟩, hb2, hg2⟩
  have hz : (m1.leads ++ ([⟨m.out.length, x⟩, ⟨x, m.out.length⟩] : List Ld)).length = m1.leads.length + 2 := by simp
  rw [hz] at hst ⊢
  have hf := Yf hb2 11
  have k11' : w2.cell? ⟨g, 11, none⟩ = some (.slice A11 m1.leads.length c11) := (Ya hb2 11).trans rfl
  have h2 : Mx _ base g prims _ _ { m1 with leads := m1.leads ++ ([⟨m.out.length, x⟩, ⟨x, m.out.length⟩] : List Ld) } := ⟨hst, rfl⟩
  have hB3 : Below base w (w2.setCell ⟨g, 11, none⟩ (.slice A2 (m1.leads.length + 2) c2)) := Below.setCell (hB1.trans ((Below.mono hBn hb1).trans hB2)) hgb _
  clear hLC k11 hBn hsz hb2 hg2
  go_wp2_with fail
  refine (YW h2 21 0 ⟨#[]⟩ Z1A).mono ?_
  rintro e w4 ⟨rfl, hB4, o4, vs4, h4⟩
  have he : (({ m1 with leads := m1.leads ++ ([⟨m.out.length, x⟩, ⟨x, m.out.length⟩] : List Ld) } : Mk).add 21 0 ⟨#[]⟩) = ({ m with loops := xs, leads := m.leads ++ ([⟨m.at_, x⟩, ⟨x, m.at_⟩] : List Ld) } : Mk).add 21 := by rw [← hm1'.out]; rfl
  rw [he] at h4
  clear he
  go_wp2_with fail
  exact Z1t
theorem YcH (h : Mx w base g prims o vs m) (hl : m.out.length < 1099511627770) (hl2 : m.leads.length < 1099511627770) :
 Calls Try.prog 62 #[.pointer (some ⟨g, 0, none⟩), .string ⟨#[43, 108, 111, 111, 112]⟩] w (VB base g prims (match popP m.loops with | none => .inr 13 | some (x, l) => .inl ({ m with loops := l, leads := m.leads ++ ([⟨m.at_, x⟩, ⟨x, m.at_⟩] : List Ld) }.add 22)) w) := by
 rcases snoc_cases m.loops with ho | ⟨xs, x, ho⟩
 ·have hr : (match popP m.loops with | none => .inr 13 | some (x, l) => .inl ({ m with loops := l, leads := m.leads ++ ([⟨m.at_, x⟩, ⟨x, m.at_⟩] : List Ld) }.add 22) : Res) = .inr 13 := by rw [ho]; rfl
  rw [hr]
  have hF : (mkF base prims m)[9]? = some (rowF (Kd.int .i64) 3 base []) := by rw [← ho]; rfl
  obtain ⟨v0, A1, c1, b, A7, c7, A8, c8, A9, c9, A10, c10, A11, c11, rfl⟩ := h.cells
  have k1 := h.st.cell 1 rfl
  have hp := h.st.pop_none (i := 9) rfl hF
  clear hF hr h ho
  go_enter Try.func62, Try.ntmps62
  go_wp2_with fail
  refine hp.mono ?_
  rintro e w1 ⟨rfl, rfl⟩
  go_wp2_with fail
  exact Z1P
 ·have hr : (match popP m.loops with | none => .inr 13 | some (x, l) => .inl ({ m with loops := l, leads := m.leads ++ ([⟨m.at_, x⟩, ⟨x, m.at_⟩] : List Ld) }.add 22) : Res) = .inl ({ m with loops := xs, leads := m.leads ++ ([⟨m.at_, x⟩, ⟨x, m.at_⟩] : List Ld) }.add 22) := by rw [ho, Uq]
  rw [hr]
  have hF : (mkF base prims m)[9]? = some (rowF (Kd.int .i64) 3 base (xs ++ [x])) := by rw [← ho]; rfl
  clear hr
  obtain ⟨v, hv⟩ : ∃ v, vs[9]? = some v := ⟨_, List.getElem?_eq_getElem ZZ⟩
  have hp := h.st.pop hv hF
  clear hF hv
  have hX := Aside0.mk h
  have k1 : ∃ A1 c1, w.cell? ⟨g, 1, none⟩ = some (.slice A1 m.out.length c1) := by
   obtain ⟨v0, A1, c1, b, A7, c7, A8, c8, A9, c9, A10, c10, A11, c11, rfl⟩ := h.cells
   exact ⟨_, _, h.st.cell 1 rfl⟩
  obtain ⟨A1, c1, k1⟩ := k1
  clear h ho
  go_enter Try.func62, Try.ntmps62
  go_wp2_with fail
  refine hp.mono ?_
  rintro e w1 ⟨rfl, v', hst, hB1⟩
  have h1 : Mx w1 base g prims o (vs.set 9 v') { m with loops := xs } := ⟨hst, Z1D⟩
  have hgb := hX.out.st.hb
  clear hst hp k1
  generalize hm1 : ({ m with loops := xs } : Mk) = m1 at h1
  have hmo := Aside0.mk (show m1.out = m.out by rw [← hm1])
  have hml := Aside0.mk (show m1.leads = m.leads by rw [← hm1])
  generalize vs.set 9 v' = vs1 at h1
  obtain ⟨v0, A1, c1, b, A7, c7, A8, c8, A9, c9, A10, c10, A11, c11, rfl⟩ := h1.cells
  have k11 := h1.st.cell 11 rfl
  have hY := Aside0.mk h1
  have hm1' := Aside0.mk hm1
  clear h1 hm1
  have hsz := Below.refl w1.heap.size w1
  have hBn := Yc hsz (.cells #[.int .i64 m.out.length, .int .i64 x, .int .i64 x, .int .i64 m.out.length] 101)
  have hLC := lit_C k77 101 w1 [⟨m.out.length, x⟩, ⟨x, m.out.length⟩] [.int .i64 m.out.length, .int .i64 x, .int .i64 x, .int .i64 m.out.length] Z3 (leads2 _ _ _)
  have hb1 := hY.out.st.base_le
  have hn : m1.leads.length < 1099511627770 := by rw [hml.out]; exact hl2
  go_wp2_with (at_builtin; refine St.pushN (d := k77) (e := 101) (i := 11) (hY.out.below hBn).st rfl rfl [⟨m.out.length, x⟩, ⟨x, m.out.length⟩] (some ⟨w1.heap.size, 0, none⟩) 2 2 Try.underlying55 JH rfl Z1 Z1 rfl rfl rfl rfl hLC (fun x cs h => by rw [YbH h]; exact JF _ _ _ _) Z0 ?_)
  rintro v2 w2 ⟨hst, hB2, ⟨A2, c2, rfl⟩, hb2, hg2⟩
  have hz : (m1.leads ++ ([⟨m.out.length, x⟩, ⟨x, m.out.length⟩] : List Ld)).length = m1.leads.length + 2 := by simp
  rw [hz] at hst ⊢
  have hf := Yf hb2 11
  have k11' : w2.cell? ⟨g, 11, none⟩ = some (.slice A11 m1.leads.length c11) := (Ya hb2 11).trans rfl
  have h2 : Mx _ base g prims _ _ { m1 with leads := m1.leads ++ ([⟨m.out.length, x⟩, ⟨x, m.out.length⟩] : List Ld) } := ⟨hst, rfl⟩
  have hB3 : Below base w (w2.setCell ⟨g, 11, none⟩ (.slice A2 (m1.leads.length + 2) c2)) := Below.setCell (hB1.trans ((Below.mono hBn hb1).trans hB2)) hgb _
  clear hLC k11 hBn hsz hb2 hg2
  go_wp2_with fail
  refine (YW h2 22 0 ⟨#[]⟩ Z1A).mono ?_
  rintro e w4 ⟨rfl, hB4, o4, vs4, h4⟩
  have he : (({ m1 with leads := m1.leads ++ ([⟨m.out.length, x⟩, ⟨x, m.out.length⟩] : List Ld) } : Mk).add 22 0 ⟨#[]⟩) = ({ m with loops := xs, leads := m.leads ++ ([⟨m.at_, x⟩, ⟨x, m.at_⟩] : List Ld) } : Mk).add 22 := by rw [← hm1'.out]; rfl
  rw [he] at h4
  clear he
  go_wp2_with fail
  exact Z1t
theorem YdR (h : Mx w base g prims o vs m) (hne : m.loops = []) :
 Calls Try.prog 62 #[.pointer (some ⟨g, 0, none⟩), .string ⟨#[108, 101, 97, 118, 101]⟩] w (VB base g prims (.inr 13) w) := by
 obtain ⟨v0, A1, c1, b, A7, c7, A8, c8, A9, c9, A10, c10, A11, c11, rfl⟩ := h.cells
 have k1 := h.st.cell 1 rfl
 have k9 := h.st.cell 9 rfl
 rw [hne] at k9
 clear h hne
 go_enter Try.func62, Try.ntmps62
 go_wp2_with fail
 exact Z1P
theorem YdP (h : Mx w base g prims o vs m) (s : ByteArray) (hs : s.toList ∉ ([[100, 111], [63, 100, 111], [108, 111, 111, 112], [43, 108, 111, 111, 112], [108, 101, 97, 118, 101]] : List (List UInt8))) :
 Calls Try.prog 62 #[.pointer (some ⟨g, 0, none⟩), .string s] w fun e w' => e = .returned (.tuple #[.int .i64 0, .bool false]) ∧ w' = w := by
 obtain ⟨v0, A1, c1, b, A7, c7, A8, c8, A9, c9, A10, c10, A11, c11, rfl⟩ := h.cells
 have k1 := h.st.cell 1 rfl
 clear h
 simp only [List.mem_cons, List.not_mem_nil, or_false, not_or] at hs
 obtain ⟨n0, n1, n2, n3, n4⟩ := hs
 have b0 : (s.toList == ([100, 111] : List UInt8)) = false := beq_eq_false_iff_ne.mpr n0
 have b1 : (s.toList == ([63, 100, 111] : List UInt8)) = false := beq_eq_false_iff_ne.mpr n1
 have b2 : (s.toList == ([108, 111, 111, 112] : List UInt8)) = false := beq_eq_false_iff_ne.mpr n2
 have b3 : (s.toList == ([43, 108, 111, 111, 112] : List UInt8)) = false := beq_eq_false_iff_ne.mpr n3
 have b4 : (s.toList == ([108, 101, 97, 118, 101] : List UInt8)) = false := beq_eq_false_iff_ne.mpr n4
 go_enter Try.func62, Try.ntmps62
 go_wp2_with fail
 exact bodyPost_ret (v := .tuple #[.int .i64 0, .bool false]) ZI rfl ⟨rfl, rfl⟩
end
end Go.Proofs.Ytehmhgpogpbjiaa.Fcc
