/- choose: of, endof, endcase. -/
import Derived.Test.Ytehmhgpogpbjiaafw14
import Derived.WideKeyEntry
import Derived.Maps.Views
import Derived.Test.Ytehmhgpogpbjiaafw13
import Derived.Maps.OwnOps
import Derived.StringKeys
namespace Go.Proofs.Ytehmhgpogpbjiaa.Fcc
open Go.RowKit Go.Proofs.YtehmhgpogpbjiaaW.PrintWords Go.Proofs.YtehmhgpogpbjiaaW.PrintLast Go.Proofs.YtehmhgpogpbjiaaW.PrintMore Go.Proofs.Ytehmhgpogpbjiaa.PFccTokens
set_option linter.unusedVariables false
set_option linter.unusedSimpArgs false
section
variable {α : Type} {d : Kd α} {w w1 : World} {base g T z i e : Nat} {vs : List Value} {o : Nat → Nat} {F : List Fld} {pre : List α} {x x' : α} {v : Value}
/-- The newest one of rows. -/
theorem St.last (h : St w base g T z vs o F) (hv : vs[i]? = some v) (hF : F[i]? = some (rowsF d e base (pre ++ [x]))) :
    ∃ gc cap cells oki c, v = .slice (some ⟨gc, 0, none⟩) (pre.length + 1) cap ∧ pre.length + 1 ≤ cap ∧ o gc = z + 1 + i ∧ base ≤ gc ∧ w.heap[gc]? = some (.cells cells e (0, 0)) ∧ c.length = d.sz ∧ d.M w base oki x c ∧ (∀ q u, c[q]? = some u → cells[pre.length * d.sz + q]? = some u) ∧ (∀ k, oki k → o k = z + 1 + i ∧ k ≠ gc) ∧
      Kd.H d e w base (fun k => o k = z + 1 + i) v (pre ++ [x]) pre.length oki c := by
  have hS : Kd.S d e w base (fun k => o k = z + 1 + i) v (pre ++ [x]) := h.row i v _ hv hF
  obtain ⟨gc, cap, rfl, hb, hl, cells, hc⟩ := Kd.S_form hS (by simp)
  have hz : (pre ++ [x]).length = pre.length + 1 := by simp
  have hcap := (Kd.S_reads' hS).2.1
  rw [hz] at hS hcap ⊢
  obtain ⟨oki, c, hcl, hM, hcc, hfr, hok, hH⟩ := Kd.S_elem hS x pre.length (by omega) (by omega)
  have hx : (pre ++ [x]).getD (pre.length : Int).toNat x = x := by simp
  rw [hx] at hM
  refine ⟨gc, cap, cells, oki, c, rfl, hcap, (Kd.S_R hS).1 gc (by simp [Value.ownBlock]), hb, hc, hcl, hM, fun q u hq => ?_, hok, hH⟩
  have := hcc q u hq
  rw [blk_cell hc] at this
  simpa using this
/-- The newest one put back, as it is now. -/
theorem St.back {o1 : Nat → Nat} {gc n cap : Nat} {okx okp : Nat → Prop} {c : List Value} (h : St w base g T z vs o F) (hv : vs[i]? = some (.slice (some ⟨gc, 0, none⟩) n cap)) (ho : ∀ k, k < w.heap.size → o1 k = o k) (hk : ∀ k, k < w.heap.size → base ≤ k → o k ≠ z + 1 + i → w1.heap[k]? = w.heap[k]?)
    (hH : Kd.H d e w1 base (fun k => o1 k = z + 1 + i) (.slice (some ⟨gc, 0, none⟩) n cap) (pre ++ [x]) pre.length okx c) (hM : d.M w1 base okp x' c) (hokp : ∀ k, okp k → okx k) : St w1 base g T z vs o1 (F.set i (rowsF d e base (pre ++ [x']))) := by
  refine h.turn i (loc_rows _ _ _ _) ho hk (fun v hv' => ?_)
  rw [hv] at hv'
  cases hv'
  have := Kd.H_back hH hM hokp
  simpa using this
end
section
variable {w : World} {base g : Nat} {prims : List (ByteArray × Int)} {o : Nat → Nat} {vs : List Value} {m : Mk} {pre : List Ch} {c : Ch}
set_option maxRecDepth 100000 in
set_option maxHeartbeats 2000000 in
theorem of_calls (h : Mx w base g prims o vs m) (hl : m.out.length < 1099511627770) (hn : m.cases = pre ++ [c]) (hl2 : m.cases.length < 1099511627770) (hc : c.f0 < 0) :
    Calls Try.prog 63 #[.pointer (some ⟨g, 0, none⟩), .string ⟨#[111, 102]⟩] w (MPost base g prims (.inl ({ m with cases := pre ++ ([⟨m.at_, c.f1⟩] : List Ch) }.add 28)) w) := by
  obtain ⟨v0, A1, c1, b, A7, c7, A8, c8, A9, c9, A10, c10, A11, c11, rfl⟩ := h.cells
  have hF : (mkF base prims m)[10]? = some (rowsF k149 142 base (pre ++ [c])) := by rw [← hn]; rfl
  obtain ⟨gc, cap, cells, oki, cc, hv, hcap, hog, hbg, hbk, hcl, hM, hcc, hok, hH⟩ := h.st.last (i := 10) rfl hF
  obtain ⟨v1, rfl, hR1⟩ := k149_openM hM
  have hlen : m.cases.length = pre.length + 1 := by rw [hn]; simp
  rw [hlen] at hl2 h hv hH
  cases hv
  have k1 := h.st.cell 1 rfl
  have k10 := h.st.cell 10 rfl
  have q0 : w.cell? ⟨gc, pre.length * 2, none⟩ = some (.int .i64 c.f0) := (blk_cell hbk _).trans (hcc 0 _ rfl)
  have f0 : w.frozen? ⟨gc, pre.length * 2, none⟩ = false := blk_frozen hbk _
  have hX := Aside0.mk h
  have hH' := Aside0.mk hH
  clear h hn hF hlen hH
  go_enter Try.func63, Try.ntmps63
  go_wp2_with fail
  go_quiet (fail)
  have hq := Drawn0.below (w := w) (w' := w.drewN nq) ⟨⟨nq, rfl⟩⟩
  have hB0 := Below.mono hq hX.out.st.base_le
  have hY := Aside0.mk (hX.out.below hq)
  have hb1 := Kd.H_drewN hH'.out nq
  have hs1 := Kd.H_seg hb1 (by omega) (by omega) (seg := [.int .i64 m.out.length]) (j := 0) (by show 0 + 1 ≤ 2; omega) (by simp [Value.oneCell'])
  have hR2 := Kd.R_far (p := ⟨gc, pre.length * 2, none⟩) (Kd.R_drewN hR1 nq) (fun k hk => (hok k hk).2) (.int .i64 m.out.length)
  have h2 : Mx ((w.drewN nq).setCell ⟨gc, pre.length * 2, none⟩ (.int .i64 m.out.length)) base g prims o _ { m with cases := pre ++ ([⟨m.at_, c.f1⟩] : List Ch) } :=
    ⟨hY.out.st.back (x' := (⟨m.at_, c.f1⟩ : S149)) rfl (fun _ _ => rfl) (fun k hlt _ hne => hs1.2.block k hlt (fun e => hne (by cases e; exact hog))) hs1.1 (k149_mkM _ _ _ (x := ⟨m.at_, c.f1⟩) hR2) (fun _ hk => hk), rfl⟩
  have hB3 := hB0.setCell (p := ⟨gc, pre.length * 2, none⟩) hbg (.int .i64 m.out.length)
  clear hb1 hs1 hR2 hq hbk hcc hM hcl
  go_wp2_with fail
  refine (add_calls h2 28 0 ⟨#[]⟩ (by show m.out.length < _; omega)).mono ?_
  rintro e w4 ⟨rfl, hB4, o4, vs4, h4⟩
  go_wp2_with fail
  exact bodyPost_ret (v := .int .i64 0) (by simp [results, Try.results63, go_sem]) rfl ⟨hB3.trans hB4, rfl, o4, vs4, h4⟩
set_option maxRecDepth 100000 in
set_option maxHeartbeats 2000000 in
theorem choose_shut (h : Mx w base g prims o vs m) (hl : m.out.length < 1099511627770) (hn : m.cases = pre ++ [c]) (hl2 : m.cases.length < 1099511627770) (hc : c.f0 < 0) :
    Calls Try.prog 63 #[.pointer (some ⟨g, 0, none⟩), .string ⟨#[101, 110, 100, 111, 102]⟩] w (MPost base g prims (.inr 13) w) := by
  obtain ⟨v0, A1, c1, b, A7, c7, A8, c8, A9, c9, A10, c10, A11, c11, rfl⟩ := h.cells
  have hF : (mkF base prims m)[10]? = some (rowsF k149 142 base (pre ++ [c])) := by rw [← hn]; rfl
  obtain ⟨gc, cap, cells, oki, cc, hv, hcap, hog, hbg, hbk, hcl, hM, hcc, hok, hH⟩ := h.st.last (i := 10) rfl hF
  obtain ⟨v1, rfl, hR1⟩ := k149_openM hM
  have hlen : m.cases.length = pre.length + 1 := by rw [hn]; simp
  rw [hlen] at hl2 h hv hH
  cases hv
  have k1 := h.st.cell 1 rfl
  have k10 := h.st.cell 10 rfl
  have q0 : w.cell? ⟨gc, pre.length * 2, none⟩ = some (.int .i64 c.f0) := (blk_cell hbk _).trans (hcc 0 _ rfl)
  have hX := Aside0.mk h
  clear h hn hF hlen hH hcc hM hcl hbk
  go_enter Try.func63, Try.ntmps63
  go_wp2_with fail
  go_quiet (fail)
  have hq := Drawn0.below (w := w) (w' := w.drewN nq) ⟨⟨nq, rfl⟩⟩
  have hB0 := Below.mono hq hX.out.st.base_le
  go_wp2_with fail
  exact bodyPost_ret (v := .int .i64 13) (by simp [results, Try.results63, go_sem]) rfl ⟨hB0, rfl⟩
set_option maxRecDepth 100000 in
set_option maxHeartbeats 2000000 in
theorem choose_open (h : Mx w base g prims o vs m) (hl : m.out.length < 1099511627770) (hn : m.cases = pre ++ [c]) (hl2 : m.cases.length < 1099511627770) (hc : 0 ≤ c.f0) (s : ByteArray) (hs : s.toList ≠ ([99, 97, 115, 101] : List UInt8)) (hs2 : s.toList ≠ ([101, 110, 100, 111, 102] : List UInt8)) :
    Calls Try.prog 63 #[.pointer (some ⟨g, 0, none⟩), .string s] w (MPost base g prims (.inr 13) w) := by
  obtain ⟨v0, A1, c1, b, A7, c7, A8, c8, A9, c9, A10, c10, A11, c11, rfl⟩ := h.cells
  have hF : (mkF base prims m)[10]? = some (rowsF k149 142 base (pre ++ [c])) := by rw [← hn]; rfl
  obtain ⟨gc, cap, cells, oki, cc, hv, hcap, hog, hbg, hbk, hcl, hM, hcc, hok, hH⟩ := h.st.last (i := 10) rfl hF
  obtain ⟨v1, rfl, hR1⟩ := k149_openM hM
  have hlen : m.cases.length = pre.length + 1 := by rw [hn]; simp
  rw [hlen] at hl2 h hv hH
  cases hv
  have k1 := h.st.cell 1 rfl
  have k10 := h.st.cell 10 rfl
  have q0 : w.cell? ⟨gc, pre.length * 2, none⟩ = some (.int .i64 c.f0) := (blk_cell hbk _).trans (hcc 0 _ rfl)
  have hX := Aside0.mk h
  have b0 : (s.toList == ([99, 97, 115, 101] : List UInt8)) = false := beq_eq_false_iff_ne.mpr hs
  have b1 : (s.toList == ([101, 110, 100, 111, 102] : List UInt8)) = false := beq_eq_false_iff_ne.mpr hs2
  have d0 : decide (c.f0 < 0) = false := by simp; exact hc
  clear h hn hF hlen hH hcc hM hcl hbk hs hs2
  go_enter Try.func63, Try.ntmps63
  go_wp2_with fail
  go_quiet (fail)
  have hq := Drawn0.below (w := w) (w' := w.drewN nq) ⟨⟨nq, rfl⟩⟩
  have hB0 := Below.mono hq hX.out.st.base_le
  go_wp2_with fail
  exact bodyPost_ret (v := .int .i64 13) (by simp [results, Try.results63, go_sem]) rfl ⟨hB0, rfl⟩
end
end Go.Proofs.Ytehmhgpogpbjiaa.Fcc

/- choose: endof. -/
namespace Go.Proofs.Ytehmhgpogpbjiaa.Fcc
open Go.RowKit Go.Proofs.YtehmhgpogpbjiaaW.PrintWords Go.Proofs.YtehmhgpogpbjiaaW.PrintLast Go.Proofs.YtehmhgpogpbjiaaW.PrintMore Go.Proofs.Ytehmhgpogpbjiaa.PFccTokens
set_option linter.unusedVariables false
set_option linter.unusedSimpArgs false
section
variable {w : World} {base g : Nat} {prims : List (ByteArray × Int)} {o : Nat → Nat} {vs : List Value} {m : Mk} {pre : List Ch} {c : Ch}
set_option maxRecDepth 100000 in
set_option maxHeartbeats 2000000 in
theorem endof_calls (h : Mx w base g prims o vs m) (hl : m.out.length < 1099511627770) (hn : m.cases = pre ++ [c]) (hl2 : m.cases.length < 1099511627770) (hl3 : m.leads.length < 1099511627770) (hl4 : c.f1.length < 1099511627770) (hc : 0 ≤ c.f0) :
    Calls Try.prog 63 #[.pointer (some ⟨g, 0, none⟩), .string ⟨#[101, 110, 100, 111, 102]⟩] w (MPost base g prims (.inl ({ m with cases := pre ++ ([⟨-1, c.f1 ++ [m.at_]⟩] : List Ch), leads := m.leads ++ ([⟨c.f0, m.at_⟩] : List Ld) }.add 198)) w) := by
  obtain ⟨v0, A1, c1, b, A7, c7, A8, c8, A9, c9, A10, c10, A11, c11, rfl⟩ := h.cells
  have hF : (mkF base prims m)[10]? = some (rowsF k149 142 base (pre ++ [c])) := by rw [← hn]; rfl
  obtain ⟨gc, cap, cells, oki, cc, hv, hcap, hog, hbg, hbk, hcl, hM, hcc, hok, hH⟩ := h.st.last (i := 10) rfl hF
  obtain ⟨v1, rfl, hR1⟩ := k149_openM hM
  have hlen : m.cases.length = pre.length + 1 := by rw [hn]; simp
  rw [hlen] at hl2 h hv hH
  cases hv
  have k1 := h.st.cell 1 rfl
  have k10 := h.st.cell 10 rfl
  have q0 : w.cell? ⟨gc, pre.length * 2, none⟩ = some (.int .i64 c.f0) := (blk_cell hbk _).trans (hcc 0 _ rfl)
  have hX := Aside0.mk h
  have hHn := Aside0.mk hn
  have d0 : decide (c.f0 < 0) = false := by simp; exact hc
  have e0 := Aside0.mk (show cells[pre.length * 2]? = some (.int .i64 c.f0) from hcc 0 _ rfl)
  clear h hn hF hlen hH hcc hM hcl
  go_enter Try.func63, Try.ntmps63
  go_wp2_with fail
  go_quiet (fail)
  have hq := Drawn0.below (w := w) (w' := w.drewN nq) ⟨⟨nq, rfl⟩⟩
  have hB0 := Below.mono hq hX.out.st.base_le
  have hY := hX.out.below hq
  go_wp2_with fail
  clear k1 k10 q0
  have hbk1 : (w.drewN nq).heap[gc]? = some (.cells cells 142 (0, 0)) := blk_drewN hbk nq
  have q0 : (w.drewN nq).cell? ⟨gc, pre.length * 2, none⟩ = some (.int .i64 c.f0) := (blk_cell hbk1 _).trans e0.out
  clear hq hbk hR1
  generalize w.drewN nq = W at hY hB0 hbk1 q0 ⊢
  have hd := hY.below (below_drew (Below.refl _ _))
  have hBd : Below W.heap.size W W.drew := below_drew (Below.refl _ _)
  refine begin_ (ds := [15]) (S := fun w' => w'.cell? ⟨g, 11, none⟩ = some (.slice A11 m.leads.length c11) ∧ w'.cell? ⟨gc, pre.length * 2, none⟩ = some (.int .i64 c.f0)) (by kernel_rfl) rfl rfl ⟨hd.st.cell 11 rfl, q0⟩ (fun tb hS => ?_)
  have hbk2 := blk_drew hbk1
  generalize W.drew = Wd at hd hBd hS hbk2 ⊢
  have q1 := hS.out.2
  refine seg_ [(0, 104), (1, 105), (2, 106), (3, 107), (4, 108), (5, 109), (6, 110), (7, 111), (8, 112), (9, 113), (10, 114)] tb hS (by kernel_rfl) (fun _ _ _ _ h => h) (a' := ?_) ?_ ?_
  rotate_left
  · repeat (first | exact Seg.nil | (refine Seg.on (v := ?_) (a1 := ?_) rfl rfl (by rfl) ?_ ?_ ?_; rotate_left 2; (rintro w' hS; go_split_ands; go_simp; with_reducible rfl); (simp only [Act.put, List.setIfInBounds_toArray, List.set_cons_zero, List.set_cons_succ, i64_w, i32_w]; rfl)))
  refine eff_ 11 tb rfl (by kernel_rfl) ?_
  go_wp2_with fail
  refine ql_ ⟨⟨(hd.below (below_alloc (Below.refl _ _) _)).st.cell 11 rfl, (blk_cell (blk_alloc hbk2 _) _).trans e0.out⟩, fun hS => ?_⟩
  refine eff_ 12 tb rfl (by kernel_rfl) ?_
  refine St.push (d := k77) (e := 101) (i := 11) hd.st rfl rfl (⟨c.f0, m.out.length⟩ : S77) [.int .i64 c.f0, .int .i64 m.out.length] (fun _ => False) rfl Try.underlying55 info101 rfl (by decide) (by decide) rfl rfl rfl rfl (k77_mkM _ _ _ _) (by omega) ?_
  rintro v2 w2 ⟨hst, hB2, ⟨A2, c2, rfl⟩, hb2, hg2⟩
  have hz : (m.leads ++ [(⟨c.f0, m.out.length⟩ : S77)]).length = m.leads.length + 1 := by simp
  rw [hz] at hst ⊢
  have hne : some gc ≠ (Value.slice A11 m.leads.length c11).ownBlock := fun e => by
    have := (hd.st.row 11 _ _ rfl rfl : Kd.R k77 101 Wd base _ (.slice A11 m.leads.length c11) m.leads).1 gc e.symm
    omega
  have hbk3 := blk_grown hbk2 hg2 hne
  have hf := blk_frozen hb2 11
  have k11 : w2.cell? ⟨g, 11, none⟩ = some (.slice A11 m.leads.length c11) := (blk_cell hb2 11).trans rfl
  refine ql_ ⟨⟨k11, (blk_cell hbk3 _).trans e0.out⟩, fun hS => ?_⟩
  refine seg_ [(13, 117), (14, 118)] tb hS (by kernel_rfl) (fun _ _ _ _ h => h) (a' := ?_) ?_ ?_
  rotate_left
  · repeat (first | exact Seg.nil | (refine Seg.on (v := ?_) (a1 := ?_) rfl rfl (by rfl) ?_ ?_ ?_; rotate_left 2; (rintro w' hS; go_split_ands; go_simp; with_reducible rfl); (simp only [Act.put, List.setIfInBounds_toArray, List.set_cons_zero, List.set_cons_succ, i64_w, i32_w]; rfl)))
  refine effl_ 15 tb rfl (by kernel_rfl) ?_
  go_wp2_with fail
  refine ql_ (end_ tb (by kernel_rfl) ?_)
  have h2 : Mx _ base g prims _ _ { m with leads := m.leads ++ [(⟨c.f0, m.out.length⟩ : S77)] } := ⟨hst, rfl⟩
  have hB4 : Below base w (w2.setCell ⟨g, 11, none⟩ (.slice A2 (m.leads.length + 1) c2)) := Below.setCell (hB0.trans ((Below.mono hBd hY.st.base_le).trans hB2)) hX.out.st.hb _
  clear hS k11 hf hbk3 hne hz hg2 hb2 hst q1 hbk2 hd hBd q0 hbk1 hY e0 hok
  generalize w2.setCell ⟨g, 11, none⟩ (.slice A2 (m.leads.length + 1) c2) = W4 at h2 hB4 ⊢
  generalize new_ Wd o (0 + 1 + 11) = o4 at h2
  have hF2 : (mkF base prims { m with leads := m.leads ++ [(⟨c.f0, m.out.length⟩ : S77)] })[10]? = some (rowsF k149 142 base (pre ++ [c])) := by rw [← hHn.out]; rfl
  obtain ⟨gc', cap, cells, oki, cc, hv, hcap, hog, hbg, hbk, hcl, hM, hcc, hok, hH⟩ := h2.st.last (i := 10) rfl hF2
  obtain ⟨v1, rfl, hR1⟩ := k149_openM hM
  cases hv
  obtain ⟨A5, c5, rfl⟩ := Kd.R_slice hR1
  have q1 : W4.cell? ⟨gc, pre.length * 2 + 1, none⟩ = some (.slice A5 c.f1.length c5) := (blk_cell hbk _).trans (hcc 1 _ rfl)
  have hb4 := h2.st.base_le
  go_wp2_with (at_builtin; refine Kd.R_append (Kd.int .i64) (w0 := W4) (W := W4) base rfl _ _ 53 3 (.int .i64 0) 8 rfl Try.underlying53 info3 rfl (by decide) (by decide) (.slice A5 c.f1.length c5) c.f1 (m.out.length : Int) [.int .i64 m.out.length] (fun k => oki k ∨ W4.heap.size ≤ k) (fun _ => False) rfl rfl rfl (fun _ h => h.elim) (fun k hk => .inr hk) (Kd.R_mono hR1 (fun k hk => .inl hk)) (Below.refl _ _) hb4 (by omega) ?_)
  intro v5 w5 hR5 hB5 hg5 _
  obtain ⟨A6, c6, rfl⟩ := Kd.R_slice hR5
  have hz5 : (c.f1 ++ [(m.out.length : Int)]).length = c.f1.length + 1 := by simp
  rw [hz5] at hR5 ⊢
  have hown : ∀ k, (Value.slice A5 c.f1.length c5).ownBlock = some k → oki k := hR1.1
  have hH1 := Kd.H_grown (Kd.H_widen (Kd.H_mono hH (ok' := fun k => new_ W4 o4 11 k = 0 + 1 + 10) (fun k hk => by unfold new_; split; exact hk; rfl))) hg5 (fun k hk => .inl (hown k hk))
  have hs1 := Kd.H_seg hH1 (by omega) (by omega) (seg := [.int .i64 (-1)]) (j := 0) (by show 0 + 1 ≤ 2; omega) (by simp [Value.oneCell'])
  have hs2 := Kd.H_seg hs1.1 (by omega) (by omega) (seg := [.slice A6 (c.f1.length + 1) c6]) (j := 1) (by show 1 + 1 ≤ 2; omega) (by simp [Value.oneCell'])
  have hbk5 : w5.heap[gc]? = some (.cells cells 142 (0, 0)) := blk_grown hbk hg5 (fun e => (hok gc (hown gc e.symm)).2 rfl)
  have r0 : w5.cell? ⟨gc, pre.length * 2, none⟩ = some (.int .i64 c.f0) := (blk_cell hbk5 _).trans (hcc 0 _ rfl)
  have r1 : w5.frozen? ⟨gc, pre.length * 2, none⟩ = false := blk_frozen hbk5 _
  have hbk6 := blk_set hbk5 (pre.length * 2) (.int .i64 (-1))
  have r2 : (w5.setCell ⟨gc, pre.length * 2, none⟩ (.int .i64 (-1))).frozen? ⟨gc, pre.length * 2 + 1, none⟩ = false := blk_frozen hbk6 _
  have r3 : (w5.setCell ⟨gc, pre.length * 2, none⟩ (.int .i64 (-1))).cell? ⟨gc, pre.length * 2 + 1, none⟩ = some (.slice A5 c.f1.length c5) := by
    rw [blk_cell hbk6, Array.getElem?_setIfInBounds_ne (by omega)]
    exact hcc 1 _ rfl
  have hokg : ∀ k, (oki k ∨ W4.heap.size ≤ k) → k ≠ gc := fun k hk => hk.elim (fun h => (hok k h).2) (fun h e => by have := blk_lt hbk; omega)
  have hR6 := Kd.R_far (p := ⟨gc, pre.length * 2 + 1, none⟩) (Kd.R_far (p := ⟨gc, pre.length * 2, none⟩) hR5 hokg (.int .i64 (-1))) hokg (.slice A6 (c.f1.length + 1) c6)
  obtain ⟨vs6, h6⟩ : ∃ vs6, Mx ((w5.setCell ⟨gc, pre.length * 2, none⟩ (.int .i64 (-1))).setCell ⟨gc, pre.length * 2 + 1, none⟩ (.slice A6 (c.f1.length + 1) c6)) base g prims (new_ W4 o4 11) vs6 { m with cases := pre ++ ([⟨-1, c.f1 ++ [m.at_]⟩] : List Ch), leads := m.leads ++ ([⟨c.f0, m.at_⟩] : List Ld) } := by
    refine ⟨_, h2.st.back (x' := (⟨-1, c.f1 ++ [m.at_]⟩ : S149)) rfl (fun _ hk => new_lt hk) (fun k hlt _ hne => ?_) hs2.1 (k149_mkM _ _ _ (x := ⟨-1, c.f1 ++ [m.at_]⟩) hR6) (fun k hk => ?_), rfl⟩
    · have hkg : k ≠ gc := fun e => hne (by rw [e]; exact hog)
      show ((w5.setCell ⟨gc, pre.length * 2, none⟩ (.int .i64 (-1))).setCell ⟨gc, pre.length * 2 + 1, none⟩ (.slice A6 (c.f1.length + 1) c6)).heap[k]? = _
      rw [Below.heap_setCell _ _ _ _ hkg, Below.heap_setCell _ _ _ _ hkg]
      exact hg5.block k hlt (fun e => hne (hok k (hown k e.symm)).1)
    · exact hk.imp id (fun h => ⟨new_ge h, h⟩)
  have hB6 : Below base w ((w5.setCell ⟨gc, pre.length * 2, none⟩ (.int .i64 (-1))).setCell ⟨gc, pre.length * 2 + 1, none⟩ (.slice A6 (c.f1.length + 1) c6)) := Below.setCell (Below.setCell (hB4.trans hB5) hbg _) hbg _
  clear hs1 hs2 hH1 hR6 hokg hH hM hcc hcl hg5 hR5 hR1 hF2 h2 q1 hz5 hbk hbk5 hbk6
  go_wp2_with fail
  refine (add_calls h6 198 0 ⟨#[]⟩ (by show m.out.length < _; omega)).mono ?_
  rintro e w7 ⟨rfl, hB7, o7, vs7, h7⟩
  go_wp2_with fail
  exact bodyPost_ret (v := .int .i64 0) (by simp [results, Try.results63, go_sem]) rfl ⟨hB6.trans hB7, rfl, o7, vs7, h7⟩
end
end Go.Proofs.Ytehmhgpogpbjiaa.Fcc

/- choose: endcase. -/
namespace Go.Proofs.Ytehmhgpogpbjiaa.Fcc
open Go.RowKit Go.Proofs.YtehmhgpogpbjiaaW.PrintWords Go.Proofs.YtehmhgpogpbjiaaW.PrintLast Go.Proofs.YtehmhgpogpbjiaaW.PrintMore Go.Proofs.Ytehmhgpogpbjiaa.PFccTokens
set_option linter.unusedVariables false
set_option linter.unusedSimpArgs false
section
variable {w : World} {base g : Nat} {prims : List (ByteArray × Int)} {o : Nat → Nat} {vs : List Value} {m : Mk} {pre : List Ch} {c : Ch}
/-- The maker with the leads of the first kk endofs. -/
def ended (m : Mk) (c : Ch) (kk : Nat) : Mk := { m with leads := m.leads ++ (c.f1.take kk).map (fun x => (⟨x, m.at_⟩ : Ld)) }
/-- A case's own row of endofs, apart from all else. -/
def EndsR (o : Nat → Nat) (wr : World) (base : Nat) (v : Value) (l : List Int) : Prop := Kd.R (Kd.int .i64) 3 wr base (fun k => o k = 11 ∧ k < wr.heap.size) v l
set_option maxRecDepth 100000 in
set_option maxHeartbeats 4000000 in
theorem endcase_calls (h : Mx w base g prims o vs m) (hl : m.out.length < 1099511627770) (hn : m.cases = pre ++ [c]) (hl2 : m.cases.length < 1099511627770) (hl3 : m.leads.length < 1099511627770) (hl4 : c.f1.length < 1099511627770) (hc : c.f0 < 0) :
    Calls Try.prog 63 #[.pointer (some ⟨g, 0, none⟩), .string ⟨#[101, 110, 100, 99, 97, 115, 101]⟩] w (MPost base g prims (.inl ({ m with cases := pre, leads := m.leads ++ c.f1.map (fun x => (⟨x, m.at_⟩ : Ld)) }.add 197)) w) := by
  obtain ⟨v0, A1, c1, b, A7, c7, A8, c8, A9, c9, A10, c10, A11, c11, rfl⟩ := h.cells
  have hF : (mkF base prims m)[10]? = some (rowsF k149 142 base (pre ++ [c])) := by rw [← hn]; rfl
  obtain ⟨gc, cap, cells, oki, cc, hv, hcap, hog, hbg, hbk, hcl, hM, hcc, hok, hH⟩ := h.st.last (i := 10) rfl hF
  obtain ⟨v1, rfl, hR1⟩ := k149_openM hM
  have hlen : m.cases.length = pre.length + 1 := by rw [hn]; simp
  rw [hlen] at hl2 h hv hH
  cases hv
  obtain ⟨A5, c5, rfl, hlc, hCe⟩ := Kd.R_reads hR1
  have hz5 := hCe.2.1
  have k1 := h.st.cell 1 rfl
  have k10 := h.st.cell 10 rfl
  have q0 : w.cell? ⟨gc, pre.length * 2, none⟩ = some (.int .i64 c.f0) := (blk_cell hbk _).trans (hcc 0 _ rfl)
  have q1 : w.cell? ⟨gc, pre.length * 2 + 1, none⟩ = some (.slice A5 c.f1.length c5) := (blk_cell hbk _).trans (hcc 1 _ rfl)
  have hX := Aside0.mk h
  have hHn := Aside0.mk hn
  have hE : EndsR o w base (.slice A5 c.f1.length c5) c.f1 := Kd.R_mono (Kd.R_bound hR1) (fun k hk => ⟨(hok k hk.1).1, hk.2.2.1⟩)
  clear h hn hF hlen hH hcc hM hcl hR1 hCe
  go_enter Try.func63, Try.ntmps63
  go_wp2_with fail
  go_quiet (fail)
  have hq := Drawn0.below (w := w) (w' := w.drewN nq) ⟨⟨nq, rfl⟩⟩
  have hB0 := Below.mono hq hX.out.st.base_le
  have hY := hX.out.below hq
  have hE1 : EndsR o (w.drewN nq) base (.slice A5 c.f1.length c5) c.f1 := Kd.R_drewN hE nq
  go_wp2_with fail
  clear k1 k10 q0 q1 hE hq hbk
  generalize w.drewN nq = W at hY hB0 hE1 ⊢
  go_loopg [64] c.f1.length (fun gg s64 wr => ∃ (kk : Nat) (o1 : Nat → Nat) (vs1 : List Value), kk ≤ c.f1.length ∧ c.f1.length - kk ≤ gg ∧ s64 = .int .i64 kk ∧ Aside0 (Below base w wr) ∧ Aside0 (Mx wr base g prims o1 vs1 (ended m c kk)) ∧ Aside0 (EndsR o1 wr base (.slice A5 c.f1.length c5) c.f1))
  case atStart => exact ⟨0, o, _, Nat.zero_le _, by omega, rfl, ⟨hB0⟩, ⟨by unfold ended; simpa using hY⟩, ⟨hE1⟩⟩
  case round =>
    obtain ⟨kk, o1, vs1, hkk, hg, rfl, HB, HM, HE⟩ := hrel
    by_cases hlt : kk < c.f1.length
    · have hltz : (kk : Int) < (c.f1.length : Int) := by omega
      have htake : c.f1.take (kk + 1) = c.f1.take kk ++ [c.f1[kk]'hlt] := by rw [List.take_add_one, List.getElem?_eq_getElem hlt]; rfl
      obtain ⟨L2, cl2, eL, _, hCL2⟩ := Kd.R_reads HE.out
      injection eL with eL1 _ eL3
      subst eL1 eL3
      obtain ⟨ad, e, g0⟩ := Kd.at_int hCL2 (kk : Int) (by omega) hltz
      cases e
      rw [Int.toNat_natCast] at g0
      have hrd : rd c.f1 (kk : Int) = c.f1[kk]'hlt := by simp [rd, List.getD_eq_getElem?_getD, hlt]
      rw [hrd] at g0
      have hll := Aside0.mk (show (ended m c kk).leads.length = m.leads.length + kk by simp [ended]; omega)
      have hend : ∀ x, x = c.f1[kk]'hlt → ({ ended m c kk with leads := (ended m c kk).leads ++ [(⟨x, m.out.length⟩ : S77)] } : Mk) = ended m c (kk + 1) := by
        rintro x rfl
        simp only [ended, htake, List.map_append, List.append_assoc]
        rfl
      clear hrd hCL2 htake
      generalize c.f1[kk]'hlt = x at g0 hend
      have hend2 := Aside0.mk (hend x rfl)
      clear hend
      generalize ended m c kk = me at HM hll hend2
      obtain ⟨v0, A1, c1, b, A7, c7, A8, c8, A9, c9, A10, c10, A11, c11, rfl⟩ := HM.out.cells
      have k11 := HM.out.st.cell 11 rfl
      have hlim : (me.leads.length + 1) * 16 ≤ 140737488355328 := by rw [hll.out]; omega
      have hgk0 : c.f1.length - (kk + 1) < gk ∧ kk + 1 ≤ c.f1.length := by omega
      have hgk := Aside0.mk hgk0
      go_wp2_with (at_builtin; refine St.push (d := k77) (e := 101) (i := 11) HM.out.st rfl rfl (⟨x, m.out.length⟩ : S77) [.int .i64 x, .int .i64 m.out.length] (fun _ => False) rfl Try.underlying55 info101 rfl (by decide) (by decide) rfl rfl rfl rfl (k77_mkM _ _ _ _) hlim ?_)
      rintro v2 w2 ⟨hst, hB2, ⟨A2, c2, rfl⟩, hb2, hg2⟩
      have hz : ((me).leads ++ [(⟨x, m.out.length⟩ : S77)]).length = (me).leads.length + 1 := by simp
      rw [hz] at hst ⊢
      have hf := blk_frozen hb2 11
      have k11' : w2.cell? ⟨g, 11, none⟩ = some (.slice A11 (me).leads.length c11) := (blk_cell hb2 11).trans rfl
      have h2 : Mx _ base g prims _ _ { me with leads := (me).leads ++ [(⟨x, m.out.length⟩ : S77)] } := ⟨hst, rfl⟩
      rw [hend2.out] at h2
      have hB3 := HB.out.trans (Below.setCell hB2 hX.out.st.hb (.slice A2 ((me).leads.length + 1) c2) (p := ⟨g, 11, none⟩))
      have hE3 : EndsR (new_ wr o1 12) (w2.setCell ⟨g, 11, none⟩ (.slice A2 ((me).leads.length + 1) c2)) base (.slice (some ad) c.f1.length c5) c.f1 := by
        have hsz := hg2.size
        refine Kd.R_mono (Kd.R_far (Kd.R_step HE.out (fun k hk hlt => hg2.block k hlt (fun e => ?_))) (fun k hk => ?_) _) (fun k hk => ⟨by rw [new_lt hk.2]; exact hk.1, ?_⟩)
        · have h9 := (HM.out.st.row 11 _ _ rfl rfl : Kd.R k77 101 wr base _ (.slice A11 (me).leads.length c11) (me).leads).1 k e.symm
          omega
        · intro e
          have h9 := HM.out.st.own
          have h8 := hk.1
          rw [show k = g from e] at h8
          omega
        · have h9 : (w2.setCell ⟨g, 11, none⟩ (.slice A2 ((me).leads.length + 1) c2)).heap.size = w2.heap.size := World.size_setCell _ _ _
          omega
      clear hst hb2 hg2 g0 k11 hll hz
      replace h2 := Aside0.mk h2
      replace hE3 := Aside0.mk hE3
      replace hB3 := Aside0.mk hB3
      clear hgk0 hlim
      go_wp2_with fail
      go_roundg (c.f1.length - (kk + 1))
      case measure => exact hgk.out.1
      case rel => exact ⟨kk + 1, _, _, hgk.out.2, Nat.le_refl _, by go_num, hB3, h2, hE3⟩
    · have hkk2 : kk = c.f1.length := by omega
      subst hkk2
      have hall : ended m c c.f1.length = { m with leads := m.leads ++ c.f1.map (fun x => (⟨x, m.at_⟩ : Ld)) } := by simp [ended]
      have hM2 := HM.out
      rw [hall] at hM2
      have hF2 : (mkF base prims { m with leads := m.leads ++ c.f1.map (fun x => (⟨x, m.at_⟩ : Ld)) })[10]? = some (rowsF k149 142 base (pre ++ [c])) := by rw [← hHn.out]; rfl
      have hcl : m.cases.length = pre.length + 1 := by rw [hHn.out]; simp
      obtain ⟨v0, A1, c1, b, A7, c7, A8, c8, A9, c9, A10, c10, A11, c11, rfl⟩ := hM2.cells
      have hS := hM2.st.row 10 _ _ rfl hF2
      have hcap : m.cases.length ≤ c10 := by have := (Kd.S_reads' hS).2.1; exact this
      have ht := Kd.S_take hS (m := pre.length) (by simp)
      rw [List.take_left' rfl] at ht
      have h3 : Mx _ base g prims _ _ { m with cases := pre, leads := m.leads ++ c.f1.map (fun x => (⟨x, m.at_⟩ : Ld)) } := ⟨hM2.st.put 10 (loc_rows _ _ _ _) ht, rfl⟩
      have k10 := hM2.st.cell 10 rfl
      have f10 := hM2.st.free 10
      have hB3 := Below.setCell HB.out hX.out.st.hb (.slice A10 pre.length c10) (p := ⟨g, 10, none⟩)
      have p3 : (0 ≤ (pre.length : Int) ∧ (pre.length : Int) ≤ (c10 : Int)) = True := eq_true ⟨by omega, by omega⟩
      have p2 : ((pre.length : Int) ≤ (c10 : Int)) = True := eq_true (by omega)
      clear hall hS ht hF2 hcl HE HM hM2
      replace h3 := Aside0.mk h3
      replace hB3 := Aside0.mk hB3
      go_wp2_with fail
      refine (add_calls h3.out 197 0 ⟨#[]⟩ (by show m.out.length < _; omega)).mono ?_
      rintro e w4 ⟨rfl, hB4, o4, vs4, h4⟩
      go_wp2_with fail
      exact bodyPost_ret (v := .int .i64 0) (by simp [results, Try.results63, go_sem]) rfl ⟨hB3.out.trans hB4, rfl, o4, vs4, h4⟩
end
end Go.Proofs.Ytehmhgpogpbjiaa.Fcc

/- branch, loop, choose: by the word, whichever it is. -/
namespace Go.Proofs.Ytehmhgpogpbjiaa.Fcc
open Go.RowKit Go.Proofs.YtehmhgpogpbjiaaW.PrintWords Go.Proofs.YtehmhgpogpbjiaaW.PrintLast Go.Proofs.YtehmhgpogpbjiaaW.PrintMore Go.Proofs.Ytehmhgpogpbjiaa.PFccTokens
set_option linter.unusedVariables false
set_option linter.unusedSimpArgs false
/-- How much a maker holds. -/
def wt (m : Mk) : Nat := m.out.length + m.origs.length + m.dests.length + m.loops.length + m.leads.length + (m.cases.map (fun c => c.f1.length + 1)).sum
theorem sum_len (l : List Ch) : l.length ≤ (l.map (fun c => c.f1.length + 1)).sum := by
  induction l with
  | nil => simp
  | cons x l ih => simp only [List.length_cons, List.map_cons, List.sum_cons]; omega
theorem wt_all {m : Mk} {B : Nat} (h : wt m ≤ B) : m.out.length ≤ B ∧ m.origs.length ≤ B ∧ m.dests.length ≤ B ∧ m.loops.length ≤ B ∧ m.leads.length ≤ B ∧ m.cases.length ≤ B ∧ ∀ c ∈ m.cases, c.f1.length ≤ B := by
  unfold wt at h
  have h1 := sum_len m.cases
  refine ⟨by omega, by omega, by omega, by omega, by omega, by omega, fun c hc => ?_⟩
  have : c.f1.length + 1 ≤ (m.cases.map (fun c => c.f1.length + 1)).sum := by
    clear h h1
    generalize m.cases = l at hc
    induction l with
    | nil => cases hc
    | cons x l ih =>
      simp only [List.map_cons, List.sum_cons]
      rcases List.mem_cons.1 hc with rfl | hc
      · omega
      · have := ih hc; omega
  omega
theorem str_of {s : ByteArray} {l : List UInt8} (h : s.toList = l) : s = ⟨l.toArray⟩ := by
  apply ByteArray.ext
  rw [ByteArray.toList_eq] at h
  rw [← h, Array.toArray_toList]
section
variable {w : World} {base g : Nat} {prims : List (ByteArray × Int)} {o : Nat → Nat} {vs : List Value} {m : Mk}
/-- What a method leaves that also says whether it was its word: none of its words. -/
def BPostO (base g : Nat) (prims : List (ByteArray × Int)) (r : Option Res) (w : World) (e : Ending) (w' : World) : Prop := match r with
  | some r => BPost base g prims r w e w'
  | none => e = .returned (.tuple #[.int .i64 0, .bool false]) ∧ w' = w
theorem branch_any (h : Mx w base g prims o vs m) (hb : wt m ≤ 1000000000000) (s : ByteArray) : Calls Try.prog 61 #[.pointer (some ⟨g, 0, none⟩), .string s] w (BPostO base g prims (branchP m s) w) := by
  obtain ⟨b1, b2, b3, b4, b5, b6, b7⟩ := wt_all hb
  by_cases h_if : s.toList = ([105, 102] : List UInt8)
  · obtain rfl := str_of h_if
    obtain ⟨r, hr, hc⟩ : ∃ r, branchP m ⟨#[105, 102]⟩ = some r ∧ Calls Try.prog 61 _ w (BPost base g prims r w) := ⟨_, by unfold branchP; simp only [h_if]; rfl, if_calls h (by omega) (by omega)⟩
    rw [hr]
    exact hc
  by_cases h_while : s.toList = ([119, 104, 105, 108, 101] : List UInt8)
  · obtain rfl := str_of h_while
    obtain ⟨r, hr, hc⟩ : ∃ r, branchP m ⟨#[119, 104, 105, 108, 101]⟩ = some r ∧ Calls Try.prog 61 _ w (BPost base g prims r w) := ⟨_, by unfold branchP; simp only [h_while]; rfl, while_calls h (by omega) (by omega)⟩
    rw [hr]
    exact hc
  by_cases h_else : s.toList = ([101, 108, 115, 101] : List UInt8)
  · obtain rfl := str_of h_else
    obtain ⟨r, hr, hc⟩ : ∃ r, branchP m ⟨#[101, 108, 115, 101]⟩ = some r ∧ Calls Try.prog 61 _ w (BPost base g prims r w) := ⟨_, by unfold branchP; simp only [h_else]; rfl, else_calls h (by omega) (by omega) (by omega)⟩
    rw [hr]
    exact hc
  by_cases h_then : s.toList = ([116, 104, 101, 110] : List UInt8)
  · obtain rfl := str_of h_then
    obtain ⟨r, hr, hc⟩ : ∃ r, branchP m ⟨#[116, 104, 101, 110]⟩ = some r ∧ Calls Try.prog 61 _ w (BPost base g prims r w) := ⟨_, by unfold branchP; simp only [h_then]; rfl, then_calls h (by omega) (by omega)⟩
    rw [hr]
    exact hc
  by_cases h_begin : s.toList = ([98, 101, 103, 105, 110] : List UInt8)
  · obtain rfl := str_of h_begin
    obtain ⟨r, hr, hc⟩ : ∃ r, branchP m ⟨#[98, 101, 103, 105, 110]⟩ = some r ∧ Calls Try.prog 61 _ w (BPost base g prims r w) := ⟨_, by unfold branchP; simp only [h_begin]; rfl, begin_calls h (by omega) (by omega)⟩
    rw [hr]
    exact hc
  by_cases h_until : s.toList = ([117, 110, 116, 105, 108] : List UInt8)
  · obtain rfl := str_of h_until
    obtain ⟨r, hr, hc⟩ : ∃ r, branchP m ⟨#[117, 110, 116, 105, 108]⟩ = some r ∧ Calls Try.prog 61 _ w (BPost base g prims r w) := ⟨_, by unfold branchP; simp only [h_until]; rfl, until_calls h (by omega) (by omega)⟩
    rw [hr]
    exact hc
  by_cases h_again : s.toList = ([97, 103, 97, 105, 110] : List UInt8)
  · obtain rfl := str_of h_again
    obtain ⟨r, hr, hc⟩ : ∃ r, branchP m ⟨#[97, 103, 97, 105, 110]⟩ = some r ∧ Calls Try.prog 61 _ w (BPost base g prims r w) := ⟨_, by unfold branchP; simp only [h_again]; rfl, again_calls h (by omega) (by omega)⟩
    rw [hr]
    exact hc
  by_cases h_repeat : s.toList = ([114, 101, 112, 101, 97, 116] : List UInt8)
  · obtain rfl := str_of h_repeat
    obtain ⟨r, hr, hc⟩ : ∃ r, branchP m ⟨#[114, 101, 112, 101, 97, 116]⟩ = some r ∧ Calls Try.prog 61 _ w (BPost base g prims r w) := ⟨_, by unfold branchP; simp only [h_repeat]; rfl, repeat_calls h (by omega) (by omega)⟩
    rw [hr]
    exact hc
  have hn : branchP m s = none := by unfold branchP; simp only [h_if, h_while, h_else, h_then, h_begin, h_until, h_again, h_repeat, or_self, if_false]
  rw [hn]
  exact branch_other h s (by simp only [List.mem_cons, List.not_mem_nil, or_false, not_or]; exact ⟨h_if, h_while, h_else, h_then, h_begin, h_until, h_again, h_repeat⟩)
theorem leave_any (h : Mx w base g prims o vs m) (hl : m.out.length < 1099511627776) (hl2 : m.loops.length < 1099511627776) : Calls Try.prog 62 #[.pointer (some ⟨g, 0, none⟩), .string ⟨#[108, 101, 97, 118, 101]⟩] w (BPost base g prims (if m.loops = [] then .inr 13 else .inl (m.add 27)) w) := by
  by_cases hne : m.loops = []
  · rw [if_pos hne]
    exact leave_none h hne
  · rw [if_neg hne]
    exact leave_calls h hl hl2 hne
theorem loop_any (h : Mx w base g prims o vs m) (hb : wt m ≤ 1000000000000) (s : ByteArray) : Calls Try.prog 62 #[.pointer (some ⟨g, 0, none⟩), .string s] w (BPostO base g prims (loopP m s) w) := by
  obtain ⟨b1, b2, b3, b4, b5, b6, b7⟩ := wt_all hb
  by_cases h_do : s.toList = ([100, 111] : List UInt8)
  · obtain rfl := str_of h_do
    obtain ⟨r, hr, hc⟩ : ∃ r, loopP m ⟨#[100, 111]⟩ = some r ∧ Calls Try.prog 62 _ w (BPost base g prims r w) := ⟨_, by unfold loopP; simp only [h_do]; rfl, do_calls h (by omega) (by omega)⟩
    rw [hr]
    exact hc
  by_cases h_qdo : s.toList = ([63, 100, 111] : List UInt8)
  · obtain rfl := str_of h_qdo
    obtain ⟨r, hr, hc⟩ : ∃ r, loopP m ⟨#[63, 100, 111]⟩ = some r ∧ Calls Try.prog 62 _ w (BPost base g prims r w) := ⟨_, by unfold loopP; simp only [h_qdo]; rfl, qdo_calls h (by omega) (by omega)⟩
    rw [hr]
    exact hc
  by_cases h_loop : s.toList = ([108, 111, 111, 112] : List UInt8)
  · obtain rfl := str_of h_loop
    obtain ⟨r, hr, hc⟩ : ∃ r, loopP m ⟨#[108, 111, 111, 112]⟩ = some r ∧ Calls Try.prog 62 _ w (BPost base g prims r w) := ⟨_, by unfold loopP; simp only [h_loop]; rfl, loop_calls h (by omega) (by omega)⟩
    rw [hr]
    exact hc
  by_cases h_qloopp : s.toList = ([43, 108, 111, 111, 112] : List UInt8)
  · obtain rfl := str_of h_qloopp
    obtain ⟨r, hr, hc⟩ : ∃ r, loopP m ⟨#[43, 108, 111, 111, 112]⟩ = some r ∧ Calls Try.prog 62 _ w (BPost base g prims r w) := ⟨_, by unfold loopP; simp only [h_qloopp]; rfl, ploop_calls h (by omega) (by omega)⟩
    rw [hr]
    exact hc
  by_cases h_leave : s.toList = ([108, 101, 97, 118, 101] : List UInt8)
  · obtain rfl := str_of h_leave
    obtain ⟨r, hr, hc⟩ : ∃ r, loopP m ⟨#[108, 101, 97, 118, 101]⟩ = some r ∧ Calls Try.prog 62 _ w (BPost base g prims r w) := ⟨_, by unfold loopP; simp only [h_leave]; rfl, leave_any h (by omega) (by omega)⟩
    rw [hr]
    exact hc
  have hn : loopP m s = none := by unfold loopP; simp only [h_do, h_qdo, h_loop, h_qloopp, h_leave, or_self, if_false]
  rw [hn]
  exact loop_other h s (by simp only [List.mem_cons, List.not_mem_nil, or_false, not_or]; exact ⟨h_do, h_qdo, h_loop, h_qloopp, h_leave⟩)
theorem choose_any (h : Mx w base g prims o vs m) (hb : wt m ≤ 1000000000000) (s : ByteArray) (hs : s.toList ∈ ([[99, 97, 115, 101], [111, 102], [101, 110, 100, 111, 102], [101, 110, 100, 99, 97, 115, 101]] : List (List UInt8))) : Calls Try.prog 63 #[.pointer (some ⟨g, 0, none⟩), .string s] w (MPost base g prims (chooseP m s) w) := by
  obtain ⟨b1, b2, b3, b4, b5, b6, b7⟩ := wt_all hb
  by_cases h0 : s.toList = ([99, 97, 115, 101] : List UInt8)
  · have hr : chooseP m s = .inl ({ m with cases := m.cases ++ ([⟨-1, []⟩] : List Ch) }.add 196) := by unfold chooseP; rw [if_pos h0]
    rw [hr]
    obtain rfl := str_of h0
    exact case_calls h (by omega) (by omega)
  · have hu : chooseP m s = match m.cases.getLast? with
      | none => .inr 13
      | some c => if (c.f0 < 0 ↔ s.toList = ([101, 110, 100, 111, 102] : List UInt8)) then .inr 13 else if s.toList = ([111, 102] : List UInt8) then .inl ({ m with cases := m.cases.dropLast ++ ([⟨m.at_, c.f1⟩] : List Ch) }.add 28)
        else if s.toList = ([101, 110, 100, 111, 102] : List UInt8) then .inl ({ m with cases := m.cases.dropLast ++ ([⟨-1, c.f1 ++ [m.at_]⟩] : List Ch), leads := m.leads ++ ([⟨c.f0, m.at_⟩] : List Ld) }.add 198)
        else .inl ({ m with cases := m.cases.dropLast, leads := m.leads ++ c.f1.map (fun x => (⟨x, m.at_⟩ : Ld)) }.add 197) := by unfold chooseP; exact if_neg h0
    rw [hu]
    rcases List.eq_nil_or_concat m.cases with hc | ⟨pre, c, hc⟩
    · rw [hc]
      exact choose_none h (by omega) hc s h0
    · rw [List.concat_eq_append] at hc
      have hl : m.cases.getLast? = some c := by rw [hc]; simp
      have hd : m.cases.dropLast = pre := by rw [hc]; simp
      have hcl : c.f1.length ≤ 1000000000000 := b7 c (by rw [hc]; simp)
      rw [hl, hd]
      by_cases h1 : s.toList = ([101, 110, 100, 111, 102] : List UInt8)
      · have h2 : ¬ s.toList = ([111, 102] : List UInt8) := by rw [h1]; decide
        by_cases hz : c.f0 < 0
        · simp only [h1, hz, if_true]
          obtain rfl := str_of h1
          exact choose_shut h (by omega) hc (by omega) hz
        · simp only [h1, hz, false_iff, not_true, if_false, if_true]
          rw [if_neg (by decide)]
          obtain rfl := str_of h1
          exact endof_calls h (by omega) hc (by omega) (by omega) (by omega) (by omega)
      · by_cases hz : c.f0 < 0
        · simp only [h1, hz, true_iff, if_false]
          by_cases h2 : s.toList = ([111, 102] : List UInt8)
          · rw [if_pos h2]
            obtain rfl := str_of h2
            exact of_calls h (by omega) hc (by omega) hz
          · rw [if_neg h2]
            simp only [List.mem_cons, List.not_mem_nil, or_false] at hs
            rcases hs with hs | hs | hs | hs
            · exact absurd hs h0
            · exact absurd hs h2
            · exact absurd hs h1
            · obtain rfl := str_of hs
              exact endcase_calls h (by omega) hc (by omega) (by omega) (by omega) hz
        · simp only [h1, hz, iff_self, if_true]
          exact choose_open h (by omega) hc (by omega) (by omega) s h0 h1
end
end Go.Proofs.Ytehmhgpogpbjiaa.Fcc

/- A name is given a code: in the map that is a field. -/
namespace Go.Proofs.Ytehmhgpogpbjiaa.Fcc
open Go.RowKit Go.Proofs.YtehmhgpogpbjiaaW.PrintWords Go.Proofs.YtehmhgpogpbjiaaW.PrintLast Go.Proofs.YtehmhgpogpbjiaaW.PrintMore Go.Proofs.Ytehmhgpogpbjiaa.PFccTokens
open Go.Maps (string_keyed)
set_option linter.unusedVariables false
set_option linter.unusedSimpArgs false
theorem own_isMap {H : Type} {P : Program} {k : TypeId} {R : Value → Option (DataW H × List MemPlace)} {w : World} {b n : Nat} {D : DataW H} (h : w.ownsMap P k R b n D) : Maps.IsMap D := by
  obtain ⟨es, clock, _, _, _, rfl⟩ := h
  exact ⟨_, rfl⟩
theorem Agrees.put {D : DataW Unit} {l : List (ByteArray × Int)} (h : Agrees D l) (hD : Maps.IsMap D) (s : ByteArray) (c : Int) : Agrees (D.put (.string s.data.toList) (.lit (.int .i64 c))) ((s, c) :: l) := by
  intro t
  have hk : WideAt.IsKeyLit (.string s.data.toList) := trivial
  by_cases ht : s = t
  · subst ht
    refine ⟨by rw [Maps.has_put_same hD hk]; simp [look], fun c' hc => ?_⟩
    rw [Maps.atKey_put_same hD hk]
    simp [look] at hc
    rw [hc]
  · have hne : (Lit.string t.data.toList) ≠ .string s.data.toList := fun e => by
      injection e with e
      exact ht (ByteArray.ext (Array.ext' e.symm))
    have hl : look ((s, c) :: l) t = look l t := by simp [look, List.find?_cons, ht]
    rw [hl]
    exact ⟨by rw [Maps.has_put_other hne]; exact (h t).1, fun c' hc => by rw [Maps.atKey_put_other hne]; exact (h t).2 c' hc⟩
theorem key9 {s : ByteArray} (hsz : s.size ≤ maxLen) : keyOf Try.prog 9 (.string s) = some (.string s.data.toList) := Go.WideMaps.keyOf_string_mk Try.underlying9 hsz
section
variable {w w1 : World} {base g : Nat} {prims : List (ByteArray × Int)} {o : Nat → Nat} {vs : List Value} {m : Mk}
theorem Mx.map (h : Mx w base g prims o vs m) : ∃ b n D, vs[2]? = some (.map (some b)) ∧ o b = 3 ∧ base ≤ b ∧ n ≤ (m.names ++ prims).length ∧ Agrees D (m.names ++ prims) ∧ w.ownsMap Try.prog 9 (plainElem Try.prog 3) b n D := by
  obtain ⟨v, hv⟩ : ∃ v, vs[2]? = some v := ⟨_, List.getElem?_eq_getElem (by rw [h.len]; decide)⟩
  obtain ⟨n, D, hn, hA, b, rfl, hb, hbb, hD⟩ := (h.st.row 2 v (namesF base (m.names ++ prims)) hv rfl : namesF base (m.names ++ prims) w _ v)
  exact ⟨b, n, D, hv, hb, hbb, hn, hA, hD⟩
/-- Behind the map's block was written: one name more. -/
theorem Mx.named1 {b n : Nat} {D : DataW Unit} (h : Mx w base g prims o vs m) (hv : vs[2]? = some (.map (some b))) (hb : o b = 3) (hbb : base ≤ b) (hn : n ≤ (m.names ++ prims).length) (hA : Agrees D (m.names ++ prims)) (hD : w.ownsMap Try.prog 9 (plainElem Try.prog 3) b n D)
    (s : ByteArray) (c : Int) (hg : w.grownBy w1 (some b)) (hD1 : w1.ownsMap Try.prog 9 (plainElem Try.prog 3) b (n + 1) (D.put (.string s.data.toList) (.lit (.int .i64 c)))) : Mx w1 base g prims o vs { m with names := (s, c) :: m.names } := by
  refine ⟨h.st.turn 2 (loc_names base ((s, c) :: (m.names ++ prims))) (fun _ _ => rfl) (fun k hlt _ hne => hg.block k hlt (fun e => hne (by cases e; exact hb))) (fun v hv' => ?_), h.len⟩
  rw [hv] at hv'
  cases hv'
  exact ⟨n + 1, _, by simp at hn ⊢; omega, hA.put (own_isMap hD) s c, b, rfl, hb, hbb, hD1⟩
end
end Go.Proofs.Ytehmhgpogpbjiaa.Fcc

/- named: a word with another one behind it. -/
namespace Go.Proofs.Ytehmhgpogpbjiaa.Fcc
open Go.RowKit Go.Proofs.YtehmhgpogpbjiaaW.PrintWords Go.Proofs.YtehmhgpogpbjiaaW.PrintLast Go.Proofs.YtehmhgpogpbjiaaW.PrintMore Go.Proofs.Ytehmhgpogpbjiaa.PFccTokens
open Go.Maps (string_keyed)
set_option linter.unusedVariables false
set_option linter.unusedSimpArgs false
theorem look_find (prims : List (ByteArray × Int)) (m : Mk) (s : ByteArray) : look (m.names ++ prims) s = findP prims m s := by
  unfold look findP
  rw [List.find?_append]
  cases m.names.find? (fun p => decide (p.1 = s)) <;> rfl
theorem zero3 : ∀ w, (zeroValue 3).run Try.prog w = .ok (.int .i64 0) w := by
  have h : (Try.prog.info? 3).map (fun i => (i.zero, i.size, i.bytes)) = some (some (.int .i64 0), 1, 8) := by kernel_rfl
  obtain ⟨i0, hi, hz0, -, -⟩ := info_parts h
  intro w
  simp [zeroValue, typeInfo, hi, hz0]
section
variable {w : World} {base g : Nat} {prims : List (ByteArray × Int)} {o : Nat → Nat} {vs : List Value} {m : Mk}
set_option maxRecDepth 100000 in
set_option maxHeartbeats 2000000 in
theorem named_calls (code : Int) {t : S59} {r : List S59} {n : Int} (h : Mx w base g prims o vs m) (hl : m.out.length < 1099511627776) (hm : m.inp = t :: r) (ht : t.f0 = 1) (hf : findP prims m t.f1 = some n) (hn : 0 ≤ n ∧ n < 4294967296) (hsz : t.f1.size ≤ maxLen) :
    Calls Try.prog 37 #[.pointer (some ⟨g, 0, none⟩), .int .i64 code] w (MPost base g prims (.inl ({ m with inp := r }.add code n)) w) := by
  go_enter Try.func37, Try.ntmps37
  go_wp2_with fail
  refine (word_calls h hm ht).mono ?_
  rintro e w1 ⟨rfl, hB1, o1, vs1, h1⟩
  obtain ⟨v0, A1, c1, b, A7, c7, A8, c8, A9, c9, A10, c10, A11, c11, rfl⟩ := h1.cells
  obtain ⟨n1, D, hn1, hag, b', hb', -, -, hown⟩ := (h1.st.row 2 _ _ rfl rfl : namesF base (m.names ++ prims) w1 _ (.map (some b)))
  cases hb'
  have hc2 := h1.st.cell 2 rfl
  have hlk : look (m.names ++ prims) t.f1 = some n := by rw [look_find]; exact hf
  have ha := hag t.f1
  rw [hlk] at ha
  have hat0 := Aside0.mk (ha.2 n rfl)
  have hhas : Maps.has D (.string t.f1.data.toList) = true := ha.1
  clear ha hlk hag
  have hX := Aside0.mk h1
  clear h1 h
  go_wp2_with (at_lookup; refine wpList_lookup_own_ok_int _ rfl _ _ 52 rfl 9 3 .i64 (string_keyed Try.underlying9) Try.underlying52 Try.underlying3 (zero3 _) b n1 D rfl hown _ _ rfl (Go.WideMaps.keyOf_string_mk Try.underlying9 hsz) ?_; intro c hat hwc)
  have hcn : c = n := by
    have := hat.symm.trans hat0.out
    simpa using this
  subst hcn
  rw [show c % 4294967296 = c from Int.emod_eq_of_lt hn.1 hn.2]
  refine (add_calls hX.out code c ⟨#[]⟩ hl).mono ?_
  rintro e w4 ⟨rfl, hB4, o4, vs4, h4⟩
  go_wp2_with fail
  exact bodyPost_ret (v := .int .i64 0) (by simp [results, Try.results37, go_sem]) rfl ⟨hB1.trans hB4, rfl, o4, vs4, h4⟩
set_option maxRecDepth 100000 in
set_option maxHeartbeats 2000000 in
theorem named_none (code : Int) {t : S59} {r : List S59} (h : Mx w base g prims o vs m) (hm : m.inp = t :: r) (ht : t.f0 = 1) (hf : findP prims m t.f1 = none) (hsz : t.f1.size ≤ maxLen) :
    Calls Try.prog 37 #[.pointer (some ⟨g, 0, none⟩), .int .i64 code] w (MPost base g prims (.inr 14) w) := by
  go_enter Try.func37, Try.ntmps37
  go_wp2_with fail
  refine (word_calls h hm ht).mono ?_
  rintro e w1 ⟨rfl, hB1, o1, vs1, h1⟩
  obtain ⟨v0, A1, c1, b, A7, c7, A8, c8, A9, c9, A10, c10, A11, c11, rfl⟩ := h1.cells
  obtain ⟨n1, D, hn1, hag, b', hb', -, -, hown⟩ := (h1.st.row 2 _ _ rfl rfl : namesF base (m.names ++ prims) w1 _ (.map (some b)))
  cases hb'
  have hc2 := h1.st.cell 2 rfl
  have hlk : look (m.names ++ prims) t.f1 = none := by rw [look_find]; exact hf
  have ha := hag t.f1
  rw [hlk] at ha
  have hhas : Maps.has D (.string t.f1.data.toList) = false := ha.1
  clear ha hlk hag
  have hX := Aside0.mk h1
  clear h1 h
  go_wp2_with (at_lookup; refine wpList_lookup_own_ok_int _ rfl _ _ 52 rfl 9 3 .i64 (string_keyed Try.underlying9) Try.underlying52 Try.underlying3 (zero3 _) b n1 D rfl hown _ _ rfl (Go.WideMaps.keyOf_string_mk Try.underlying9 hsz) ?_; intro c hat hwc)
  exact bodyPost_ret (v := .int .i64 14) (by simp [results, Try.results37, go_sem]) rfl ⟨hB1, rfl⟩
set_option maxHeartbeats 2000000 in
theorem named_bad (code : Int) (h : Mx w base g prims o vs m) (hm : m.inp = [] ∨ ∃ t r, m.inp = t :: r ∧ t.f0 ≠ 1) :
    Calls Try.prog 37 #[.pointer (some ⟨g, 0, none⟩), .int .i64 code] w (MPost base g prims (.inr 15) w) := by
  have hw : Calls Try.prog 64 #[.pointer (some ⟨g, 0, none⟩)] w fun e w' => e = .returned (.tuple #[.string ⟨#[]⟩, .int .i64 15]) ∧ w' = w := by
    rcases hm with hm | ⟨t, r, hm, ht⟩
    · exact word_none h hm
    · exact word_bad h hm ht
  go_enter Try.func37, Try.ntmps37
  go_wp2_with fail
  refine hw.mono ?_
  rintro e w1 ⟨rfl, rfl⟩
  go_wp2_with fail
  exact bodyPost_ret (v := .int .i64 15) (by simp [results, Try.results37, go_sem]) rfl ⟨Below.refl _ _, rfl⟩
end
end Go.Proofs.Ytehmhgpogpbjiaa.Fcc
