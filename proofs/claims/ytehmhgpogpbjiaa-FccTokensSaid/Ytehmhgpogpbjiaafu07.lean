import Derived.Test.Ytehmhgpogpbjiaafu06
set_option linter.unusedVariables false
set_option linter.unusedSimpArgs false
set_option maxRecDepth 100000
set_option maxHeartbeats 8000000
namespace Go.Proofs.Ytehmhgpogpbjiaa.Fcc
open Go.RowKit Go.Proofs.YtehmhgpogpbjiaaW.PrintWords Go.Proofs.YtehmhgpogpbjiaaW.PrintLast Go.Proofs.YtehmhgpogpbjiaaW.PrintMore Go.Proofs.Ytehmhgpogpbjiaa.PFccTokens
section
variable {w : World} {base g : Nat} {prims : List (ByteArray × Int)} {o : Nat → Nat} {vs : List Value} {m : Mk}
theorem YeP (h : Mx w base g prims o vs m) (hl : m.out.length < 1099511627770) (hl2 : m.leads.length < 1099511627770) :
 Calls Try.prog 62 #[.pointer (some ⟨g, 0, none⟩), .string ⟨#[108, 111, 111, 112]⟩] w (VM base g prims (match popP m.loops with | none => .inr 13 | some (x, l) => .inl ({ m with loops := l, leads := m.leads ++ ([⟨m.at_, x⟩, ⟨x, m.at_⟩] : List Ld) }.add 21)) w) := by
 rcases snoc_cases m.loops with ho | ⟨xs, x, ho⟩
 ·have hr : (match popP m.loops with | none => .inr 13 | some (x, l) => .inl ({ m with loops := l, leads := m.leads ++ ([⟨m.at_, x⟩, ⟨x, m.at_⟩] : List Ld) }.add 21) : Res) = .inr 13 := by rw [ho]; rfl
  rw [hr]
  have hF : (mkF base prims m)[9]? = some (rowF (Kd.int .i64) 3 base []) := by rw [← ho]; rfl
  obtain ⟨v0, A1, c1, b, A7, c7, A8, c8, A9, c9, A10, c10, A11, c11, rfl⟩ := h.cells
  have k1 := h.st.cell 1 rfl
  have hp := h.st.pop_none (i := 9) rfl hF
  clear hF hr h ho
  go_enter Try.func62, Try.ntmps62
  go_wp2_with fail
  refine hp.mono ?_
  rintro e w1 ⟨rfl, rfl⟩
  go_wp2_with fail
  exact Z21
 ·have hr : (match popP m.loops with | none => .inr 13 | some (x, l) => .inl ({ m with loops := l, leads := m.leads ++ ([⟨m.at_, x⟩, ⟨x, m.at_⟩] : List Ld) }.add 21) : Res) = .inl ({ m with loops := xs, leads := m.leads ++ ([⟨m.at_, x⟩, ⟨x, m.at_⟩] : List Ld) }.add 21) := by rw [ho, XD]
  rw [hr]
  have hF : (mkF base prims m)[9]? = some (rowF (Kd.int .i64) 3 base (xs ++ [x])) := by rw [← ho]; rfl
  clear hr
  obtain ⟨v, hv⟩ : ∃ v, vs[9]? = some v := ⟨_, List.getElem?_eq_getElem Z18⟩
  have hp := h.st.pop hv hF
  clear hF hv
  have hX := Aside0.mk h
  have k1 : ∃ A1 c1, w.cell? ⟨g, 1, none⟩ = some (.slice A1 m.out.length c1) := by
   obtain ⟨v0, A1, c1, b, A7, c7, A8, c8, A9, c9, A10, c10, A11, c11, rfl⟩ := h.cells
   exact ⟨_, _, h.st.cell 1 rfl⟩
  obtain ⟨A1, c1, k1⟩ := k1
  clear h ho
  go_enter Try.func62, Try.ntmps62
  go_wp2_with fail
  refine hp.mono ?_
  rintro e w1 ⟨rfl, v', hst, hB1⟩
  have h1 : Mx w1 base g prims o (vs.set 9 v') { m with loops := xs } := ⟨hst, Z1P⟩
  have hgb := hX.out.st.hb
  clear hst hp k1
  generalize hm1 : ({ m with loops := xs } : Mk) = m1 at h1
  have hmo := Aside0.mk (show m1.out = m.out by rw [← hm1])
  have hml := Aside0.mk (show m1.leads = m.leads by rw [← hm1])
  generalize vs.set 9 v' = vs1 at h1
  obtain ⟨v0, A1, c1, b, A7, c7, A8, c8, A9, c9, A10, c10, A11, c11, rfl⟩ := h1.cells
  have k11 := h1.st.cell 11 rfl
  have hY := Aside0.mk h1
  have hm1' := Aside0.mk hm1
  clear h1 hm1
  have hsz := Below.refl w1.heap.size w1
  have hBn := Yl hsz (.cells #[.int .i64 m.out.length, .int .i64 x, .int .i64 x, .int .i64 m.out.length] 101)
  have hLC := YeQ k77 101 w1 [⟨m.out.length, x⟩, ⟨x, m.out.length⟩] [.int .i64 m.out.length, .int .i64 x, .int .i64 x, .int .i64 m.out.length] Z6 (Yd0 _ _ _)
  have hb1 := hY.out.st.base_le
  have hn : m1.leads.length < 1099511627770 := by rw [hml.out]; exact hl2
  go_wp2_with (at_builtin; refine St.pushN (d := k77) (e := 101) (i := 11) (hY.out.below hBn).st rfl rfl [⟨m.out.length, x⟩, ⟨x, m.out.length⟩] (some ⟨w1.heap.size, 0, none⟩) 2 2 Try.underlying55 JO rfl Z1 Z1 rfl rfl rfl rfl hLC (fun x cs h => by rw [JD h]; exact VW _ _ _ _) Z0 ?_)
  rintro v2 w2 ⟨hst, hB2, ⟨A2, c2, rfl⟩, hb2, hg2⟩
  have hz : (m1.leads ++ ([⟨m.out.length, x⟩, ⟨x, m.out.length⟩] : List Ld)).length = m1.leads.length + 2 := by simp
  rw [hz] at hst ⊢
  have hf := Yf hb2 11
  have k11' : w2.cell? ⟨g, 11, none⟩ = some (.slice A11 m1.leads.length c11) := (Yc hb2 11).trans rfl
  have h2 : Mx _ base g prims _ _ { m1 with leads := m1.leads ++ ([⟨m.out.length, x⟩, ⟨x, m.out.length⟩] : List Ld) } := ⟨hst, rfl⟩
  have hB3 : Below base w (w2.setCell ⟨g, 11, none⟩ (.slice A2 (m1.leads.length + 2) c2)) := Below.setCell (hB1.trans ((Below.mono hBn hb1).trans hB2)) hgb _
  clear hLC k11 hBn hsz hb2 hg2
  go_wp2_with fail
  refine (YW h2 21 0 ⟨#[]⟩ Z1N).mono ?_
  rintro e w4 ⟨rfl, hB4, o4, vs4, h4⟩
  have he : (({ m1 with leads := m1.leads ++ ([⟨m.out.length, x⟩, ⟨x, m.out.length⟩] : List Ld) } : Mk).add 21 0 ⟨#[]⟩) = ({ m with loops := xs, leads := m.leads ++ ([⟨m.at_, x⟩, ⟨x, m.at_⟩] : List Ld) } : Mk).add 21 := by rw [← hm1'.out]; rfl
  rw [he] at h4
  clear he
  go_wp2_with fail
  exact Z1E
theorem Ydr (h : Mx w base g prims o vs m) (hl : m.out.length < 1099511627770) (hl2 : m.leads.length < 1099511627770) :
 Calls Try.prog 62 #[.pointer (some ⟨g, 0, none⟩), .string ⟨#[43, 108, 111, 111, 112]⟩] w (VM base g prims (match popP m.loops with | none => .inr 13 | some (x, l) => .inl ({ m with loops := l, leads := m.leads ++ ([⟨m.at_, x⟩, ⟨x, m.at_⟩] : List Ld) }.add 22)) w) := by
 rcases snoc_cases m.loops with ho | ⟨xs, x, ho⟩
 ·have hr : (match popP m.loops with | none => .inr 13 | some (x, l) => .inl ({ m with loops := l, leads := m.leads ++ ([⟨m.at_, x⟩, ⟨x, m.at_⟩] : List Ld) }.add 22) : Res) = .inr 13 := by rw [ho]; rfl
  rw [hr]
  have hF : (mkF base prims m)[9]? = some (rowF (Kd.int .i64) 3 base []) := by rw [← ho]; rfl
  obtain ⟨v0, A1, c1, b, A7, c7, A8, c8, A9, c9, A10, c10, A11, c11, rfl⟩ := h.cells
  have k1 := h.st.cell 1 rfl
  have hp := h.st.pop_none (i := 9) rfl hF
  clear hF hr h ho
  go_enter Try.func62, Try.ntmps62
  go_wp2_with fail
  refine hp.mono ?_
  rintro e w1 ⟨rfl, rfl⟩
  go_wp2_with fail
  exact Z21
 ·have hr : (match popP m.loops with | none => .inr 13 | some (x, l) => .inl ({ m with loops := l, leads := m.leads ++ ([⟨m.at_, x⟩, ⟨x, m.at_⟩] : List Ld) }.add 22) : Res) = .inl ({ m with loops := xs, leads := m.leads ++ ([⟨m.at_, x⟩, ⟨x, m.at_⟩] : List Ld) }.add 22) := by rw [ho, XD]
  rw [hr]
  have hF : (mkF base prims m)[9]? = some (rowF (Kd.int .i64) 3 base (xs ++ [x])) := by rw [← ho]; rfl
  clear hr
  obtain ⟨v, hv⟩ : ∃ v, vs[9]? = some v := ⟨_, List.getElem?_eq_getElem Z18⟩
  have hp := h.st.pop hv hF
  clear hF hv
  have hX := Aside0.mk h
  have k1 : ∃ A1 c1, w.cell? ⟨g, 1, none⟩ = some (.slice A1 m.out.length c1) := by
   obtain ⟨v0, A1, c1, b, A7, c7, A8, c8, A9, c9, A10, c10, A11, c11, rfl⟩ := h.cells
   exact ⟨_, _, h.st.cell 1 rfl⟩
  obtain ⟨A1, c1, k1⟩ := k1
  clear h ho
  go_enter Try.func62, Try.ntmps62
  go_wp2_with fail
  refine hp.mono ?_
  rintro e w1 ⟨rfl, v', hst, hB1⟩
  have h1 : Mx w1 base g prims o (vs.set 9 v') { m with loops := xs } := ⟨hst, Z1P⟩
  have hgb := hX.out.st.hb
  clear hst hp k1
  generalize hm1 : ({ m with loops := xs } : Mk) = m1 at h1
  have hmo := Aside0.mk (show m1.out = m.out by rw [← hm1])
  have hml := Aside0.mk (show m1.leads = m.leads by rw [← hm1])
  generalize vs.set 9 v' = vs1 at h1
  obtain ⟨v0, A1, c1, b, A7, c7, A8, c8, A9, c9, A10, c10, A11, c11, rfl⟩ := h1.cells
  have k11 := h1.st.cell 11 rfl
  have hY := Aside0.mk h1
  have hm1' := Aside0.mk hm1
  clear h1 hm1
  have hsz := Below.refl w1.heap.size w1
  have hBn := Yl hsz (.cells #[.int .i64 m.out.length, .int .i64 x, .int .i64 x, .int .i64 m.out.length] 101)
  have hLC := YeQ k77 101 w1 [⟨m.out.length, x⟩, ⟨x, m.out.length⟩] [.int .i64 m.out.length, .int .i64 x, .int .i64 x, .int .i64 m.out.length] Z6 (Yd0 _ _ _)
  have hb1 := hY.out.st.base_le
  have hn : m1.leads.length < 1099511627770 := by rw [hml.out]; exact hl2
  go_wp2_with (at_builtin; refine St.pushN (d := k77) (e := 101) (i := 11) (hY.out.below hBn).st rfl rfl [⟨m.out.length, x⟩, ⟨x, m.out.length⟩] (some ⟨w1.heap.size, 0, none⟩) 2 2 Try.underlying55 JO rfl Z1 Z1 rfl rfl rfl rfl hLC (fun x cs h => by rw [JD h]; exact VW _ _ _ _) Z0 ?_)
  rintro v2 w2 ⟨hst, hB2, ⟨A2, c2, rfl⟩, hb2, hg2⟩
  have hz : (m1.leads ++ ([⟨m.out.length, x⟩, ⟨x, m.out.length⟩] : List Ld)).length = m1.leads.length + 2 := by simp
  rw [hz] at hst ⊢
  have hf := Yf hb2 11
  have k11' : w2.cell? ⟨g, 11, none⟩ = some (.slice A11 m1.leads.length c11) := (Yc hb2 11).trans rfl
  have h2 : Mx _ base g prims _ _ { m1 with leads := m1.leads ++ ([⟨m.out.length, x⟩, ⟨x, m.out.length⟩] : List Ld) } := ⟨hst, rfl⟩
  have hB3 : Below base w (w2.setCell ⟨g, 11, none⟩ (.slice A2 (m1.leads.length + 2) c2)) := Below.setCell (hB1.trans ((Below.mono hBn hb1).trans hB2)) hgb _
  clear hLC k11 hBn hsz hb2 hg2
  go_wp2_with fail
  refine (YW h2 22 0 ⟨#[]⟩ Z1N).mono ?_
  rintro e w4 ⟨rfl, hB4, o4, vs4, h4⟩
  have he : (({ m1 with leads := m1.leads ++ ([⟨m.out.length, x⟩, ⟨x, m.out.length⟩] : List Ld) } : Mk).add 22 0 ⟨#[]⟩) = ({ m with loops := xs, leads := m.leads ++ ([⟨m.at_, x⟩, ⟨x, m.at_⟩] : List Ld) } : Mk).add 22 := by rw [← hm1'.out]; rfl
  rw [he] at h4
  clear he
  go_wp2_with fail
  exact Z1E
theorem YeR (h : Mx w base g prims o vs m) (hne : m.loops = []) :
 Calls Try.prog 62 #[.pointer (some ⟨g, 0, none⟩), .string ⟨#[108, 101, 97, 118, 101]⟩] w (VM base g prims (.inr 13) w) := by
 obtain ⟨v0, A1, c1, b, A7, c7, A8, c8, A9, c9, A10, c10, A11, c11, rfl⟩ := h.cells
 have k1 := h.st.cell 1 rfl
 have k9 := h.st.cell 9 rfl
 rw [hne] at k9
 clear h hne
 go_enter Try.func62, Try.ntmps62
 go_wp2_with fail
 exact Z21
theorem YeO (h : Mx w base g prims o vs m) (s : ByteArray) (hs : s.toList ∉ ([[100, 111], [63, 100, 111], [108, 111, 111, 112], [43, 108, 111, 111, 112], [108, 101, 97, 118, 101]] : List (List UInt8))) :
 Calls Try.prog 62 #[.pointer (some ⟨g, 0, none⟩), .string s] w fun e w' => e = .returned (.tuple #[.int .i64 0, .bool false]) ∧ w' = w := by
 obtain ⟨v0, A1, c1, b, A7, c7, A8, c8, A9, c9, A10, c10, A11, c11, rfl⟩ := h.cells
 have k1 := h.st.cell 1 rfl
 clear h
 simp only [List.mem_cons, List.not_mem_nil, or_false, not_or] at hs
 obtain ⟨n0, n1, n2, n3, n4⟩ := hs
 have b0 : (s.toList == ([100, 111] : List UInt8)) = false := beq_eq_false_iff_ne.mpr n0
 have b1 : (s.toList == ([63, 100, 111] : List UInt8)) = false := beq_eq_false_iff_ne.mpr n1
 have b2 : (s.toList == ([108, 111, 111, 112] : List UInt8)) = false := beq_eq_false_iff_ne.mpr n2
 have b3 : (s.toList == ([43, 108, 111, 111, 112] : List UInt8)) = false := beq_eq_false_iff_ne.mpr n3
 have b4 : (s.toList == ([108, 101, 97, 118, 101] : List UInt8)) = false := beq_eq_false_iff_ne.mpr n4
 go_enter Try.func62, Try.ntmps62
 go_wp2_with fail
 exact bodyPost_ret (v := .tuple #[.int .i64 0, .bool false]) ZK rfl ⟨rfl, rfl⟩
end
section
variable {α : Type} {d : Kd α} {w : World} {base g T z i e t bytes : Nat} {vs : List Value} {o : Nat → Nat} {F : List Fld} {xs : List α} {v zv : Value}
def PushedS (d : Kd α) (e base g T z i : Nat) (w : World) (vs : List Value) (o : Nat → Nat) (F : List Fld) (v : Value) (ys : List α) (v' : Value) (w2 : World) : Prop :=
 St (w2.setCell ⟨g, i, none⟩ v') base g T z (vs.set i v') (new_ w o (z + 1 + i)) (F.set i (rowsF d e base ys)) ∧ Below base w w2 ∧ (∃ A c, v' = .slice A ys.length c) ∧ w2.heap[g]? = some (.cells vs.toArray T (0, 0)) ∧ w.grownBy w2 v.ownBlock
theorem St.pushS {P : Program} {ops : Array Oper} {rest : List Oper} {Q : Exit → Act → World → Prop} {a : Act} {q : Oper} {s x : Operand} (h : St w base g T z vs o F) (hv : vs[i]? = some v) (hF : F[i]? = some (rowsF d e base xs)) (p : α) (cs : List Value)
 (hd : d.sz = cs.length) (ht : P.underlying t = some (.slice e)) (hinfo : (P.info? e).map (fun i => (i.zero, i.size, i.bytes)) = some (some zv, d.sz, bytes)) (hz : zv.cells.size = d.sz) (hs0 : 0 < d.sz) (hb0 : 0 < bytes)
 (hgd : q.guard = none) (hq : q.op = .call { callee := .builtin .append, args := #[s, x], argTypes := #[t, t] }) (hs : a.eval s = v) (hx : a.eval x = .slice (some ⟨w.heap.size, 0, none⟩) 1 1)
 (hp : d.M w base (fun _ => False) p cs) (hl : (xs.length + 1) * bytes ≤ 140737488355328)
 (k : ∀ v' w2, PushedS d e base g T z i w vs o F v (xs ++ [p]) v' w2 → wpList P ops Q rest (a.put q.dst v') w2) : wpList P ops Q (q :: rest) a (w.alloc (.cells cs.toArray e)) := by
 have hR0 : Kd.S d e w base (fun k => new_ w o (z + 1 + i) k = z + 1 + i) v xs := (loc_rows d e base xs).move (h.row i v _ hv hF) (fun k hk _ hl => ⟨rfl, (by rw [Uk hl]; exact hk)⟩)
 refine Kd.S_append d (w0 := w) (W := w) base hgd s x t e zv bytes hq ht hinfo hz hs0 hb0 v xs p cs (fun k => new_ w o (z + 1 + i) k = z + 1 + i) (fun _ => False) hs hx hp (fun _ h => h.elim) (fun k hk => JC hk) (Kd.S_mono hR0 (fun _ hk => ⟨hk, fun h => h⟩)) (Below.refl _ _) h.base_le hl ?_
 intro v' w2 hR hB hg _
 refine k v' w2 ⟨h.pushedS hv hF hg hR, hB, ?_, ?_, hg⟩
 ·obtain ⟨A, c, rfl, _⟩ := Kd.S_reads hR
  exact ⟨A, c, rfl⟩
 ·refine XK h.box hg (fun e2 => ?_)
  have h1 := (Kd.S_R (h.row i v _ hv hF : Kd.S d e w base _ v xs)).1 g e2.symm
  have h2 := h.own
  omega
end
theorem info142 : (Try.prog.info? 142).map (fun i => (i.zero, i.size, i.bytes)) = some (some (.agg #[.int .i64 0, .slice none 0 0]), 2, 32) := by kernel_rfl
section
variable {w : World} {base g : Nat} {prims : List (ByteArray × Int)} {o : Nat → Nat} {vs : List Value} {m : Mk}
theorem Yfa (h : Mx w base g prims o vs m) (hl : m.out.length < 1099511627770) (hl2 : m.cases.length < 1099511627770) :
 Calls Try.prog 63 #[.pointer (some ⟨g, 0, none⟩), .string ⟨#[99, 97, 115, 101]⟩] w (XT base g prims (.inl ({ m with cases := m.cases ++ ([⟨-1, []⟩] : List Ch) }.add 196)) w) := by
 obtain ⟨v0, A1, c1, b, A7, c7, A8, c8, A9, c9, A10, c10, A11, c11, rfl⟩ := h.cells
 have k1 := h.st.cell 1 rfl
 have k10 := h.st.cell 10 rfl
 have hX := Aside0.mk h
 clear h
 go_enter Try.func63, Try.ntmps63
 go_wp2_with fail
 go_quiet (fail)
 have hq := Xa.below (w := w) (w' := w.drewN nq) ⟨⟨nq, rfl⟩⟩
 have hY := Aside0.mk (hX.out.below hq)
 have hB0 := Below.mono hq hX.out.st.base_le
 clear hq
 clear k1 k10
 generalize w.drewN nq = W at hY hB0 ⊢
 have k10 := hY.out.st.cell 10 rfl
 go_wp2_with (at_builtin; refine St.pushS (d := k149) (e := 142) (i := 10) hY.out.st rfl rfl (⟨-1, []⟩ : Ch) [.int .i64 (-1), .slice none 0 0] rfl Try.underlying54 info142 rfl Z1 Z1 rfl rfl rfl rfl (k149_mkM _ _ _ (x := (⟨-1, []⟩ : S149)) (Kd.R_nil _ _ _ _ _)) Z0 ?_)
 rintro v2 w2 ⟨hst, hB2, ⟨A2, c2, rfl⟩, hb2, hg2⟩
 have hz : (m.cases ++ ([⟨-1, []⟩] : List Ch)).length = m.cases.length + 1 := by simp
 rw [hz] at hst ⊢
 have hf := Yf hb2 10
 have k10' : w2.cell? ⟨g, 10, none⟩ = some (.slice A10 m.cases.length c10) := (Yc hb2 10).trans rfl
 have h2 : Mx _ base g prims _ _ { m with cases := m.cases ++ ([⟨-1, []⟩] : List Ch) } := ⟨hst, rfl⟩
 have hB3 : Below base w (w2.setCell ⟨g, 10, none⟩ (.slice A2 (m.cases.length + 1) c2)) := Below.setCell (hB0.trans hB2) hX.out.st.hb _
 clear k10 hb2 hg2
 go_wp2_with fail
 refine (YW h2 196 0 ⟨#[]⟩ Z1e).mono ?_
 rintro e w4 ⟨rfl, hB4, o4, vs4, h4⟩
 go_wp2_with fail
 exact Z2x
theorem YdH (h : Mx w base g prims o vs m) (hl : m.out.length < 1099511627770) (hn : m.cases = []) (s : ByteArray) (hs : s.toList ≠ ([99, 97, 115, 101] : List UInt8)) :
 Calls Try.prog 63 #[.pointer (some ⟨g, 0, none⟩), .string s] w (XT base g prims (.inr 13) w) := by
 obtain ⟨v0, A1, c1, b, A7, c7, A8, c8, A9, c9, A10, c10, A11, c11, rfl⟩ := h.cells
 have k1 := h.st.cell 1 rfl
 have k10 := h.st.cell 10 rfl
 have hX := Aside0.mk h
 rw [hn] at k10
 have b0 : (s.toList == ([99, 97, 115, 101] : List UInt8)) = false := beq_eq_false_iff_ne.mpr hs
 clear h hn hs
 go_enter Try.func63, Try.ntmps63
 go_wp2_with fail
 go_quiet (fail)
 have hq := Xa.below (w := w) (w' := w.drewN nq) ⟨⟨nq, rfl⟩⟩
 have hB0 := Below.mono hq hX.out.st.base_le
 clear hq k1 k10
 generalize w.drewN nq = W at hB0 ⊢
 go_wp2_with fail
 exact Z22
end
section
variable {α : Type} {d : Kd α} {w w1 : World} {base g T z i e : Nat} {vs : List Value} {o : Nat → Nat} {F : List Fld} {pre : List α} {x x' : α} {v : Value}
theorem St.last (h : St w base g T z vs o F) (hv : vs[i]? = some v) (hF : F[i]? = some (rowsF d e base (pre ++ [x]))) :
 ∃ gc cap cells oki c, v = .slice (some ⟨gc, 0, none⟩) (pre.length + 1) cap ∧ pre.length + 1 ≤ cap ∧ o gc = z + 1 + i ∧ base ≤ gc ∧ w.heap[gc]? = some (.cells cells e (0, 0)) ∧ c.length = d.sz ∧ d.M w base oki x c ∧ (∀ q u, c[q]? = some u → cells[pre.length * d.sz + q]? = some u) ∧ (∀ k, oki k → o k = z + 1 + i ∧ k ≠ gc) ∧
  Kd.H d e w base (fun k => o k = z + 1 + i) v (pre ++ [x]) pre.length oki c := by
 have hS : Kd.S d e w base (fun k => o k = z + 1 + i) v (pre ++ [x]) := h.row i v _ hv hF
 obtain ⟨gc, cap, rfl, hb, hl, cells, hc⟩ := Kd.S_form hS Z6
 have hz : (pre ++ [x]).length = pre.length + 1 := by simp
 have hcap := (Kd.S_reads' hS).2.1
 rw [hz] at hS hcap ⊢
 obtain ⟨oki, c, hcl, hM, hcc, hfr, hok, hH⟩ := Kd.S_elem hS x pre.length Z0 Z0
 have hx : (pre ++ [x]).getD (pre.length : Int).toNat x = x := by simp
 rw [hx] at hM
 refine ⟨gc, cap, cells, oki, c, rfl, hcap, (Kd.S_R hS).1 gc Zk, hb, hc, hcl, hM, fun q u hq => ?_, hok, hH⟩
 have := hcc q u hq
 rw [Yc hc] at this
 simpa using this
theorem St.back {o1 : Nat → Nat} {gc n cap : Nat} {okx okp : Nat → Prop} {c : List Value} (h : St w base g T z vs o F) (hv : vs[i]? = some (.slice (some ⟨gc, 0, none⟩) n cap)) (ho : ∀ k, k < w.heap.size → o1 k = o k) (hk : ∀ k, k < w.heap.size → base ≤ k → o k ≠ z + 1 + i → w1.heap[k]? = w.heap[k]?)
 (hH : Kd.H d e w1 base (fun k => o1 k = z + 1 + i) (.slice (some ⟨gc, 0, none⟩) n cap) (pre ++ [x]) pre.length okx c) (hM : d.M w1 base okp x' c) (hokp : ∀ k, okp k → okx k) : St w1 base g T z vs o1 (F.set i (rowsF d e base (pre ++ [x']))) := by
 refine h.turn i (loc_rows _ _ _ _) ho hk (fun v hv' => ?_)
 rw [hv] at hv'
 cases hv'
 have := Kd.H_back hH hM hokp
 simpa using this
end
section
variable {w : World} {base g : Nat} {prims : List (ByteArray × Int)} {o : Nat → Nat} {vs : List Value} {m : Mk} {pre : List Ch} {c : Ch}
theorem of_calls (h : Mx w base g prims o vs m) (hl : m.out.length < 1099511627770) (hn : m.cases = pre ++ [c]) (hl2 : m.cases.length < 1099511627770) (hc : c.f0 < 0) :
 Calls Try.prog 63 #[.pointer (some ⟨g, 0, none⟩), .string ⟨#[111, 102]⟩] w (XT base g prims (.inl ({ m with cases := pre ++ ([⟨m.at_, c.f1⟩] : List Ch) }.add 28)) w) := by
 obtain ⟨v0, A1, c1, b, A7, c7, A8, c8, A9, c9, A10, c10, A11, c11, rfl⟩ := h.cells
 have hF : (mkF base prims m)[10]? = some (rowsF k149 142 base (pre ++ [c])) := by rw [← hn]; rfl
 obtain ⟨gc, cap, cells, oki, cc, hv, hcap, hog, hbg, hbk, hcl, hM, hcc, hok, hH⟩ := h.st.last (i := 10) rfl hF
 obtain ⟨v1, rfl, hR1⟩ := XL hM
 have hlen : m.cases.length = pre.length + 1 := by rw [hn]; simp
 rw [hlen] at hl2 h hv hH
 cases hv
 have k1 := h.st.cell 1 rfl
 have k10 := h.st.cell 10 rfl
 have q0 : w.cell? ⟨gc, pre.length * 2, none⟩ = some (.int .i64 c.f0) := (Yc hbk _).trans (hcc 0 _ rfl)
 have f0 : w.frozen? ⟨gc, pre.length * 2, none⟩ = false := Yf hbk _
 have hX := Aside0.mk h
 have hH' := Aside0.mk hH
 clear h hn hF hlen hH
 go_enter Try.func63, Try.ntmps63
 go_wp2_with fail
 go_quiet (fail)
 have hq := Xa.below (w := w) (w' := w.drewN nq) ⟨⟨nq, rfl⟩⟩
 have hB0 := Below.mono hq hX.out.st.base_le
 have hY := Aside0.mk (hX.out.below hq)
 have hb1 := Kd.H_drewN hH'.out nq
 have hs1 := Kd.H_seg hb1 Z0 Z0 (seg := [.int .i64 m.out.length]) (j := 0) Z1B Z16
 have hR2 := Kd.R_far (p := ⟨gc, pre.length * 2, none⟩) (Kd.R_drewN hR1 nq) (fun k hk => (hok k hk).2) (.int .i64 m.out.length)
 have h2 : Mx ((w.drewN nq).setCell ⟨gc, pre.length * 2, none⟩ (.int .i64 m.out.length)) base g prims o _ { m with cases := pre ++ ([⟨m.at_, c.f1⟩] : List Ch) } :=
  ⟨hY.out.st.back (x' := (⟨m.at_, c.f1⟩ : S149)) rfl (fun _ _ => rfl) (fun k hlt _ hne => hs1.2.block k hlt (fun e => hne (by cases e; exact hog))) hs1.1 (k149_mkM _ _ _ (x := ⟨m.at_, c.f1⟩) hR2) (fun _ hk => hk), rfl⟩
 have hB3 := hB0.setCell (p := ⟨gc, pre.length * 2, none⟩) hbg (.int .i64 m.out.length)
 clear hb1 hs1 hR2 hq hbk hcc hM hcl
 go_wp2_with fail
 refine (YW h2 28 0 ⟨#[]⟩ Z1e).mono ?_
 rintro e w4 ⟨rfl, hB4, o4, vs4, h4⟩
 go_wp2_with fail
 exact Z2x
theorem YdF (h : Mx w base g prims o vs m) (hl : m.out.length < 1099511627770) (hn : m.cases = pre ++ [c]) (hl2 : m.cases.length < 1099511627770) (hc : c.f0 < 0) :
 Calls Try.prog 63 #[.pointer (some ⟨g, 0, none⟩), .string ⟨#[101, 110, 100, 111, 102]⟩] w (XT base g prims (.inr 13) w) := by
 obtain ⟨v0, A1, c1, b, A7, c7, A8, c8, A9, c9, A10, c10, A11, c11, rfl⟩ := h.cells
 have hF : (mkF base prims m)[10]? = some (rowsF k149 142 base (pre ++ [c])) := by rw [← hn]; rfl
 obtain ⟨gc, cap, cells, oki, cc, hv, hcap, hog, hbg, hbk, hcl, hM, hcc, hok, hH⟩ := h.st.last (i := 10) rfl hF
 obtain ⟨v1, rfl, hR1⟩ := XL hM
 have hlen : m.cases.length = pre.length + 1 := by rw [hn]; simp
 rw [hlen] at hl2 h hv hH
 cases hv
 have k1 := h.st.cell 1 rfl
 have k10 := h.st.cell 10 rfl
 have q0 : w.cell? ⟨gc, pre.length * 2, none⟩ = some (.int .i64 c.f0) := (Yc hbk _).trans (hcc 0 _ rfl)
 have hX := Aside0.mk h
 clear h hn hF hlen hH hcc hM hcl hbk
 go_enter Try.func63, Try.ntmps63
 go_wp2_with fail
 go_quiet (fail)
 have hq := Xa.below (w := w) (w' := w.drewN nq) ⟨⟨nq, rfl⟩⟩
 have hB0 := Below.mono hq hX.out.st.base_le
 go_wp2_with fail
 exact Z22
theorem YdG (h : Mx w base g prims o vs m) (hl : m.out.length < 1099511627770) (hn : m.cases = pre ++ [c]) (hl2 : m.cases.length < 1099511627770) (hc : 0 ≤ c.f0) (s : ByteArray) (hs : s.toList ≠ ([99, 97, 115, 101] : List UInt8)) (hs2 : s.toList ≠ ([101, 110, 100, 111, 102] : List UInt8)) :
 Calls Try.prog 63 #[.pointer (some ⟨g, 0, none⟩), .string s] w (XT base g prims (.inr 13) w) := by
 obtain ⟨v0, A1, c1, b, A7, c7, A8, c8, A9, c9, A10, c10, A11, c11, rfl⟩ := h.cells
 have hF : (mkF base prims m)[10]? = some (rowsF k149 142 base (pre ++ [c])) := by rw [← hn]; rfl
 obtain ⟨gc, cap, cells, oki, cc, hv, hcap, hog, hbg, hbk, hcl, hM, hcc, hok, hH⟩ := h.st.last (i := 10) rfl hF
 obtain ⟨v1, rfl, hR1⟩ := XL hM
 have hlen : m.cases.length = pre.length + 1 := by rw [hn]; simp
 rw [hlen] at hl2 h hv hH
 cases hv
 have k1 := h.st.cell 1 rfl
 have k10 := h.st.cell 10 rfl
 have q0 : w.cell? ⟨gc, pre.length * 2, none⟩ = some (.int .i64 c.f0) := (Yc hbk _).trans (hcc 0 _ rfl)
 have hX := Aside0.mk h
 have b0 : (s.toList == ([99, 97, 115, 101] : List UInt8)) = false := beq_eq_false_iff_ne.mpr hs
 have b1 : (s.toList == ([101, 110, 100, 111, 102] : List UInt8)) = false := beq_eq_false_iff_ne.mpr hs2
 have d0 : decide (c.f0 < 0) = false := by simp; exact hc
 clear h hn hF hlen hH hcc hM hcl hbk hs hs2
 go_enter Try.func63, Try.ntmps63
 go_wp2_with fail
 go_quiet (fail)
 have hq := Xa.below (w := w) (w' := w.drewN nq) ⟨⟨nq, rfl⟩⟩
 have hB0 := Below.mono hq hX.out.st.base_le
 go_wp2_with fail
 exact Z22
end
section
variable {w : World} {base g : Nat} {prims : List (ByteArray × Int)} {o : Nat → Nat} {vs : List Value} {m : Mk} {pre : List Ch} {c : Ch}
theorem YdB (h : Mx w base g prims o vs m) (hl : m.out.length < 1099511627770) (hn : m.cases = pre ++ [c]) (hl2 : m.cases.length < 1099511627770) (hl3 : m.leads.length < 1099511627770) (hl4 : c.f1.length < 1099511627770) (hc : 0 ≤ c.f0) :
 Calls Try.prog 63 #[.pointer (some ⟨g, 0, none⟩), .string ⟨#[101, 110, 100, 111, 102]⟩] w (XT base g prims (.inl ({ m with cases := pre ++ ([⟨-1, c.f1 ++ [m.at_]⟩] : List Ch), leads := m.leads ++ ([⟨c.f0, m.at_⟩] : List Ld) }.add 198)) w) := by
 obtain ⟨v0, A1, c1, b, A7, c7, A8, c8, A9, c9, A10, c10, A11, c11, rfl⟩ := h.cells
 have hF : (mkF base prims m)[10]? = some (rowsF k149 142 base (pre ++ [c])) := by rw [← hn]; rfl
 obtain ⟨gc, cap, cells, oki, cc, hv, hcap, hog, hbg, hbk, hcl, hM, hcc, hok, hH⟩ := h.st.last (i := 10) rfl hF
 obtain ⟨v1, rfl, hR1⟩ := XL hM
 have hlen : m.cases.length = pre.length + 1 := by rw [hn]; simp
 rw [hlen] at hl2 h hv hH
 cases hv
 have k1 := h.st.cell 1 rfl
 have k10 := h.st.cell 10 rfl
 have q0 : w.cell? ⟨gc, pre.length * 2, none⟩ = some (.int .i64 c.f0) := (Yc hbk _).trans (hcc 0 _ rfl)
 have hX := Aside0.mk h
 have hHn := Aside0.mk hn
 have d0 : decide (c.f0 < 0) = false := by simp; exact hc
 have e0 := Aside0.mk (show cells[pre.length * 2]? = some (.int .i64 c.f0) from hcc 0 _ rfl)
 clear h hn hF hlen hH hcc hM hcl
 go_enter Try.func63, Try.ntmps63
 go_wp2_with fail
 go_quiet (fail)
 have hq := Xa.below (w := w) (w' := w.drewN nq) ⟨⟨nq, rfl⟩⟩
 have hB0 := Below.mono hq hX.out.st.base_le
 have hY := hX.out.below hq
 go_wp2_with fail
 clear k1 k10 q0
 have hbk1 : (w.drewN nq).heap[gc]? = some (.cells cells 142 (0, 0)) := Vx hbk nq
 have q0 : (w.drewN nq).cell? ⟨gc, pre.length * 2, none⟩ = some (.int .i64 c.f0) := (Yc hbk1 _).trans e0.out
 clear hq hbk hR1
 generalize w.drewN nq = W at hY hB0 hbk1 q0 ⊢
 have hd := hY.below (YM (Below.refl _ _))
 have hBd : Below W.heap.size W W.drew := YM (Below.refl _ _)
 refine VS (ds := [15]) (S := fun w' => w'.cell? ⟨g, 11, none⟩ = some (.slice A11 m.leads.length c11) ∧ w'.cell? ⟨gc, pre.length * 2, none⟩ = some (.int .i64 c.f0)) Z2 rfl rfl ⟨hd.st.cell 11 rfl, q0⟩ (fun tb hS => ?_)
 have hbk2 := Xq hbk1
 generalize W.drew = Wd at hd hBd hS hbk2 ⊢
 have q1 := hS.out.2
 refine seg_ [(0, 104), (1, 105), (2, 106), (3, 107), (4, 108), (5, 109), (6, 110), (7, 111), (8, 112), (9, 113), (10, 114)] tb hS Z2 (fun _ _ _ _ h => h) (a' := ?_) ?_ ?_
 rotate_left
 ·repeat (first | exact Seg.nil | (refine Seg.on (v := ?_) (a1 := ?_) rfl rfl Z4 ?_ ?_ ?_; rotate_left 2; (rintro w' hS; go_split_ands; go_simp; with_reducible rfl); (simp only [Act.put, List.setIfInBounds_toArray, List.set_cons_zero, List.set_cons_succ, Yy, YA]; rfl)))
 refine eff_ 11 tb rfl Z2 ?_
 go_wp2_with fail
 refine ql_ ⟨⟨(hd.below (Yl (Below.refl _ _) _)).st.cell 11 rfl, (Yc (YZ hbk2 _) _).trans e0.out⟩, fun hS => ?_⟩
 refine eff_ 12 tb rfl Z2 ?_
 refine St.push (d := k77) (e := 101) (i := 11) hd.st rfl rfl (⟨c.f0, m.out.length⟩ : S77) [.int .i64 c.f0, .int .i64 m.out.length] (fun _ => False) rfl Try.underlying55 JO rfl Z1 Z1 rfl rfl rfl rfl (VW _ _ _ _) Z0 ?_
 rintro v2 w2 ⟨hst, hB2, ⟨A2, c2, rfl⟩, hb2, hg2⟩
 have hz : (m.leads ++ [(⟨c.f0, m.out.length⟩ : S77)]).length = m.leads.length + 1 := by simp
 rw [hz] at hst ⊢
 have hne : some gc ≠ (Value.slice A11 m.leads.length c11).ownBlock := fun e => by
  have := (hd.st.row 11 _ _ rfl rfl : Kd.R k77 101 Wd base _ (.slice A11 m.leads.length c11) m.leads).1 gc e.symm
  omega
 have hbk3 := XK hbk2 hg2 hne
 have hf := Yf hb2 11
 have k11 : w2.cell? ⟨g, 11, none⟩ = some (.slice A11 m.leads.length c11) := (Yc hb2 11).trans rfl
 refine ql_ ⟨⟨k11, (Yc hbk3 _).trans e0.out⟩, fun hS => ?_⟩
 refine seg_ [(13, 117), (14, 118)] tb hS Z2 (fun _ _ _ _ h => h) (a' := ?_) ?_ ?_
 rotate_left
 ·repeat (first | exact Seg.nil | (refine Seg.on (v := ?_) (a1 := ?_) rfl rfl Z4 ?_ ?_ ?_; rotate_left 2; (rintro w' hS; go_split_ands; go_simp; with_reducible rfl); (simp only [Act.put, List.setIfInBounds_toArray, List.set_cons_zero, List.set_cons_succ, Yy, YA]; rfl)))
 refine UI 15 tb rfl Z2 ?_
 go_wp2_with fail
 refine ql_ (end_ tb Z2 ?_)
 have h2 : Mx _ base g prims _ _ { m with leads := m.leads ++ [(⟨c.f0, m.out.length⟩ : S77)] } := ⟨hst, rfl⟩
 have hB4 : Below base w (w2.setCell ⟨g, 11, none⟩ (.slice A2 (m.leads.length + 1) c2)) := Below.setCell (hB0.trans ((Below.mono hBd hY.st.base_le).trans hB2)) hX.out.st.hb _
 clear hS k11 hf hbk3 hne hz hg2 hb2 hst q1 hbk2 hd hBd q0 hbk1 hY e0 hok
 generalize w2.setCell ⟨g, 11, none⟩ (.slice A2 (m.leads.length + 1) c2) = W4 at h2 hB4 ⊢
 generalize new_ Wd o (0 + 1 + 11) = o4 at h2
 have hF2 : (mkF base prims { m with leads := m.leads ++ [(⟨c.f0, m.out.length⟩ : S77)] })[10]? = some (rowsF k149 142 base (pre ++ [c])) := by rw [← hHn.out]; rfl
 obtain ⟨gc', cap, cells, oki, cc, hv, hcap, hog, hbg, hbk, hcl, hM, hcc, hok, hH⟩ := h2.st.last (i := 10) rfl hF2
 obtain ⟨v1, rfl, hR1⟩ := XL hM
 cases hv
 obtain ⟨A5, c5, rfl⟩ := Kd.R_slice hR1
 have q1 : W4.cell? ⟨gc, pre.length * 2 + 1, none⟩ = some (.slice A5 c.f1.length c5) := (Yc hbk _).trans (hcc 1 _ rfl)
 have hb4 := h2.st.base_le
 go_wp2_with (at_builtin; refine Kd.R_append (Kd.int .i64) (w0 := W4) (W := W4) base rfl _ _ 53 3 (.int .i64 0) 8 rfl Try.underlying53 info3 rfl Z1 Z1 (.slice A5 c.f1.length c5) c.f1 (m.out.length : Int) [.int .i64 m.out.length] (fun k => oki k ∨ W4.heap.size ≤ k) (fun _ => False) rfl rfl rfl (fun _ h => h.elim) (fun k hk => .inr hk) (Kd.R_mono hR1 (fun k hk => .inl hk)) (Below.refl _ _) hb4 Z0 ?_)
 intro v5 w5 hR5 hB5 hg5 _
 obtain ⟨A6, c6, rfl⟩ := Kd.R_slice hR5
 have hz5 : (c.f1 ++ [(m.out.length : Int)]).length = c.f1.length + 1 := by simp
 rw [hz5] at hR5 ⊢
 have hown : ∀ k, (Value.slice A5 c.f1.length c5).ownBlock = some k → oki k := hR1.1
 have hH1 := Kd.H_grown (Kd.H_widen (Kd.H_mono hH (ok' := fun k => new_ W4 o4 11 k = 0 + 1 + 10) (fun k hk => by unfold new_; split; exact hk; rfl))) hg5 (fun k hk => .inl (hown k hk))
 have hs1 := Kd.H_seg hH1 Z0 Z0 (seg := [.int .i64 (-1)]) (j := 0) Z1B Z16
 have hs2 := Kd.H_seg hs1.1 Z0 Z0 (seg := [.slice A6 (c.f1.length + 1) c6]) (j := 1) (by show 1 + 1 ≤ 2; omega) Z16
 have hbk5 : w5.heap[gc]? = some (.cells cells 142 (0, 0)) := XK hbk hg5 (fun e => (hok gc (hown gc e.symm)).2 rfl)
 have r0 : w5.cell? ⟨gc, pre.length * 2, none⟩ = some (.int .i64 c.f0) := (Yc hbk5 _).trans (hcc 0 _ rfl)
 have r1 : w5.frozen? ⟨gc, pre.length * 2, none⟩ = false := Yf hbk5 _
 have hbk6 := JU hbk5 (pre.length * 2) (.int .i64 (-1))
 have r2 : (w5.setCell ⟨gc, pre.length * 2, none⟩ (.int .i64 (-1))).frozen? ⟨gc, pre.length * 2 + 1, none⟩ = false := Yf hbk6 _
 have r3 : (w5.setCell ⟨gc, pre.length * 2, none⟩ (.int .i64 (-1))).cell? ⟨gc, pre.length * 2 + 1, none⟩ = some (.slice A5 c.f1.length c5) := by
  rw [Yc hbk6, Array.getElem?_setIfInBounds_ne Z0]
  exact hcc 1 _ rfl
 have hokg : ∀ k, (oki k ∨ W4.heap.size ≤ k) → k ≠ gc := fun k hk => hk.elim (fun h => (hok k h).2) (fun h e => by have := Vw hbk; omega)
 have hR6 := Kd.R_far (p := ⟨gc, pre.length * 2 + 1, none⟩) (Kd.R_far (p := ⟨gc, pre.length * 2, none⟩) hR5 hokg (.int .i64 (-1))) hokg (.slice A6 (c.f1.length + 1) c6)
 obtain ⟨vs6, h6⟩ : ∃ vs6, Mx ((w5.setCell ⟨gc, pre.length * 2, none⟩ (.int .i64 (-1))).setCell ⟨gc, pre.length * 2 + 1, none⟩ (.slice A6 (c.f1.length + 1) c6)) base g prims (new_ W4 o4 11) vs6 { m with cases := pre ++ ([⟨-1, c.f1 ++ [m.at_]⟩] : List Ch), leads := m.leads ++ ([⟨c.f0, m.at_⟩] : List Ld) } := by
  refine ⟨_, h2.st.back (x' := (⟨-1, c.f1 ++ [m.at_]⟩ : S149)) rfl (fun _ hk => Uk hk) (fun k hlt _ hne => ?_) hs2.1 (k149_mkM _ _ _ (x := ⟨-1, c.f1 ++ [m.at_]⟩) hR6) (fun k hk => ?_), rfl⟩
  ·have hkg : k ≠ gc := fun e => hne (by rw [e]; exact hog)
   show ((w5.setCell ⟨gc, pre.length * 2, none⟩ (.int .i64 (-1))).setCell ⟨gc, pre.length * 2 + 1, none⟩ (.slice A6 (c.f1.length + 1) c6)).heap[k]? = _
   rw [Below.heap_setCell _ _ _ _ hkg, Below.heap_setCell _ _ _ _ hkg]
   exact hg5.block k hlt (fun e => hne (hok k (hown k e.symm)).1)
  ·exact hk.imp id (fun h => ⟨JC h, h⟩)
 have hB6 : Below base w ((w5.setCell ⟨gc, pre.length * 2, none⟩ (.int .i64 (-1))).setCell ⟨gc, pre.length * 2 + 1, none⟩ (.slice A6 (c.f1.length + 1) c6)) := Below.setCell (Below.setCell (hB4.trans hB5) hbg _) hbg _
 clear hs1 hs2 hH1 hR6 hokg hH hM hcc hcl hg5 hR5 hR1 hF2 h2 q1 hz5 hbk hbk5 hbk6
 go_wp2_with fail
 refine (YW h6 198 0 ⟨#[]⟩ Z1e).mono ?_
 rintro e w7 ⟨rfl, hB7, o7, vs7, h7⟩
 go_wp2_with fail
 exact bodyPost_ret (v := .int .i64 0) ZT rfl ⟨hB6.trans hB7, rfl, o7, vs7, h7⟩
end
section
variable {w : World} {base g : Nat} {prims : List (ByteArray × Int)} {o : Nat → Nat} {vs : List Value} {m : Mk} {pre : List Ch} {c : Ch}
def ended (m : Mk) (c : Ch) (kk : Nat) : Mk := { m with leads := m.leads ++ (c.f1.take kk).map (fun x => (⟨x, m.at_⟩ : Ld)) }
def EndsR (o : Nat → Nat) (wr : World) (base : Nat) (v : Value) (l : List Int) : Prop := Kd.R (Kd.int .i64) 3 wr base (fun k => o k = 11 ∧ k < wr.heap.size) v l
theorem Yb6 (h : Mx w base g prims o vs m) (hl : m.out.length < 1099511627770) (hn : m.cases = pre ++ [c]) (hl2 : m.cases.length < 1099511627770) (hl3 : m.leads.length < 1099511627770) (hl4 : c.f1.length < 1099511627770) (hc : c.f0 < 0) :
 Calls Try.prog 63 #[.pointer (some ⟨g, 0, none⟩), .string ⟨#[101, 110, 100, 99, 97, 115, 101]⟩] w (XT base g prims (.inl ({ m with cases := pre, leads := m.leads ++ c.f1.map (fun x => (⟨x, m.at_⟩ : Ld)) }.add 197)) w) := by
 obtain ⟨v0, A1, c1, b, A7, c7, A8, c8, A9, c9, A10, c10, A11, c11, rfl⟩ := h.cells
 have hF : (mkF base prims m)[10]? = some (rowsF k149 142 base (pre ++ [c])) := by rw [← hn]; rfl
 obtain ⟨gc, cap, cells, oki, cc, hv, hcap, hog, hbg, hbk, hcl, hM, hcc, hok, hH⟩ := h.st.last (i := 10) rfl hF
 obtain ⟨v1, rfl, hR1⟩ := XL hM
 have hlen : m.cases.length = pre.length + 1 := by rw [hn]; simp
 rw [hlen] at hl2 h hv hH
 cases hv
 obtain ⟨A5, c5, rfl, hlc, hCe⟩ := Kd.R_reads hR1
 have hz5 := hCe.2.1
 have k1 := h.st.cell 1 rfl
 have k10 := h.st.cell 10 rfl
 have q0 : w.cell? ⟨gc, pre.length * 2, none⟩ = some (.int .i64 c.f0) := (Yc hbk _).trans (hcc 0 _ rfl)
 have q1 : w.cell? ⟨gc, pre.length * 2 + 1, none⟩ = some (.slice A5 c.f1.length c5) := (Yc hbk _).trans (hcc 1 _ rfl)
 have hX := Aside0.mk h
 have hHn := Aside0.mk hn
 have hE : EndsR o w base (.slice A5 c.f1.length c5) c.f1 := Kd.R_mono (Kd.R_bound hR1) (fun k hk => ⟨(hok k hk.1).1, hk.2.2.1⟩)
 clear h hn hF hlen hH hcc hM hcl hR1 hCe
 go_enter Try.func63, Try.ntmps63
 go_wp2_with fail
 go_quiet (fail)
 have hq := Xa.below (w := w) (w' := w.drewN nq) ⟨⟨nq, rfl⟩⟩
 have hB0 := Below.mono hq hX.out.st.base_le
 have hY := hX.out.below hq
 have hE1 : EndsR o (w.drewN nq) base (.slice A5 c.f1.length c5) c.f1 := Kd.R_drewN hE nq
 go_wp2_with fail
 clear k1 k10 q0 q1 hE hq hbk
 generalize w.drewN nq = W at hY hB0 hE1 ⊢
 go_loopg [64] c.f1.length (fun gg s64 wr => ∃ (kk : Nat) (o1 : Nat → Nat) (vs1 : List Value), kk ≤ c.f1.length ∧ c.f1.length - kk ≤ gg ∧ s64 = .int .i64 kk ∧ Aside0 (Below base w wr) ∧ Aside0 (Mx wr base g prims o1 vs1 (ended m c kk)) ∧ Aside0 (EndsR o1 wr base (.slice A5 c.f1.length c5) c.f1))
 case atStart => exact ⟨0, o, _, Nat.zero_le _, Z0, rfl, ⟨hB0⟩, ⟨(by unfold ended; simpa using hY)⟩, ⟨hE1⟩⟩
 case round =>
  obtain ⟨kk, o1, vs1, hkk, hg, rfl, HB, HM, HE⟩ := hrel
  by_cases hlt : kk < c.f1.length
  ·have hltz : (kk : Int) < (c.f1.length : Int) := by omega
   have htake : c.f1.take (kk + 1) = c.f1.take kk ++ [c.f1[kk]'hlt] := by rw [List.take_add_one, List.getElem?_eq_getElem hlt]; rfl
   obtain ⟨L2, cl2, eL, _, hCL2⟩ := Kd.R_reads HE.out
   injection eL with eL1 _ eL3
   subst eL1 eL3
   obtain ⟨ad, e, g0⟩ := Kd.at_int hCL2 (kk : Int) Z0 hltz
   cases e
   rw [Int.toNat_natCast] at g0
   have hrd : rd c.f1 (kk : Int) = c.f1[kk]'hlt := by simp [rd, List.getD_eq_getElem?_getD, hlt]
   rw [hrd] at g0
   have hll := Aside0.mk (show (ended m c kk).leads.length = m.leads.length + kk by simp [ended]; omega)
   have hend : ∀ x, x = c.f1[kk]'hlt → ({ ended m c kk with leads := (ended m c kk).leads ++ [(⟨x, m.out.length⟩ : S77)] } : Mk) = ended m c (kk + 1) := by
    rintro x rfl
    simp only [ended, htake, List.map_append, List.append_assoc]
    rfl
   clear hrd hCL2 htake
   generalize c.f1[kk]'hlt = x at g0 hend
   have hend2 := Aside0.mk (hend x rfl)
   clear hend
   generalize ended m c kk = me at HM hll hend2
   obtain ⟨v0, A1, c1, b, A7, c7, A8, c8, A9, c9, A10, c10, A11, c11, rfl⟩ := HM.out.cells
   have k11 := HM.out.st.cell 11 rfl
   have hlim : (me.leads.length + 1) * 16 ≤ 140737488355328 := by rw [hll.out]; omega
   have hgk0 : c.f1.length - (kk + 1) < gk ∧ kk + 1 ≤ c.f1.length := by omega
   have hgk := Aside0.mk hgk0
   go_wp2_with (at_builtin; refine St.push (d := k77) (e := 101) (i := 11) HM.out.st rfl rfl (⟨x, m.out.length⟩ : S77) [.int .i64 x, .int .i64 m.out.length] (fun _ => False) rfl Try.underlying55 JO rfl Z1 Z1 rfl rfl rfl rfl (VW _ _ _ _) hlim ?_)
   rintro v2 w2 ⟨hst, hB2, ⟨A2, c2, rfl⟩, hb2, hg2⟩
   have hz : ((me).leads ++ [(⟨x, m.out.length⟩ : S77)]).length = (me).leads.length + 1 := by simp
   rw [hz] at hst ⊢
   have hf := Yf hb2 11
   have k11' : w2.cell? ⟨g, 11, none⟩ = some (.slice A11 (me).leads.length c11) := (Yc hb2 11).trans rfl
   have h2 : Mx _ base g prims _ _ { me with leads := (me).leads ++ [(⟨x, m.out.length⟩ : S77)] } := ⟨hst, rfl⟩
   rw [hend2.out] at h2
   have hB3 := HB.out.trans (Below.setCell hB2 hX.out.st.hb (.slice A2 ((me).leads.length + 1) c2) (p := ⟨g, 11, none⟩))
   have hE3 : EndsR (new_ wr o1 12) (w2.setCell ⟨g, 11, none⟩ (.slice A2 ((me).leads.length + 1) c2)) base (.slice (some ad) c.f1.length c5) c.f1 := by
    have hsz := hg2.size
    refine Kd.R_mono (Kd.R_far (Kd.R_step HE.out (fun k hk hlt => hg2.block k hlt (fun e => ?_))) (fun k hk => ?_) _) (fun k hk => ⟨(by rw [Uk hk.2]; exact hk.1), ?_⟩)
    ·have h9 := (HM.out.st.row 11 _ _ rfl rfl : Kd.R k77 101 wr base _ (.slice A11 (me).leads.length c11) (me).leads).1 k e.symm
     omega
    ·intro e
     have h9 := HM.out.st.own
     have h8 := hk.1
     rw [show k = g from e] at h8
     omega
    ·have h9 : (w2.setCell ⟨g, 11, none⟩ (.slice A2 ((me).leads.length + 1) c2)).heap.size = w2.heap.size := World.size_setCell _ _ _
     omega
   clear hst hb2 hg2 g0 k11 hll hz
   replace h2 := Aside0.mk h2
   replace hE3 := Aside0.mk hE3
   replace hB3 := Aside0.mk hB3
   clear hgk0 hlim
   go_wp2_with fail
   go_roundg (c.f1.length - (kk + 1))
   case measure => exact hgk.out.1
   case rel => exact ⟨kk + 1, _, _, hgk.out.2, Nat.le_refl _, ZE, hB3, h2, hE3⟩
  ·have hkk2 : kk = c.f1.length := by omega
   subst hkk2
   have hall : ended m c c.f1.length = { m with leads := m.leads ++ c.f1.map (fun x => (⟨x, m.at_⟩ : Ld)) } := by simp [ended]
   have hM2 := HM.out
   rw [hall] at hM2
   have hF2 : (mkF base prims { m with leads := m.leads ++ c.f1.map (fun x => (⟨x, m.at_⟩ : Ld)) })[10]? = some (rowsF k149 142 base (pre ++ [c])) := by rw [← hHn.out]; rfl
   have hcl : m.cases.length = pre.length + 1 := by rw [hHn.out]; simp
   obtain ⟨v0, A1, c1, b, A7, c7, A8, c8, A9, c9, A10, c10, A11, c11, rfl⟩ := hM2.cells
   have hS := hM2.st.row 10 _ _ rfl hF2
   have hcap : m.cases.length ≤ c10 := by have := (Kd.S_reads' hS).2.1; exact this
   have ht := Kd.S_take hS (m := pre.length) Z6
   rw [List.take_left' rfl] at ht
   have h3 : Mx _ base g prims _ _ { m with cases := pre, leads := m.leads ++ c.f1.map (fun x => (⟨x, m.at_⟩ : Ld)) } := ⟨hM2.st.put 10 (loc_rows _ _ _ _) ht, rfl⟩
   have k10 := hM2.st.cell 10 rfl
   have f10 := hM2.st.free 10
   have hB3 := Below.setCell HB.out hX.out.st.hb (.slice A10 pre.length c10) (p := ⟨g, 10, none⟩)
   have p3 : (0 ≤ (pre.length : Int) ∧ (pre.length : Int) ≤ (c10 : Int)) = True := eq_true ⟨Z0, Z0⟩
   have p2 : ((pre.length : Int) ≤ (c10 : Int)) = True := eq_true Z0
   clear hall hS ht hF2 hcl HE HM hM2
   replace h3 := Aside0.mk h3
   replace hB3 := Aside0.mk hB3
   go_wp2_with fail
   refine (YW h3.out 197 0 ⟨#[]⟩ Z1e).mono ?_
   rintro e w4 ⟨rfl, hB4, o4, vs4, h4⟩
   go_wp2_with fail
   exact bodyPost_ret (v := .int .i64 0) ZT rfl ⟨hB3.out.trans hB4, rfl, o4, vs4, h4⟩
end
end Go.Proofs.Ytehmhgpogpbjiaa.Fcc
