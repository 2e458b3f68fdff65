/- branch: a word of ifs and begins. -/
import Derived.Test.Ytehmhgpogpbjiaafw13
import Derived.Test.Ytehmhgpogpbjiaafw02
namespace Go.Proofs.Ytehmhgpogpbjiaa.Fcc
open Go.RowKit Go.Proofs.YtehmhgpogpbjiaaW.PrintWords Go.Proofs.YtehmhgpogpbjiaaW.PrintLast Go.Proofs.YtehmhgpogpbjiaaW.PrintMore Go.Proofs.Ytehmhgpogpbjiaa.PFccTokens
set_option linter.unusedVariables false
set_option linter.unusedSimpArgs false
theorem info3 : (Try.prog.info? 3).map (fun i => (i.zero, i.size, i.bytes)) = some (some (.int .i64 0), 1, 8) := by kernel_rfl
/-- What a method leaves that also says whether it was its word. -/
def BPost (base g : Nat) (prims : List (ByteArray × Int)) (r : Res) (w : World) (e : Ending) (w' : World) : Prop :=
  Below base w w' ∧ match r with
    | .inl m => e = .returned (.tuple #[.int .i64 0, .bool true]) ∧ ∃ o vs, Mx w' base g prims o vs m
    | .inr c => e = .returned (.tuple #[.int .i64 c, .bool true])
section
variable {w : World} {base g : Nat} {prims : List (ByteArray × Int)} {o : Nat → Nat} {vs : List Value} {m : Mk}
set_option maxRecDepth 100000 in
set_option maxHeartbeats 2000000 in
theorem begin_calls (h : Mx w base g prims o vs m) (hl : m.out.length < 1099511627776) (hl2 : m.dests.length < 1099511627776) :
    Calls Try.prog 61 #[.pointer (some ⟨g, 0, none⟩), .string ⟨#[98, 101, 103, 105, 110]⟩] w (BPost base g prims (.inl ({ m with dests := m.dests ++ [m.at_] }.add 177)) w) := by
  obtain ⟨v0, A1, c1, b, A7, c7, A8, c8, A9, c9, A10, c10, A11, c11, rfl⟩ := h.cells
  have k1 := h.st.cell 1 rfl
  have k8 := h.st.cell 8 rfl
  have hX := Aside0.mk h
  clear h
  go_enter Try.func61, Try.ntmps61
  go_wp2_with (at_builtin; refine St.push (d := Kd.int .i64) (e := 3) (i := 8) hX.out.st rfl rfl (m.out.length : Int) [.int .i64 m.out.length] (fun _ => False) rfl Try.underlying53 info3 rfl (by decide) (by decide) rfl rfl rfl rfl rfl (by omega) ?_)
  rintro v2 w2 ⟨hst, hB2, ⟨A2, c2, rfl⟩, hb2, hg2⟩
  have hz : (m.dests ++ [(m.out.length : Int)]).length = m.dests.length + 1 := by simp
  rw [hz] at hst ⊢
  have hf := blk_frozen hb2 8
  have k8' : w2.cell? ⟨g, 8, none⟩ = some (.slice A8 m.dests.length c8) := (blk_cell hb2 8).trans rfl
  have h2 : Mx _ base g prims _ _ { m with dests := m.dests ++ [(m.out.length : Int)] } := ⟨hst, rfl⟩
  have hB3 : Below base w (w2.setCell ⟨g, 8, none⟩ (.slice A2 (m.dests.length + 1) c2)) := Below.setCell hB2 hX.out.st.hb _
  go_wp2_with fail
  refine (add_calls h2 177 0 ⟨#[]⟩ hl).mono ?_
  rintro e w4 ⟨rfl, hB4, o4, vs4, h4⟩
  go_wp2_with fail
  exact bodyPost_ret (v := .tuple #[.int .i64 0, .bool true]) (by simp [results, Try.results61, go_sem]) rfl ⟨hB3.trans hB4, rfl, o4, vs4, h4⟩
set_option maxRecDepth 100000 in
set_option maxHeartbeats 2000000 in
theorem if_calls (h : Mx w base g prims o vs m) (hl : m.out.length < 1099511627776) (hl2 : m.origs.length < 1099511627776) :
    Calls Try.prog 61 #[.pointer (some ⟨g, 0, none⟩), .string ⟨#[105, 102]⟩] w (BPost base g prims (.inl ({ m with origs := m.origs ++ [m.at_] }.add 20)) w) := by
  obtain ⟨v0, A1, c1, b, A7, c7, A8, c8, A9, c9, A10, c10, A11, c11, rfl⟩ := h.cells
  have k1 := h.st.cell 1 rfl
  have k8 := h.st.cell 7 rfl
  have hX := Aside0.mk h
  clear h
  go_enter Try.func61, Try.ntmps61
  go_wp2_with (at_builtin; refine St.push (d := Kd.int .i64) (e := 3) (i := 7) hX.out.st rfl rfl (m.out.length : Int) [.int .i64 m.out.length] (fun _ => False) rfl Try.underlying53 info3 rfl (by decide) (by decide) rfl rfl rfl rfl rfl (by omega) ?_)
  rintro v2 w2 ⟨hst, hB2, ⟨A2, c2, rfl⟩, hb2, hg2⟩
  have hz : (m.origs ++ [(m.out.length : Int)]).length = m.origs.length + 1 := by simp
  rw [hz] at hst ⊢
  have hf := blk_frozen hb2 7
  have k8' : w2.cell? ⟨g, 7, none⟩ = some (.slice A7 m.origs.length c7) := (blk_cell hb2 7).trans rfl
  have h2 : Mx _ base g prims _ _ { m with origs := m.origs ++ [(m.out.length : Int)] } := ⟨hst, rfl⟩
  have hB3 : Below base w (w2.setCell ⟨g, 7, none⟩ (.slice A2 (m.origs.length + 1) c2)) := Below.setCell hB2 hX.out.st.hb _
  go_wp2_with fail
  refine (add_calls h2 20 0 ⟨#[]⟩ hl).mono ?_
  rintro e w4 ⟨rfl, hB4, o4, vs4, h4⟩
  go_wp2_with fail
  exact bodyPost_ret (v := .tuple #[.int .i64 0, .bool true]) (by simp [results, Try.results61, go_sem]) rfl ⟨hB3.trans hB4, rfl, o4, vs4, h4⟩
set_option maxRecDepth 100000 in
set_option maxHeartbeats 2000000 in
theorem while_calls (h : Mx w base g prims o vs m) (hl : m.out.length < 1099511627776) (hl2 : m.origs.length < 1099511627776) :
    Calls Try.prog 61 #[.pointer (some ⟨g, 0, none⟩), .string ⟨#[119, 104, 105, 108, 101]⟩] w (BPost base g prims (.inl ({ m with origs := m.origs ++ [m.at_] }.add 20)) w) := by
  obtain ⟨v0, A1, c1, b, A7, c7, A8, c8, A9, c9, A10, c10, A11, c11, rfl⟩ := h.cells
  have k1 := h.st.cell 1 rfl
  have k8 := h.st.cell 7 rfl
  have hX := Aside0.mk h
  clear h
  go_enter Try.func61, Try.ntmps61
  go_wp2_with (at_builtin; refine St.push (d := Kd.int .i64) (e := 3) (i := 7) hX.out.st rfl rfl (m.out.length : Int) [.int .i64 m.out.length] (fun _ => False) rfl Try.underlying53 info3 rfl (by decide) (by decide) rfl rfl rfl rfl rfl (by omega) ?_)
  rintro v2 w2 ⟨hst, hB2, ⟨A2, c2, rfl⟩, hb2, hg2⟩
  have hz : (m.origs ++ [(m.out.length : Int)]).length = m.origs.length + 1 := by simp
  rw [hz] at hst ⊢
  have hf := blk_frozen hb2 7
  have k8' : w2.cell? ⟨g, 7, none⟩ = some (.slice A7 m.origs.length c7) := (blk_cell hb2 7).trans rfl
  have h2 : Mx _ base g prims _ _ { m with origs := m.origs ++ [(m.out.length : Int)] } := ⟨hst, rfl⟩
  have hB3 : Below base w (w2.setCell ⟨g, 7, none⟩ (.slice A2 (m.origs.length + 1) c2)) := Below.setCell hB2 hX.out.st.hb _
  go_wp2_with fail
  refine (add_calls h2 20 0 ⟨#[]⟩ hl).mono ?_
  rintro e w4 ⟨rfl, hB4, o4, vs4, h4⟩
  go_wp2_with fail
  exact bodyPost_ret (v := .tuple #[.int .i64 0, .bool true]) (by simp [results, Try.results61, go_sem]) rfl ⟨hB3.trans hB4, rfl, o4, vs4, h4⟩
set_option maxRecDepth 100000 in
set_option maxHeartbeats 2000000 in
theorem then_calls (h : Mx w base g prims o vs m) (hl : m.out.length < 1099511627776) (hl2 : m.leads.length < 1099511627776) :
    Calls Try.prog 61 #[.pointer (some ⟨g, 0, none⟩), .string ⟨#[116, 104, 101, 110]⟩] w (BPost base g prims (resolveP m) w) := by
  have hX := Aside0.mk h
  obtain ⟨v0, A1, c1, b, A7, c7, A8, c8, A9, c9, A10, c10, A11, c11, rfl⟩ := h.cells
  have k1 := h.st.cell 1 rfl
  clear h
  have hR := Aside0.mk (resolve_calls hX.out hl hl2)
  generalize resolveP m = r at hR ⊢
  go_enter Try.func61, Try.ntmps61
  go_wp2_with fail
  refine hR.out.mono ?_
  rcases r with m1 | c
  · rintro e w4 ⟨hB4, rfl, o4, vs4, h4⟩
    go_wp2_with fail
    exact bodyPost_ret (v := .tuple #[.int .i64 0, .bool true]) (by simp [results, Try.results61, go_sem]) rfl ⟨hB4, rfl, o4, vs4, h4⟩
  · rintro e w4 ⟨hB4, rfl⟩
    go_wp2_with fail
    exact bodyPost_ret (v := .tuple #[.int .i64 c, .bool true]) (by simp [results, Try.results61, go_sem]) rfl ⟨hB4, rfl⟩
set_option maxRecDepth 100000 in
set_option maxHeartbeats 2000000 in
theorem until_calls (h : Mx w base g prims o vs m) (hl : m.out.length < 1099511627776) (hl2 : m.leads.length < 1099511627776) :
    Calls Try.prog 61 #[.pointer (some ⟨g, 0, none⟩), .string ⟨#[117, 110, 116, 105, 108]⟩] w (BPost base g prims (backP m 20) w) := by
  have hX := Aside0.mk h
  obtain ⟨v0, A1, c1, b, A7, c7, A8, c8, A9, c9, A10, c10, A11, c11, rfl⟩ := h.cells
  have k1 := h.st.cell 1 rfl
  clear h
  have hR := Aside0.mk (back_calls 20 hX.out hl hl2)
  generalize backP m 20 = r at hR ⊢
  go_enter Try.func61, Try.ntmps61
  go_wp2_with fail
  refine hR.out.mono ?_
  rcases r with m1 | c
  · rintro e w4 ⟨hB4, rfl, o4, vs4, h4⟩
    go_wp2_with fail
    exact bodyPost_ret (v := .tuple #[.int .i64 0, .bool true]) (by simp [results, Try.results61, go_sem]) rfl ⟨hB4, rfl, o4, vs4, h4⟩
  · rintro e w4 ⟨hB4, rfl⟩
    go_wp2_with fail
    exact bodyPost_ret (v := .tuple #[.int .i64 c, .bool true]) (by simp [results, Try.results61, go_sem]) rfl ⟨hB4, rfl⟩
set_option maxRecDepth 100000 in
set_option maxHeartbeats 2000000 in
theorem again_calls (h : Mx w base g prims o vs m) (hl : m.out.length < 1099511627776) (hl2 : m.leads.length < 1099511627776) :
    Calls Try.prog 61 #[.pointer (some ⟨g, 0, none⟩), .string ⟨#[97, 103, 97, 105, 110]⟩] w (BPost base g prims (backP m 19) w) := by
  have hX := Aside0.mk h
  obtain ⟨v0, A1, c1, b, A7, c7, A8, c8, A9, c9, A10, c10, A11, c11, rfl⟩ := h.cells
  have k1 := h.st.cell 1 rfl
  clear h
  have hR := Aside0.mk (back_calls 19 hX.out hl hl2)
  generalize backP m 19 = r at hR ⊢
  go_enter Try.func61, Try.ntmps61
  go_wp2_with fail
  refine hR.out.mono ?_
  rcases r with m1 | c
  · rintro e w4 ⟨hB4, rfl, o4, vs4, h4⟩
    go_wp2_with fail
    exact bodyPost_ret (v := .tuple #[.int .i64 0, .bool true]) (by simp [results, Try.results61, go_sem]) rfl ⟨hB4, rfl, o4, vs4, h4⟩
  · rintro e w4 ⟨hB4, rfl⟩
    go_wp2_with fail
    exact bodyPost_ret (v := .tuple #[.int .i64 c, .bool true]) (by simp [results, Try.results61, go_sem]) rfl ⟨hB4, rfl⟩
theorem backP_cases (m : Mk) (c : Int) : backP m c = .inr 13 ∨ ∃ m1, backP m c = .inl m1 ∧ m1.out.length = m.out.length + 1 ∧ m1.leads.length = m.leads.length + 1 := by
  unfold backP
  cases popP m.dests with
  | none => exact .inl rfl
  | some p => exact .inr ⟨_, rfl, by simp [Mk.add], by simp [Mk.add]⟩
set_option maxRecDepth 100000 in
set_option maxHeartbeats 2000000 in
theorem repeat_calls (h : Mx w base g prims o vs m) (hl : m.out.length < 1099511627775) (hl2 : m.leads.length < 1099511627775) :
    Calls Try.prog 61 #[.pointer (some ⟨g, 0, none⟩), .string ⟨#[114, 101, 112, 101, 97, 116]⟩] w (BPost base g prims (match backP m 19 with | .inr e => .inr e | .inl m1 => resolveP m1) w) := by
  have hX := Aside0.mk h
  have hbk := Aside0.mk (backP_cases m 19)
  obtain ⟨v0, A1, c1, b, A7, c7, A8, c8, A9, c9, A10, c10, A11, c11, rfl⟩ := h.cells
  have k1 := h.st.cell 1 rfl
  clear h
  have hR := Aside0.mk (back_calls 19 hX.out (by omega) (by omega))
  rcases hbk.out with hb | ⟨m1, hb, h1, h2⟩
  · have hr : (match backP m 19 with | .inr e => .inr e | .inl m1 => resolveP m1 : Res) = .inr 13 := by rw [hb]
    rw [hr]
    rw [hb] at hR
    clear hr hbk hb
    go_enter Try.func61, Try.ntmps61
    go_wp2_with fail
    refine hR.out.mono ?_
    rintro e w4 ⟨hB4, rfl⟩
    go_wp2_with fail
    exact bodyPost_ret (v := .tuple #[.int .i64 13, .bool true]) (by simp [results, Try.results61, go_sem]) rfl ⟨hB4, rfl⟩
  · have hr : (match backP m 19 with | .inr e => .inr e | .inl m1 => resolveP m1 : Res) = resolveP m1 := by rw [hb]
    rw [hr]
    rw [hb] at hR
    clear hr hbk hb
    have hR2 : Aside0 (∀ W o4 vs4, Mx W base g prims o4 vs4 m1 → Calls Try.prog 87 #[.pointer (some ⟨g, 0, none⟩)] W (MPost base g prims (resolveP m1) W)) := ⟨fun W o4 vs4 h4 => resolve_calls h4 (by omega) (by omega)⟩
    generalize resolveP m1 = r at hR2 ⊢
    go_enter Try.func61, Try.ntmps61
    go_wp2_with fail
    refine hR.out.mono ?_
    rintro e w4 ⟨hB4, rfl, o4, vs4, h4⟩
    go_wp2_with fail
    refine (hR2.out _ _ _ h4).mono ?_
    rcases r with m2 | c
    · rintro e w5 ⟨hB5, rfl, o5, vs5, h5⟩
      go_wp2_with fail
      exact bodyPost_ret (v := .tuple #[.int .i64 0, .bool true]) (by simp [results, Try.results61, go_sem]) rfl ⟨hB4.trans hB5, rfl, o5, vs5, h5⟩
    · rintro e w5 ⟨hB5, rfl⟩
      go_wp2_with fail
      exact bodyPost_ret (v := .tuple #[.int .i64 c, .bool true]) (by simp [results, Try.results61, go_sem]) rfl ⟨hB4.trans hB5, rfl⟩
set_option maxRecDepth 100000 in
set_option maxHeartbeats 2000000 in
theorem branch_other (h : Mx w base g prims o vs m) (s : ByteArray) (hs : s.toList ∉ ([[105, 102], [119, 104, 105, 108, 101], [101, 108, 115, 101], [116, 104, 101, 110], [98, 101, 103, 105, 110], [117, 110, 116, 105, 108], [97, 103, 97, 105, 110], [114, 101, 112, 101, 97, 116]] : List (List UInt8))) :
    Calls Try.prog 61 #[.pointer (some ⟨g, 0, none⟩), .string s] w fun e w' => e = .returned (.tuple #[.int .i64 0, .bool false]) ∧ w' = w := by
  obtain ⟨v0, A1, c1, b, A7, c7, A8, c8, A9, c9, A10, c10, A11, c11, rfl⟩ := h.cells
  have k1 := h.st.cell 1 rfl
  clear h
  simp only [List.mem_cons, List.not_mem_nil, or_false, not_or] at hs
  obtain ⟨n0, n1, n2, n3, n4, n5, n6, n7⟩ := hs
  have b0 : (s.toList == ([105, 102] : List UInt8)) = false := beq_eq_false_iff_ne.mpr n0
  have b1 : (s.toList == ([119, 104, 105, 108, 101] : List UInt8)) = false := beq_eq_false_iff_ne.mpr n1
  have b2 : (s.toList == ([101, 108, 115, 101] : List UInt8)) = false := beq_eq_false_iff_ne.mpr n2
  have b3 : (s.toList == ([116, 104, 101, 110] : List UInt8)) = false := beq_eq_false_iff_ne.mpr n3
  have b4 : (s.toList == ([98, 101, 103, 105, 110] : List UInt8)) = false := beq_eq_false_iff_ne.mpr n4
  have b5 : (s.toList == ([117, 110, 116, 105, 108] : List UInt8)) = false := beq_eq_false_iff_ne.mpr n5
  have b6 : (s.toList == ([97, 103, 97, 105, 110] : List UInt8)) = false := beq_eq_false_iff_ne.mpr n6
  have b7 : (s.toList == ([114, 101, 112, 101, 97, 116] : List UInt8)) = false := beq_eq_false_iff_ne.mpr n7
  go_enter Try.func61, Try.ntmps61
  go_wp2_with fail
  exact bodyPost_ret (v := .tuple #[.int .i64 0, .bool false]) (by simp [results, Try.results61, go_sem]) rfl ⟨rfl, rfl⟩
end
end Go.Proofs.Ytehmhgpogpbjiaa.Fcc

/- An append of a row that is read to a row that is a struct's field. -/
namespace Go.Proofs.Ytehmhgpogpbjiaa.Fcc
open Go.RowKit Go.Proofs.YtehmhgpogpbjiaaW.PrintWords Go.Proofs.YtehmhgpogpbjiaaW.PrintLast Go.Proofs.YtehmhgpogpbjiaaW.PrintMore Go.Proofs.Ytehmhgpogpbjiaa.PFccTokens
set_option linter.unusedVariables false
set_option linter.unusedSimpArgs false
/-- A row that is written out. -/
theorem lit_C {α : Type} (d : Kd α) (e : Nat) (W : World) (l : List α) (cs : List Value) (hl : l.length ≤ 140737488351232) (hr : Reps (d.K (W.alloc (.cells cs.toArray e))) d.sz l cs) :
    d.C (W.alloc (.cells cs.toArray e)) (some ⟨W.heap.size, 0, none⟩) l.length l := by
  refine ⟨rfl, by omega, fun _ => ⟨_, rfl, fun j p hj => ⟨_, d.K_len (hr.2 j p hj), hr.2 j p hj, fun i u hu => ?_⟩⟩⟩
  have hb := blk_new W (.cells cs.toArray e)
  have e1 : (⟨W.heap.size, 0, none⟩ : Addr).add (j * d.sz + i) = ⟨W.heap.size, j * d.sz + i, none⟩ := by rw [add_at, Nat.zero_add]
  rw [e1, blk_cell hb]
  rw [List.getElem?_take] at hu
  split at hu
  · rw [List.getElem?_drop] at hu
    simpa using hu
  · cases hu
section
variable {α : Type} {d : Kd α} {w : World} {base g T z i e t bytes : Nat} {vs : List Value} {o : Nat → Nat} {F : List Fld} {xs : List α} {v zv : Value}
theorem St.pushN {P : Program} {ops : Array Oper} {rest : List Oper} {Q : Exit → Act → World → Prop} {a : Act} {q : Oper} {s x : Operand} (h : St w base g T z vs o F) (hv : vs[i]? = some v) (hF : F[i]? = some (rowF d e base xs)) (ys : List α) (A : Option Addr) (m c : Nat)
    (ht : P.underlying t = some (.slice e)) (hinfo : (P.info? e).map (fun i => (i.zero, i.size, i.bytes)) = some (some zv, d.sz, bytes)) (hz : zv.cells.size = d.sz) (hs0 : 0 < d.sz) (hb0 : 0 < bytes)
    (hgd : q.guard = none) (hq : q.op = .call { callee := .builtin .append, args := #[s, x], argTypes := #[t, t] }) (hs : a.eval s = v) (hx : a.eval x = .slice A m c)
    (hC : d.C w A m ys) (hKM : ∀ x cs, d.K w x cs → d.M w base (fun _ => False) x cs) (hl : (xs.length + m) * bytes ≤ 140737488355328)
    (k : ∀ v' w2, Pushed d e base g T z i w vs o F v (xs ++ ys) v' w2 → wpList P ops Q rest (a.put q.dst v') w2) : wpList P ops Q (q :: rest) a w := by
  refine Kd.R_append_rows d (Rr := d.K w) (w0 := w) (W := w) base hgd s x t e zv bytes hq ht hinfo hz hs0 hb0 v xs ys A m c (fun k => new_ w o (z + 1 + i) k = z + 1 + i) (fun _ => False) hs hx (h.oldR hv hF) hC hKM (fun _ h => h.elim) (fun k hk => new_ge hk) (Below.refl _ _) h.base_le hl ?_
  intro v' w2 hR hB hg _
  refine k v' w2 ⟨h.pushed hv hF hg hR, hB, ?_, ?_, hg⟩
  · obtain ⟨A, c, rfl⟩ := Kd.R_slice hR
    exact ⟨A, c, rfl⟩
  · refine blk_grown h.box hg (fun e2 => ?_)
    have h1 := (h.row i v _ hv hF : Kd.R d e w base _ v xs).1 g e2.symm
    have h2 := h.own
    omega
end
end Go.Proofs.Ytehmhgpogpbjiaa.Fcc

/- branch: else. -/
namespace Go.Proofs.Ytehmhgpogpbjiaa.Fcc
open Go.RowKit Go.Proofs.YtehmhgpogpbjiaaW.PrintWords Go.Proofs.YtehmhgpogpbjiaaW.PrintLast Go.Proofs.YtehmhgpogpbjiaaW.PrintMore Go.Proofs.Ytehmhgpogpbjiaa.PFccTokens
set_option linter.unusedVariables false
set_option linter.unusedSimpArgs false
theorem ints2 (W : World) (x y : Int) : Reps ((Kd.int .i64).K W) 1 [x, y] [.int .i64 x, .int .i64 y] :=
  ⟨rfl, fun j p hj => match j, hj with
    | 0, hj => by cases hj; rfl
    | 1, hj => by cases hj; rfl
    | j + 2, hj => by simp at hj⟩
theorem leads2 (W : World) (x y : S77) : Reps (k77.K W) 2 [x, y] [.int .i64 x.f0, .int .i64 x.f1, .int .i64 y.f0, .int .i64 y.f1] :=
  ⟨rfl, fun j p hj => match j, hj with
    | 0, hj => by cases hj; exact k77_mk _ _
    | 1, hj => by cases hj; exact k77_mk _ _
    | j + 2, hj => by simp at hj⟩
section
variable {w : World} {base g : Nat} {prims : List (ByteArray × Int)} {o : Nat → Nat} {vs : List Value} {m : Mk}
set_option maxRecDepth 100000 in
set_option maxHeartbeats 2000000 in
theorem else_calls (h : Mx w base g prims o vs m) (hl : m.out.length < 1099511627770) (hl2 : m.leads.length < 1099511627776) (hl3 : m.origs.length < 1099511627770) :
    Calls Try.prog 61 #[.pointer (some ⟨g, 0, none⟩), .string ⟨#[101, 108, 115, 101]⟩] w (BPost base g prims (match popP m.origs with | none => .inr 13 | some (x, l) => resolveP ({ m with origs := l ++ [m.at_, x] }.add 19)) w) := by
  rcases snoc_cases m.origs with ho | ⟨xs, x, ho⟩
  · have hr : (match popP m.origs with | none => .inr 13 | some (x, l) => resolveP ({ m with origs := l ++ [m.at_, x] }.add 19) : Res) = .inr 13 := by rw [ho]; rfl
    rw [hr]
    have hF : (mkF base prims m)[7]? = some (rowF (Kd.int .i64) 3 base []) := by rw [← ho]; rfl
    obtain ⟨v0, A1, c1, b, A7, c7, A8, c8, A9, c9, A10, c10, A11, c11, rfl⟩ := h.cells
    have k1 := h.st.cell 1 rfl
    have hp := h.st.pop_none (i := 7) rfl hF
    clear hF hr h ho
    go_enter Try.func61, Try.ntmps61
    go_wp2_with fail
    refine hp.mono ?_
    rintro e w1 ⟨rfl, rfl⟩
    go_wp2_with fail
    exact bodyPost_ret (v := .tuple #[.int .i64 13, .bool true]) (by simp [results, Try.results61, go_sem]) rfl ⟨Below.refl _ _, rfl⟩
  · have hr : (match popP m.origs with | none => .inr 13 | some (x, l) => resolveP ({ m with origs := l ++ [m.at_, x] }.add 19) : Res) = resolveP ({ m with origs := xs ++ [m.at_, x] }.add 19) := by rw [ho, popP_snoc]
    rw [hr]
    have hF : (mkF base prims m)[7]? = some (rowF (Kd.int .i64) 3 base (xs ++ [x])) := by rw [← ho]; rfl
    clear hr
    obtain ⟨r, R0⟩ : ∃ r, resolveP ({ m with origs := xs ++ [m.at_, x] }.add 19) = r := ⟨_, rfl⟩
    rw [R0]
    have R := Aside0.mk R0
    clear R0
    obtain ⟨v, hv⟩ : ∃ v, vs[7]? = some v := ⟨_, List.getElem?_eq_getElem (by rw [h.len]; decide)⟩
    have hp := h.st.pop hv hF
    have hxl : xs.length < 1099511627770 := by rw [ho] at hl3; simp at hl3; omega
    clear hF hv
    have hX := Aside0.mk h
    have hHo := Aside0.mk ho
    have k1 : ∃ A1 c1, w.cell? ⟨g, 1, none⟩ = some (.slice A1 m.out.length c1) := by
      obtain ⟨v0, A1, c1, b, A7, c7, A8, c8, A9, c9, A10, c10, A11, c11, rfl⟩ := h.cells
      exact ⟨_, _, h.st.cell 1 rfl⟩
    obtain ⟨A1, c1, k1⟩ := k1
    clear h ho
    go_enter Try.func61, Try.ntmps61
    go_wp2_with fail
    refine hp.mono ?_
    rintro e w1 ⟨rfl, v', hst, hB1⟩
    have h1 : Mx w1 base g prims o (vs.set 7 v') { m with origs := xs } := ⟨hst, by rw [List.length_set]; exact hX.out.len⟩
    have hgb := hX.out.st.hb
    clear hst hp k1
    generalize hm1 : ({ m with origs := xs } : Mk) = m1 at h1
    have hmo := Aside0.mk (show m1.out = m.out by rw [← hm1])
    have hml := Aside0.mk (show m1.leads = m.leads by rw [← hm1])
    have hmx := Aside0.mk (show m1.origs = xs by rw [← hm1])
    generalize vs.set 7 v' = vs1 at h1
    obtain ⟨v0, A1, c1, b, A7, c7, A8, c8, A9, c9, A10, c10, A11, c11, rfl⟩ := h1.cells
    have k7 := h1.st.cell 7 rfl
    have hY := Aside0.mk h1
    have hm1' := Aside0.mk hm1
    clear h1 hm1
    have hsz := Below.refl w1.heap.size w1
    have hBn := below_alloc hsz (.cells #[.int .i64 m.out.length, .int .i64 x] 3)
    have hLC := lit_C (Kd.int .i64) 3 w1 [(m.out.length : Int), x] [.int .i64 m.out.length, .int .i64 x] (by simp) (ints2 _ _ _)
    have hb1 := hY.out.st.base_le
    have hn : m1.origs.length < 1099511627770 := by rw [hmx.out]; exact hxl
    go_wp2_with (at_builtin; refine St.pushN (d := Kd.int .i64) (e := 3) (i := 7) (hY.out.below hBn).st rfl rfl [(m.out.length : Int), x] (some ⟨w1.heap.size, 0, none⟩) 2 2 Try.underlying53 info3 rfl (by decide) (by decide) rfl rfl rfl rfl hLC (fun _ _ h => h) (by omega) ?_)
    rintro v2 w2 ⟨hst, hB2, ⟨A2, c2, rfl⟩, hb2, hg2⟩
    have hz : (m1.origs ++ [(m.out.length : Int), x]).length = m1.origs.length + 2 := by simp
    rw [hz] at hst ⊢
    have hf := blk_frozen hb2 7
    have k7' : w2.cell? ⟨g, 7, none⟩ = some (.slice A7 m1.origs.length c7) := (blk_cell hb2 7).trans rfl
    have h2 : Mx _ base g prims _ _ { m1 with origs := m1.origs ++ [(m.out.length : Int), x] } := ⟨hst, rfl⟩
    have hB3 : Below base w (w2.setCell ⟨g, 7, none⟩ (.slice A2 (m1.origs.length + 2) c2)) := Below.setCell (hB1.trans ((Below.mono hBn hb1).trans hB2)) hgb _
    clear hLC k7 hBn hsz hb2 hg2
    go_wp2_with fail
    refine (add_calls h2 19 0 ⟨#[]⟩ (by show m1.out.length < _; rw [hmo.out]; omega)).mono ?_
    rintro e w4 ⟨rfl, hB4, o4, vs4, h4⟩
    have he : (({ m1 with origs := m1.origs ++ [(m.out.length : Int), x] } : Mk).add 19 0 ⟨#[]⟩) = ({ m with origs := xs ++ [m.at_, x] } : Mk).add 19 := by rw [← hm1'.out]; rfl
    rw [he] at h4
    have hR := resolve_calls h4 (by simp [Mk.add]; omega) (by simp [Mk.add]; omega)
    rw [R.out] at hR
    clear he h4
    go_wp2_with fail
    refine hR.mono ?_
    rcases r with m2 | c
    · rintro e w5 ⟨hB5, rfl, o5, vs5, h5⟩
      go_wp2_with fail
      exact bodyPost_ret (v := .tuple #[.int .i64 0, .bool true]) (by simp [results, Try.results61, go_sem]) rfl ⟨hB3.trans (hB4.trans hB5), rfl, o5, vs5, h5⟩
    · rintro e w5 ⟨hB5, rfl⟩
      go_wp2_with fail
      exact bodyPost_ret (v := .tuple #[.int .i64 c, .bool true]) (by simp [results, Try.results61, go_sem]) rfl ⟨hB3.trans (hB4.trans hB5), rfl⟩
end
end Go.Proofs.Ytehmhgpogpbjiaa.Fcc

/- loop: a word of loops. -/
namespace Go.Proofs.Ytehmhgpogpbjiaa.Fcc
open Go.RowKit Go.Proofs.YtehmhgpogpbjiaaW.PrintWords Go.Proofs.YtehmhgpogpbjiaaW.PrintLast Go.Proofs.YtehmhgpogpbjiaaW.PrintMore Go.Proofs.Ytehmhgpogpbjiaa.PFccTokens
set_option linter.unusedVariables false
set_option linter.unusedSimpArgs false
section
variable {w : World} {base g : Nat} {prims : List (ByteArray × Int)} {o : Nat → Nat} {vs : List Value} {m : Mk}
set_option maxRecDepth 100000 in
set_option maxHeartbeats 2000000 in
theorem do_calls (h : Mx w base g prims o vs m) (hl : m.out.length < 1099511627776) (hl2 : m.loops.length < 1099511627776) :
    Calls Try.prog 62 #[.pointer (some ⟨g, 0, none⟩), .string ⟨#[100, 111]⟩] w (BPost base g prims (.inl ({ m with loops := m.loops ++ [m.at_] }.add 23)) w) := by
  obtain ⟨v0, A1, c1, b, A7, c7, A8, c8, A9, c9, A10, c10, A11, c11, rfl⟩ := h.cells
  have k1 := h.st.cell 1 rfl
  have k8 := h.st.cell 9 rfl
  have hX := Aside0.mk h
  clear h
  go_enter Try.func62, Try.ntmps62
  go_wp2_with (at_builtin; refine St.push (d := Kd.int .i64) (e := 3) (i := 9) hX.out.st rfl rfl (m.out.length : Int) [.int .i64 m.out.length] (fun _ => False) rfl Try.underlying53 info3 rfl (by decide) (by decide) rfl rfl rfl rfl rfl (by omega) ?_)
  rintro v2 w2 ⟨hst, hB2, ⟨A2, c2, rfl⟩, hb2, hg2⟩
  have hz : (m.loops ++ [(m.out.length : Int)]).length = m.loops.length + 1 := by simp
  rw [hz] at hst ⊢
  have hf := blk_frozen hb2 9
  have k8' : w2.cell? ⟨g, 9, none⟩ = some (.slice A9 m.loops.length c9) := (blk_cell hb2 9).trans rfl
  have h2 : Mx _ base g prims _ _ { m with loops := m.loops ++ [(m.out.length : Int)] } := ⟨hst, rfl⟩
  have hB3 : Below base w (w2.setCell ⟨g, 9, none⟩ (.slice A2 (m.loops.length + 1) c2)) := Below.setCell hB2 hX.out.st.hb _
  go_wp2_with fail
  refine (add_calls h2 23 0 ⟨#[]⟩ hl).mono ?_
  rintro e w4 ⟨rfl, hB4, o4, vs4, h4⟩
  go_wp2_with fail
  exact bodyPost_ret (v := .tuple #[.int .i64 0, .bool true]) (by simp [results, Try.results62, go_sem]) rfl ⟨hB3.trans hB4, rfl, o4, vs4, h4⟩
set_option maxRecDepth 100000 in
set_option maxHeartbeats 2000000 in
theorem qdo_calls (h : Mx w base g prims o vs m) (hl : m.out.length < 1099511627776) (hl2 : m.loops.length < 1099511627776) :
    Calls Try.prog 62 #[.pointer (some ⟨g, 0, none⟩), .string ⟨#[63, 100, 111]⟩] w (BPost base g prims (.inl ({ m with loops := m.loops ++ [m.at_] }.add 24)) w) := by
  obtain ⟨v0, A1, c1, b, A7, c7, A8, c8, A9, c9, A10, c10, A11, c11, rfl⟩ := h.cells
  have k1 := h.st.cell 1 rfl
  have k8 := h.st.cell 9 rfl
  have hX := Aside0.mk h
  clear h
  go_enter Try.func62, Try.ntmps62
  go_wp2_with (at_builtin; refine St.push (d := Kd.int .i64) (e := 3) (i := 9) hX.out.st rfl rfl (m.out.length : Int) [.int .i64 m.out.length] (fun _ => False) rfl Try.underlying53 info3 rfl (by decide) (by decide) rfl rfl rfl rfl rfl (by omega) ?_)
  rintro v2 w2 ⟨hst, hB2, ⟨A2, c2, rfl⟩, hb2, hg2⟩
  have hz : (m.loops ++ [(m.out.length : Int)]).length = m.loops.length + 1 := by simp
  rw [hz] at hst ⊢
  have hf := blk_frozen hb2 9
  have k8' : w2.cell? ⟨g, 9, none⟩ = some (.slice A9 m.loops.length c9) := (blk_cell hb2 9).trans rfl
  have h2 : Mx _ base g prims _ _ { m with loops := m.loops ++ [(m.out.length : Int)] } := ⟨hst, rfl⟩
  have hB3 : Below base w (w2.setCell ⟨g, 9, none⟩ (.slice A2 (m.loops.length + 1) c2)) := Below.setCell hB2 hX.out.st.hb _
  go_wp2_with fail
  refine (add_calls h2 24 0 ⟨#[]⟩ hl).mono ?_
  rintro e w4 ⟨rfl, hB4, o4, vs4, h4⟩
  go_wp2_with fail
  exact bodyPost_ret (v := .tuple #[.int .i64 0, .bool true]) (by simp [results, Try.results62, go_sem]) rfl ⟨hB3.trans hB4, rfl, o4, vs4, h4⟩
set_option maxRecDepth 100000 in
set_option maxHeartbeats 2000000 in
theorem leave_calls (h : Mx w base g prims o vs m) (hl : m.out.length < 1099511627776) (hl2 : m.loops.length < 1099511627776) (hne : m.loops ≠ []) :
    Calls Try.prog 62 #[.pointer (some ⟨g, 0, none⟩), .string ⟨#[108, 101, 97, 118, 101]⟩] w (BPost base g prims (.inl (m.add 27)) w) := by
  have hX := Aside0.mk h
  obtain ⟨v0, A1, c1, b, A7, c7, A8, c8, A9, c9, A10, c10, A11, c11, rfl⟩ := h.cells
  have k1 := h.st.cell 1 rfl
  have k9 := h.st.cell 9 rfl
  have hp : 0 < m.loops.length := List.length_pos_iff.2 hne
  have e0 : ((m.loops.length : Int) == 0) = false := by simp; exact hne
  clear h hne
  go_enter Try.func62, Try.ntmps62
  go_wp2_with fail
  refine (add_calls hX.out 27 0 ⟨#[]⟩ hl).mono ?_
  rintro e w4 ⟨rfl, hB4, o4, vs4, h4⟩
  go_wp2_with fail
  exact bodyPost_ret (v := .tuple #[.int .i64 0, .bool true]) (by simp [results, Try.results62, go_sem]) rfl ⟨hB4, rfl, o4, vs4, h4⟩
end
end Go.Proofs.Ytehmhgpogpbjiaa.Fcc

/- loop: the end of a loop, and what is no word of loops. -/
namespace Go.Proofs.Ytehmhgpogpbjiaa.Fcc
open Go.RowKit Go.Proofs.YtehmhgpogpbjiaaW.PrintWords Go.Proofs.YtehmhgpogpbjiaaW.PrintLast Go.Proofs.YtehmhgpogpbjiaaW.PrintMore Go.Proofs.Ytehmhgpogpbjiaa.PFccTokens
set_option linter.unusedVariables false
set_option linter.unusedSimpArgs false
section
variable {w : World} {base g : Nat} {prims : List (ByteArray × Int)} {o : Nat → Nat} {vs : List Value} {m : Mk}
set_option maxRecDepth 100000 in
set_option maxHeartbeats 2000000 in
theorem loop_calls (h : Mx w base g prims o vs m) (hl : m.out.length < 1099511627770) (hl2 : m.leads.length < 1099511627770) :
    Calls Try.prog 62 #[.pointer (some ⟨g, 0, none⟩), .string ⟨#[108, 111, 111, 112]⟩] w (BPost base g prims (match popP m.loops with | none => .inr 13 | some (x, l) => .inl ({ m with loops := l, leads := m.leads ++ ([⟨m.at_, x⟩, ⟨x, m.at_⟩] : List Ld) }.add 21)) w) := by
  rcases snoc_cases m.loops with ho | ⟨xs, x, ho⟩
  · have hr : (match popP m.loops with | none => .inr 13 | some (x, l) => .inl ({ m with loops := l, leads := m.leads ++ ([⟨m.at_, x⟩, ⟨x, m.at_⟩] : List Ld) }.add 21) : Res) = .inr 13 := by rw [ho]; rfl
    rw [hr]
    have hF : (mkF base prims m)[9]? = some (rowF (Kd.int .i64) 3 base []) := by rw [← ho]; rfl
    obtain ⟨v0, A1, c1, b, A7, c7, A8, c8, A9, c9, A10, c10, A11, c11, rfl⟩ := h.cells
    have k1 := h.st.cell 1 rfl
    have hp := h.st.pop_none (i := 9) rfl hF
    clear hF hr h ho
    go_enter Try.func62, Try.ntmps62
    go_wp2_with fail
    refine hp.mono ?_
    rintro e w1 ⟨rfl, rfl⟩
    go_wp2_with fail
    exact bodyPost_ret (v := .tuple #[.int .i64 13, .bool true]) (by simp [results, Try.results62, go_sem]) rfl ⟨Below.refl _ _, rfl⟩
  · have hr : (match popP m.loops with | none => .inr 13 | some (x, l) => .inl ({ m with loops := l, leads := m.leads ++ ([⟨m.at_, x⟩, ⟨x, m.at_⟩] : List Ld) }.add 21) : Res) = .inl ({ m with loops := xs, leads := m.leads ++ ([⟨m.at_, x⟩, ⟨x, m.at_⟩] : List Ld) }.add 21) := by rw [ho, popP_snoc]
    rw [hr]
    have hF : (mkF base prims m)[9]? = some (rowF (Kd.int .i64) 3 base (xs ++ [x])) := by rw [← ho]; rfl
    clear hr
    obtain ⟨v, hv⟩ : ∃ v, vs[9]? = some v := ⟨_, List.getElem?_eq_getElem (by rw [h.len]; decide)⟩
    have hp := h.st.pop hv hF
    clear hF hv
    have hX := Aside0.mk h
    have k1 : ∃ A1 c1, w.cell? ⟨g, 1, none⟩ = some (.slice A1 m.out.length c1) := by
      obtain ⟨v0, A1, c1, b, A7, c7, A8, c8, A9, c9, A10, c10, A11, c11, rfl⟩ := h.cells
      exact ⟨_, _, h.st.cell 1 rfl⟩
    obtain ⟨A1, c1, k1⟩ := k1
    clear h ho
    go_enter Try.func62, Try.ntmps62
    go_wp2_with fail
    refine hp.mono ?_
    rintro e w1 ⟨rfl, v', hst, hB1⟩
    have h1 : Mx w1 base g prims o (vs.set 9 v') { m with loops := xs } := ⟨hst, by rw [List.length_set]; exact hX.out.len⟩
    have hgb := hX.out.st.hb
    clear hst hp k1
    generalize hm1 : ({ m with loops := xs } : Mk) = m1 at h1
    have hmo := Aside0.mk (show m1.out = m.out by rw [← hm1])
    have hml := Aside0.mk (show m1.leads = m.leads by rw [← hm1])
    generalize vs.set 9 v' = vs1 at h1
    obtain ⟨v0, A1, c1, b, A7, c7, A8, c8, A9, c9, A10, c10, A11, c11, rfl⟩ := h1.cells
    have k11 := h1.st.cell 11 rfl
    have hY := Aside0.mk h1
    have hm1' := Aside0.mk hm1
    clear h1 hm1
    have hsz := Below.refl w1.heap.size w1
    have hBn := below_alloc hsz (.cells #[.int .i64 m.out.length, .int .i64 x, .int .i64 x, .int .i64 m.out.length] 101)
    have hLC := lit_C k77 101 w1 [⟨m.out.length, x⟩, ⟨x, m.out.length⟩] [.int .i64 m.out.length, .int .i64 x, .int .i64 x, .int .i64 m.out.length] (by simp) (leads2 _ _ _)
    have hb1 := hY.out.st.base_le
    have hn : m1.leads.length < 1099511627770 := by rw [hml.out]; exact hl2
    go_wp2_with (at_builtin; refine St.pushN (d := k77) (e := 101) (i := 11) (hY.out.below hBn).st rfl rfl [⟨m.out.length, x⟩, ⟨x, m.out.length⟩] (some ⟨w1.heap.size, 0, none⟩) 2 2 Try.underlying55 info101 rfl (by decide) (by decide) rfl rfl rfl rfl hLC (fun x cs h => by rw [k77_open h]; exact k77_mkM _ _ _ _) (by omega) ?_)
    rintro v2 w2 ⟨hst, hB2, ⟨A2, c2, rfl⟩, hb2, hg2⟩
    have hz : (m1.leads ++ ([⟨m.out.length, x⟩, ⟨x, m.out.length⟩] : List Ld)).length = m1.leads.length + 2 := by simp
    rw [hz] at hst ⊢
    have hf := blk_frozen hb2 11
    have k11' : w2.cell? ⟨g, 11, none⟩ = some (.slice A11 m1.leads.length c11) := (blk_cell hb2 11).trans rfl
    have h2 : Mx _ base g prims _ _ { m1 with leads := m1.leads ++ ([⟨m.out.length, x⟩, ⟨x, m.out.length⟩] : List Ld) } := ⟨hst, rfl⟩
    have hB3 : Below base w (w2.setCell ⟨g, 11, none⟩ (.slice A2 (m1.leads.length + 2) c2)) := Below.setCell (hB1.trans ((Below.mono hBn hb1).trans hB2)) hgb _
    clear hLC k11 hBn hsz hb2 hg2
    go_wp2_with fail
    refine (add_calls h2 21 0 ⟨#[]⟩ (by show m1.out.length < _; rw [hmo.out]; omega)).mono ?_
    rintro e w4 ⟨rfl, hB4, o4, vs4, h4⟩
    have he : (({ m1 with leads := m1.leads ++ ([⟨m.out.length, x⟩, ⟨x, m.out.length⟩] : List Ld) } : Mk).add 21 0 ⟨#[]⟩) = ({ m with loops := xs, leads := m.leads ++ ([⟨m.at_, x⟩, ⟨x, m.at_⟩] : List Ld) } : Mk).add 21 := by rw [← hm1'.out]; rfl
    rw [he] at h4
    clear he
    go_wp2_with fail
    exact bodyPost_ret (v := .tuple #[.int .i64 0, .bool true]) (by simp [results, Try.results62, go_sem]) rfl ⟨hB3.trans hB4, rfl, o4, vs4, h4⟩
set_option maxRecDepth 100000 in
set_option maxHeartbeats 2000000 in
theorem ploop_calls (h : Mx w base g prims o vs m) (hl : m.out.length < 1099511627770) (hl2 : m.leads.length < 1099511627770) :
    Calls Try.prog 62 #[.pointer (some ⟨g, 0, none⟩), .string ⟨#[43, 108, 111, 111, 112]⟩] w (BPost base g prims (match popP m.loops with | none => .inr 13 | some (x, l) => .inl ({ m with loops := l, leads := m.leads ++ ([⟨m.at_, x⟩, ⟨x, m.at_⟩] : List Ld) }.add 22)) w) := by
  rcases snoc_cases m.loops with ho | ⟨xs, x, ho⟩
  · have hr : (match popP m.loops with | none => .inr 13 | some (x, l) => .inl ({ m with loops := l, leads := m.leads ++ ([⟨m.at_, x⟩, ⟨x, m.at_⟩] : List Ld) }.add 22) : Res) = .inr 13 := by rw [ho]; rfl
    rw [hr]
    have hF : (mkF base prims m)[9]? = some (rowF (Kd.int .i64) 3 base []) := by rw [← ho]; rfl
    obtain ⟨v0, A1, c1, b, A7, c7, A8, c8, A9, c9, A10, c10, A11, c11, rfl⟩ := h.cells
    have k1 := h.st.cell 1 rfl
    have hp := h.st.pop_none (i := 9) rfl hF
    clear hF hr h ho
    go_enter Try.func62, Try.ntmps62
    go_wp2_with fail
    refine hp.mono ?_
    rintro e w1 ⟨rfl, rfl⟩
    go_wp2_with fail
    exact bodyPost_ret (v := .tuple #[.int .i64 13, .bool true]) (by simp [results, Try.results62, go_sem]) rfl ⟨Below.refl _ _, rfl⟩
  · have hr : (match popP m.loops with | none => .inr 13 | some (x, l) => .inl ({ m with loops := l, leads := m.leads ++ ([⟨m.at_, x⟩, ⟨x, m.at_⟩] : List Ld) }.add 22) : Res) = .inl ({ m with loops := xs, leads := m.leads ++ ([⟨m.at_, x⟩, ⟨x, m.at_⟩] : List Ld) }.add 22) := by rw [ho, popP_snoc]
    rw [hr]
    have hF : (mkF base prims m)[9]? = some (rowF (Kd.int .i64) 3 base (xs ++ [x])) := by rw [← ho]; rfl
    clear hr
    obtain ⟨v, hv⟩ : ∃ v, vs[9]? = some v := ⟨_, List.getElem?_eq_getElem (by rw [h.len]; decide)⟩
    have hp := h.st.pop hv hF
    clear hF hv
    have hX := Aside0.mk h
    have k1 : ∃ A1 c1, w.cell? ⟨g, 1, none⟩ = some (.slice A1 m.out.length c1) := by
      obtain ⟨v0, A1, c1, b, A7, c7, A8, c8, A9, c9, A10, c10, A11, c11, rfl⟩ := h.cells
      exact ⟨_, _, h.st.cell 1 rfl⟩
    obtain ⟨A1, c1, k1⟩ := k1
    clear h ho
    go_enter Try.func62, Try.ntmps62
    go_wp2_with fail
    refine hp.mono ?_
    rintro e w1 ⟨rfl, v', hst, hB1⟩
    have h1 : Mx w1 base g prims o (vs.set 9 v') { m with loops := xs } := ⟨hst, by rw [List.length_set]; exact hX.out.len⟩
    have hgb := hX.out.st.hb
    clear hst hp k1
    generalize hm1 : ({ m with loops := xs } : Mk) = m1 at h1
    have hmo := Aside0.mk (show m1.out = m.out by rw [← hm1])
    have hml := Aside0.mk (show m1.leads = m.leads by rw [← hm1])
    generalize vs.set 9 v' = vs1 at h1
    obtain ⟨v0, A1, c1, b, A7, c7, A8, c8, A9, c9, A10, c10, A11, c11, rfl⟩ := h1.cells
    have k11 := h1.st.cell 11 rfl
    have hY := Aside0.mk h1
    have hm1' := Aside0.mk hm1
    clear h1 hm1
    have hsz := Below.refl w1.heap.size w1
    have hBn := below_alloc hsz (.cells #[.int .i64 m.out.length, .int .i64 x, .int .i64 x, .int .i64 m.out.length] 101)
    have hLC := lit_C k77 101 w1 [⟨m.out.length, x⟩, ⟨x, m.out.length⟩] [.int .i64 m.out.length, .int .i64 x, .int .i64 x, .int .i64 m.out.length] (by simp) (leads2 _ _ _)
    have hb1 := hY.out.st.base_le
    have hn : m1.leads.length < 1099511627770 := by rw [hml.out]; exact hl2
    go_wp2_with (at_builtin; refine St.pushN (d := k77) (e := 101) (i := 11) (hY.out.below hBn).st rfl rfl [⟨m.out.length, x⟩, ⟨x, m.out.length⟩] (some ⟨w1.heap.size, 0, none⟩) 2 2 Try.underlying55 info101 rfl (by decide) (by decide) rfl rfl rfl rfl hLC (fun x cs h => by rw [k77_open h]; exact k77_mkM _ _ _ _) (by omega) ?_)
    rintro v2 w2 ⟨hst, hB2, ⟨A2, c2, rfl⟩, hb2, hg2⟩
    have hz : (m1.leads ++ ([⟨m.out.length, x⟩, ⟨x, m.out.length⟩] : List Ld)).length = m1.leads.length + 2 := by simp
    rw [hz] at hst ⊢
    have hf := blk_frozen hb2 11
    have k11' : w2.cell? ⟨g, 11, none⟩ = some (.slice A11 m1.leads.length c11) := (blk_cell hb2 11).trans rfl
    have h2 : Mx _ base g prims _ _ { m1 with leads := m1.leads ++ ([⟨m.out.length, x⟩, ⟨x, m.out.length⟩] : List Ld) } := ⟨hst, rfl⟩
    have hB3 : Below base w (w2.setCell ⟨g, 11, none⟩ (.slice A2 (m1.leads.length + 2) c2)) := Below.setCell (hB1.trans ((Below.mono hBn hb1).trans hB2)) hgb _
    clear hLC k11 hBn hsz hb2 hg2
    go_wp2_with fail
    refine (add_calls h2 22 0 ⟨#[]⟩ (by show m1.out.length < _; rw [hmo.out]; omega)).mono ?_
    rintro e w4 ⟨rfl, hB4, o4, vs4, h4⟩
    have he : (({ m1 with leads := m1.leads ++ ([⟨m.out.length, x⟩, ⟨x, m.out.length⟩] : List Ld) } : Mk).add 22 0 ⟨#[]⟩) = ({ m with loops := xs, leads := m.leads ++ ([⟨m.at_, x⟩, ⟨x, m.at_⟩] : List Ld) } : Mk).add 22 := by rw [← hm1'.out]; rfl
    rw [he] at h4
    clear he
    go_wp2_with fail
    exact bodyPost_ret (v := .tuple #[.int .i64 0, .bool true]) (by simp [results, Try.results62, go_sem]) rfl ⟨hB3.trans hB4, rfl, o4, vs4, h4⟩
set_option maxRecDepth 100000 in
set_option maxHeartbeats 2000000 in
theorem leave_none (h : Mx w base g prims o vs m) (hne : m.loops = []) :
    Calls Try.prog 62 #[.pointer (some ⟨g, 0, none⟩), .string ⟨#[108, 101, 97, 118, 101]⟩] w (BPost base g prims (.inr 13) w) := by
  obtain ⟨v0, A1, c1, b, A7, c7, A8, c8, A9, c9, A10, c10, A11, c11, rfl⟩ := h.cells
  have k1 := h.st.cell 1 rfl
  have k9 := h.st.cell 9 rfl
  rw [hne] at k9
  clear h hne
  go_enter Try.func62, Try.ntmps62
  go_wp2_with fail
  exact bodyPost_ret (v := .tuple #[.int .i64 13, .bool true]) (by simp [results, Try.results62, go_sem]) rfl ⟨Below.refl _ _, rfl⟩
set_option maxRecDepth 100000 in
set_option maxHeartbeats 2000000 in
theorem loop_other (h : Mx w base g prims o vs m) (s : ByteArray) (hs : s.toList ∉ ([[100, 111], [63, 100, 111], [108, 111, 111, 112], [43, 108, 111, 111, 112], [108, 101, 97, 118, 101]] : List (List UInt8))) :
    Calls Try.prog 62 #[.pointer (some ⟨g, 0, none⟩), .string s] w fun e w' => e = .returned (.tuple #[.int .i64 0, .bool false]) ∧ w' = w := by
  obtain ⟨v0, A1, c1, b, A7, c7, A8, c8, A9, c9, A10, c10, A11, c11, rfl⟩ := h.cells
  have k1 := h.st.cell 1 rfl
  clear h
  simp only [List.mem_cons, List.not_mem_nil, or_false, not_or] at hs
  obtain ⟨n0, n1, n2, n3, n4⟩ := hs
  have b0 : (s.toList == ([100, 111] : List UInt8)) = false := beq_eq_false_iff_ne.mpr n0
  have b1 : (s.toList == ([63, 100, 111] : List UInt8)) = false := beq_eq_false_iff_ne.mpr n1
  have b2 : (s.toList == ([108, 111, 111, 112] : List UInt8)) = false := beq_eq_false_iff_ne.mpr n2
  have b3 : (s.toList == ([43, 108, 111, 111, 112] : List UInt8)) = false := beq_eq_false_iff_ne.mpr n3
  have b4 : (s.toList == ([108, 101, 97, 118, 101] : List UInt8)) = false := beq_eq_false_iff_ne.mpr n4
  go_enter Try.func62, Try.ntmps62
  go_wp2_with fail
  exact bodyPost_ret (v := .tuple #[.int .i64 0, .bool false]) (by simp [results, Try.results62, go_sem]) rfl ⟨rfl, rfl⟩
end
end Go.Proofs.Ytehmhgpogpbjiaa.Fcc

/- A region that draws its order, walked in segments: what only computes or reads in one go, what acts one by one. -/
namespace Go.Proofs.Ytehmhgpogpbjiaa.Fcc
open Go.RowKit Go.Proofs.YtehmhgpogpbjiaaW.PrintWords Go.Proofs.YtehmhgpogpbjiaaW.PrintLast
set_option linter.unusedVariables false
set_option linter.unusedSimpArgs false
section
variable {P : Program} {ops : Array Oper} {Q : Exit → Act → World → Prop} {S : World → Prop} {ds : List Nat} {dn : List Nat} {a a' : Act} {w : World} {T : Bool × List (List Nat × List Nat)}
/-- What has come up, as flags. -/
def mark (n : Nat) (dn : List Nat) : List Bool := dn.foldl (fun l i => l.set i true) (List.replicate n false)
theorem mark_snoc (n : Nat) (dn : List Nat) (i : Nat) : mark n (dn ++ [i]) = (mark n dn).set i true := by unfold mark; rw [List.foldl_append]; rfl
/-- The region, the operations dn behind it. -/
def At (P : Program) (ops : Array Oper) (Q : Exit → Act → World → Prop) (S : World → Prop) (ds dn : List Nat) (a : Act) (w : World) : Prop :=
  ∀ fuel, ops.size ≤ fuel + dn.length → wpAnyLast P .any ops Q S ds fuel (mark ops.size dn).toArray a w
theorem At.step {i : Nat} (hlt : dn.length < ops.size) (h : ∀ fuel, ops.size ≤ fuel + (dn ++ [i]).length → wpAnyLast P .any ops Q S ds (fuel + 1) (mark ops.size dn).toArray a w) : At P ops Q S ds dn a w := by
  intro fuel hf
  match fuel, hf with
  | 0, hf => omega
  | f + 1, hf => exact h f (by simp; omega)
/-- The region's size and its table. -/
structure Tab (ops : Array Oper) (n : Nat) (T : Bool × List (List Nat × List Nat)) : Prop where
  hn : ops.size = n
  hT : rtab .any ops = T
/-- Begin: 'n' operations, their table. -/
theorem begin_ {id n : Nat} (hm : P.follows .mixedOrders = true) (hn : ops.size = n) (hT : rtab .any ops = T) (hS : S w.drew)
    (h : Tab ops n T → Aside0 (S w.drew) → At P ops Q S ds [] a w.drew) : (Code.region id ops true).wp P Q a w := by
  refine start_ (S := S) (ds := ds) (mark n []).toArray hm hn ?_ hS (fun hS' => ?_)
  · simp [mark]
  · have := h ⟨hn, hT⟩ ⟨hS⟩ n (by simp; omega)
    rw [hn] at this
    exact this
/-- Steps that yield in each world that meets S, one behind the other: their numbers, their destinations. -/
inductive Seg (P : Program) (ops : Array Oper) (S : World → Prop) : List (Nat × Tmp) → Act → Act → Prop
  | nil {a : Act} : Seg P ops S [] a a
  | cons {i : Nat} {N : Tmp} {r : List (Nat × Tmp)} {oi : Oper} {v : Value} {a a1 a2 : Act} (hi : ops[i]? = some oi) (hN : oi.dst = some N) (hy : YieldsIf P ops S oi v a) (ha : a.put (some N) v = a1) (h : Seg P ops S r a1 a2) : Seg P ops S ((i, N) :: r) a a2
theorem Seg.on {i : Nat} {N : Tmp} {r : List (Nat × Tmp)} {oi : Oper} {v : Value} {a a1 a2 : Act} (hi : ops[i]? = some oi) (hN : oi.dst = some N) (hw : Region.wanted oi (yielded ops a.tmps) = true) (hy : ∀ w, S w → (execOp a.eval oi).run P w = .ok (.value v) w) (ha : a.put (some N) v = a1) (h : Seg P ops S r a1 a2) : Seg P ops S ((i, N) :: r) a a2 := .cons hi hN (.inl ⟨hw, hy⟩) ha h
theorem Seg.off {i : Nat} {N : Tmp} {r : List (Nat × Tmp)} {oi : Oper} {a a1 a2 : Act} (hi : ops[i]? = some oi) (hN : oi.dst = some N) (hw : Region.wanted oi (yielded ops a.tmps) = false) (ha : a.put (some N) undef = a1) (h : Seg P ops S r a1 a2) : Seg P ops S ((i, N) :: r) a a2 := .cons hi hN (.inr ⟨hw, rfl⟩) ha h
/-- May these be taken first? -/
def segB (n : Nat) (T : Bool × List (List Nat × List Nat)) (ds : List Nat) : List Nat → List (Nat × Tmp) → Bool
  | _, [] => true
  | dn, (i, _) :: r => decide (dn.length < n) && takeT T ds (mark n dn) (mark n (dn ++ [i])) i && segB n T ds (dn ++ [i]) r
theorem seg_of (hT : rtab .any ops = T) (hQ : ∀ c (a : Act) (tm : Array Value) w, Q (.panic c) { a with tmps := tm } w → Q (.panic c) a w) (hS : S w) : ∀ (is : List (Nat × Tmp)) (dn : List Nat) (a a' : Act), segB ops.size T ds dn is = true → Seg P ops S is a a' → At P ops Q S ds (dn ++ is.map (·.1)) a' w → At P ops Q S ds dn a w
  | [], dn, a, a', _, hseg, h => by
    cases hseg
    simpa using h
  | (i, N) :: r, dn, a, a', hb, hseg, h => by
    cases hseg with
    | cons hi hN hy ha hr =>
      simp only [segB, Bool.and_eq_true, decide_eq_true_eq] at hb
      have h1 := seg_of hT hQ hS r (dn ++ [i]) _ _ hb.2 hr (by simpa using h)
      refine At.step (i := i) hb.1.1 fun fuel hf => ?_
      have h2 := h1 fuel hf
      rw [mark_snoc] at h2
      refine take_ (N := _) ((mark ops.size dn).set i true).toArray hi hN (take_of hT ?_) (fun c a w hq => ?_) hy hS ha h2
      · have := hb.1.2
        rw [mark_snoc] at this
        simpa using this
      · rw [hN] at hq
        exact hQ _ _ _ _ hq
/-- A stretch of reading and reckoning. -/
theorem seg_ (is : List (Nat × Tmp)) {n : Nat} (tb : Tab ops n T) (hS : Aside0 (S w)) (hb : segB n T ds dn is = true) (hQ : ∀ c (a : Act) (tm : Array Value) w, Q (.panic c) { a with tmps := tm } w → Q (.panic c) a w) (hseg : Seg P ops S is a a') (h : At P ops Q S ds (dn ++ is.map (·.1)) a' w) : At P ops Q S ds dn a w :=
  seg_of tb.hT hQ hS.out is dn a a' (by rw [tb.hn]; exact hb) hseg h
/-- The same for what yields in every world: behind a store too. -/
def segAB (n : Nat) (T : Bool × List (List Nat × List Nat)) : List Nat → List (Nat × Tmp) → Bool
  | _, [] => true
  | dn, (i, _) :: r => decide (dn.length < n) && anyT T (mark n dn) (mark n (dn ++ [i])) i && segAB n T (dn ++ [i]) r
theorem sega_of (hT : rtab .any ops = T) (hQ : ∀ c (a : Act) (tm : Array Value) w, Q (.panic c) { a with tmps := tm } w → Q (.panic c) a w) : ∀ (is : List (Nat × Tmp)) (dn : List Nat) (a a' : Act), segAB ops.size T dn is = true → Seg P ops (fun _ => True) is a a' → At P ops Q S ds (dn ++ is.map (·.1)) a' w → At P ops Q S ds dn a w
  | [], dn, a, a', _, hseg, h => by
    cases hseg
    simpa using h
  | (i, N) :: r, dn, a, a', hb, hseg, h => by
    cases hseg with
    | cons hi hN hy ha hr =>
      simp only [segAB, Bool.and_eq_true, decide_eq_true_eq] at hb
      have h1 := sega_of hT hQ r (dn ++ [i]) _ _ hb.2 hr (by simpa using h)
      refine At.step (i := i) hb.1.1 fun fuel hf => ?_
      have h2 := h1 fuel hf
      rw [mark_snoc] at h2
      refine pure_ (N := _) ((mark ops.size dn).set i true).toArray hi hN (any_of hT ?_) (fun c a w hq => ?_) ?_ ha h2
      · have := hb.1.2
        rw [mark_snoc] at this
        simpa using this
      · rw [hN] at hq
        exact hQ _ _ _ _ hq
      · exact hy.imp (fun ⟨h1, h2⟩ => ⟨h1, fun w => h2 w trivial⟩) id
theorem sega_ (is : List (Nat × Tmp)) {n : Nat} (tb : Tab ops n T) (hb : segAB n T dn is = true) (hQ : ∀ c (a : Act) (tm : Array Value) w, Q (.panic c) { a with tmps := tm } w → Q (.panic c) a w) (hseg : Seg P ops (fun _ => True) is a a') (h : At P ops Q S ds (dn ++ is.map (·.1)) a' w) : At P ops Q S ds dn a w :=
  sega_of tb.hT hQ is dn a a' (by rw [tb.hn]; exact hb) hseg h
/-- What follows one operation. -/
def QL (Q : Exit → Act → World → Prop) (K : Act → World → Prop) : Exit → Act → World → Prop
  | .normal, a, w => K a w
  | e, a, w => Q e a w
theorem ql_ {K : Act → World → Prop} (h : K a w) : QL Q K .normal a w := h
theorem QL.lets {K : Act → World → Prop} (h : LetsOut (QL Q K)) : LetsOut Q := h
theorem QL.wp {K : Act → World → Prop} {o : Oper} (h : o.wp P a w K (QL Q K)) : o.wp P a w K Q := by
  unfold Oper.wp at *
  generalize (execOp a.eval o).run P w = r at *
  cases r with
  | ok n w' =>
    cases n <;> simp only [Oper.upon] at h ⊢ <;>
      first
        | exact h
        | exact Calls.mono h (fun e w'' he => by cases e <;> exact he)
  | halt x w' => cases x <;> simp only [Oper.upon] at h ⊢ <;> exact h
theorem QL.op {K : Act → World → Prop} {i : Nat} {oi : Oper} (hi : ops[i]? = some oi) (h : wpList P ops (QL Q K) [oi] a w) : wpOp P ops Q i K a w := by
  unfold wpOp
  rw [hi]
  unfold wpList at h
  have hk : (wpList P ops (QL Q K) []) = K := by funext a w; rfl
  rw [hk] at h
  simp only
  split
  · rename_i hw
    rw [if_pos hw] at h
    exact h.imp QL.wp (fun h => ⟨h.1, QL.lets h.2⟩)
  · rename_i hw
    rw [if_neg hw] at h
    exact h
/-- One operation alone may come up: it is walked, S is shown behind it. -/
theorem eff_ (i : Nat) {n : Nat} {oi : Oper} (tb : Tab ops n T) (hi : ops[i]? = some oi) (hb : (decide (dn.length < n) && (readyT T.2 (mark n dn) == [i])) = true)
    (h : wpList P ops (QL Q (fun a' w' => S w' ∧ (Aside0 (S w') → At P ops Q S ds (dn ++ [i]) a' w'))) [oi] a w) : At P ops Q S ds dn a w := by
  obtain ⟨hn, hT⟩ := tb
  subst hn
  simp only [Bool.and_eq_true, decide_eq_true_eq] at hb
  refine At.step (i := i) hb.1 fun fuel hf => ?_
  refine wpAnyLast_all (rs := [i]) (by rw [ready_eq, hT]; simpa using hb.2) (by simp) fun j hj => ?_
  rw [List.mem_singleton] at hj
  subst hj
  refine wpOp_mono (fun a' w' hh => ?_) (QL.op hi h)
  refine ⟨fun _ _ => hh.1, ?_⟩
  have := hh.2 ⟨hh.1⟩ fuel hf
  rw [mark_snoc] at this
  simpa using this
/-- The same for one of ds: nothing is shown behind it. -/
theorem effl_ (i : Nat) {n : Nat} {oi : Oper} (tb : Tab ops n T) (hi : ops[i]? = some oi) (hb : (decide (dn.length < n) && (readyT T.2 (mark n dn) == [i]) && ds.contains i) = true)
    (h : wpList P ops (QL Q (fun a' w' => At P ops Q S ds (dn ++ [i]) a' w')) [oi] a w) : At P ops Q S ds dn a w := by
  obtain ⟨hn, hT⟩ := tb
  subst hn
  simp only [Bool.and_eq_true, decide_eq_true_eq] at hb
  refine At.step (i := i) hb.1.1 fun fuel hf => ?_
  refine wpAnyLast_all (rs := [i]) (by rw [ready_eq, hT]; simpa using hb.1.2) (by simp) fun j hj => ?_
  rw [List.mem_singleton] at hj
  subst hj
  refine wpOp_mono (fun a' w' hh => ?_) (QL.op hi h)
  refine ⟨fun hn => absurd (by simpa using hb.2) hn, ?_⟩
  have := hh fuel hf
  rw [mark_snoc] at this
  simpa using this
/-- All have come up. -/
theorem end_ {n : Nat} (tb : Tab ops n T) (hb : (readyT T.2 (mark n dn) == []) = true) (h : Q .normal a w) : At P ops Q S ds dn a w := by
  obtain ⟨hn, hT⟩ := tb
  subst hn
  intro fuel _
  exact done_ (done_of hT hb) h
end
end Go.Proofs.Ytehmhgpogpbjiaa.Fcc

/- choose: a word of cases. -/
namespace Go.Proofs.Ytehmhgpogpbjiaa.Fcc
open Go.RowKit Go.Proofs.YtehmhgpogpbjiaaW.PrintWords Go.Proofs.YtehmhgpogpbjiaaW.PrintLast Go.Proofs.YtehmhgpogpbjiaaW.PrintMore Go.Proofs.Ytehmhgpogpbjiaa.PFccTokens
set_option linter.unusedVariables false
set_option linter.unusedSimpArgs false
section
variable {α : Type} {d : Kd α} {w : World} {base g T z i e t bytes : Nat} {vs : List Value} {o : Nat → Nat} {F : List Fld} {xs : List α} {v zv : Value}
/-- What stands behind an append to the rows i. -/
def PushedS (d : Kd α) (e base g T z i : Nat) (w : World) (vs : List Value) (o : Nat → Nat) (F : List Fld) (v : Value) (ys : List α) (v' : Value) (w2 : World) : Prop :=
  St (w2.setCell ⟨g, i, none⟩ v') base g T z (vs.set i v') (new_ w o (z + 1 + i)) (F.set i (rowsF d e base ys)) ∧ Below base w w2 ∧ (∃ A c, v' = .slice A ys.length c) ∧ w2.heap[g]? = some (.cells vs.toArray T (0, 0)) ∧ w.grownBy w2 v.ownBlock
/-- An element that has no blocks is appended to rows. -/
theorem St.pushS {P : Program} {ops : Array Oper} {rest : List Oper} {Q : Exit → Act → World → Prop} {a : Act} {q : Oper} {s x : Operand} (h : St w base g T z vs o F) (hv : vs[i]? = some v) (hF : F[i]? = some (rowsF d e base xs)) (p : α) (cs : List Value)
    (hd : d.sz = cs.length) (ht : P.underlying t = some (.slice e)) (hinfo : (P.info? e).map (fun i => (i.zero, i.size, i.bytes)) = some (some zv, d.sz, bytes)) (hz : zv.cells.size = d.sz) (hs0 : 0 < d.sz) (hb0 : 0 < bytes)
    (hgd : q.guard = none) (hq : q.op = .call { callee := .builtin .append, args := #[s, x], argTypes := #[t, t] }) (hs : a.eval s = v) (hx : a.eval x = .slice (some ⟨w.heap.size, 0, none⟩) 1 1)
    (hp : d.M w base (fun _ => False) p cs) (hl : (xs.length + 1) * bytes ≤ 140737488355328)
    (k : ∀ v' w2, PushedS d e base g T z i w vs o F v (xs ++ [p]) v' w2 → wpList P ops Q rest (a.put q.dst v') w2) : wpList P ops Q (q :: rest) a (w.alloc (.cells cs.toArray e)) := by
  have hR0 : Kd.S d e w base (fun k => new_ w o (z + 1 + i) k = z + 1 + i) v xs := (loc_rows d e base xs).move (h.row i v _ hv hF) (fun k hk _ hl => ⟨rfl, by rw [new_lt hl]; exact hk⟩)
  refine Kd.S_append d (w0 := w) (W := w) base hgd s x t e zv bytes hq ht hinfo hz hs0 hb0 v xs p cs (fun k => new_ w o (z + 1 + i) k = z + 1 + i) (fun _ => False) hs hx hp (fun _ h => h.elim) (fun k hk => new_ge hk) (Kd.S_mono hR0 (fun _ hk => ⟨hk, fun h => h⟩)) (Below.refl _ _) h.base_le hl ?_
  intro v' w2 hR hB hg _
  refine k v' w2 ⟨h.pushedS hv hF hg hR, hB, ?_, ?_, hg⟩
  · obtain ⟨A, c, rfl, _⟩ := Kd.S_reads hR
    exact ⟨A, c, rfl⟩
  · refine blk_grown h.box hg (fun e2 => ?_)
    have h1 := (Kd.S_R (h.row i v _ hv hF : Kd.S d e w base _ v xs)).1 g e2.symm
    have h2 := h.own
    omega
end
theorem info142 : (Try.prog.info? 142).map (fun i => (i.zero, i.size, i.bytes)) = some (some (.agg #[.int .i64 0, .slice none 0 0]), 2, 32) := by kernel_rfl
section
variable {w : World} {base g : Nat} {prims : List (ByteArray × Int)} {o : Nat → Nat} {vs : List Value} {m : Mk}
set_option maxRecDepth 100000 in
set_option maxHeartbeats 2000000 in
theorem case_calls (h : Mx w base g prims o vs m) (hl : m.out.length < 1099511627770) (hl2 : m.cases.length < 1099511627770) :
    Calls Try.prog 63 #[.pointer (some ⟨g, 0, none⟩), .string ⟨#[99, 97, 115, 101]⟩] w (MPost base g prims (.inl ({ m with cases := m.cases ++ ([⟨-1, []⟩] : List Ch) }.add 196)) w) := by
  obtain ⟨v0, A1, c1, b, A7, c7, A8, c8, A9, c9, A10, c10, A11, c11, rfl⟩ := h.cells
  have k1 := h.st.cell 1 rfl
  have k10 := h.st.cell 10 rfl
  have hX := Aside0.mk h
  clear h
  go_enter Try.func63, Try.ntmps63
  go_wp2_with fail
  go_quiet (fail)
  have hq := Drawn0.below (w := w) (w' := w.drewN nq) ⟨⟨nq, rfl⟩⟩
  have hY := Aside0.mk (hX.out.below hq)
  have hB0 := Below.mono hq hX.out.st.base_le
  clear hq
  clear k1 k10
  generalize w.drewN nq = W at hY hB0 ⊢
  have k10 := hY.out.st.cell 10 rfl
  go_wp2_with (at_builtin; refine St.pushS (d := k149) (e := 142) (i := 10) hY.out.st rfl rfl (⟨-1, []⟩ : Ch) [.int .i64 (-1), .slice none 0 0] rfl Try.underlying54 info142 rfl (by decide) (by decide) rfl rfl rfl rfl (k149_mkM _ _ _ (x := (⟨-1, []⟩ : S149)) (Kd.R_nil _ _ _ _ _)) (by omega) ?_)
  rintro v2 w2 ⟨hst, hB2, ⟨A2, c2, rfl⟩, hb2, hg2⟩
  have hz : (m.cases ++ ([⟨-1, []⟩] : List Ch)).length = m.cases.length + 1 := by simp
  rw [hz] at hst ⊢
  have hf := blk_frozen hb2 10
  have k10' : w2.cell? ⟨g, 10, none⟩ = some (.slice A10 m.cases.length c10) := (blk_cell hb2 10).trans rfl
  have h2 : Mx _ base g prims _ _ { m with cases := m.cases ++ ([⟨-1, []⟩] : List Ch) } := ⟨hst, rfl⟩
  have hB3 : Below base w (w2.setCell ⟨g, 10, none⟩ (.slice A2 (m.cases.length + 1) c2)) := Below.setCell (hB0.trans hB2) hX.out.st.hb _
  clear k10 hb2 hg2
  go_wp2_with fail
  refine (add_calls h2 196 0 ⟨#[]⟩ (by show m.out.length < _; omega)).mono ?_
  rintro e w4 ⟨rfl, hB4, o4, vs4, h4⟩
  go_wp2_with fail
  exact bodyPost_ret (v := .int .i64 0) (by simp [results, Try.results63, go_sem]) rfl ⟨hB3.trans hB4, rfl, o4, vs4, h4⟩
set_option maxRecDepth 100000 in
set_option maxHeartbeats 2000000 in
theorem choose_none (h : Mx w base g prims o vs m) (hl : m.out.length < 1099511627770) (hn : m.cases = []) (s : ByteArray) (hs : s.toList ≠ ([99, 97, 115, 101] : List UInt8)) :
    Calls Try.prog 63 #[.pointer (some ⟨g, 0, none⟩), .string s] w (MPost base g prims (.inr 13) w) := by
  obtain ⟨v0, A1, c1, b, A7, c7, A8, c8, A9, c9, A10, c10, A11, c11, rfl⟩ := h.cells
  have k1 := h.st.cell 1 rfl
  have k10 := h.st.cell 10 rfl
  have hX := Aside0.mk h
  rw [hn] at k10
  have b0 : (s.toList == ([99, 97, 115, 101] : List UInt8)) = false := beq_eq_false_iff_ne.mpr hs
  clear h hn hs
  go_enter Try.func63, Try.ntmps63
  go_wp2_with fail
  go_quiet (fail)
  have hq := Drawn0.below (w := w) (w' := w.drewN nq) ⟨⟨nq, rfl⟩⟩
  have hB0 := Below.mono hq hX.out.st.base_le
  clear hq k1 k10
  generalize w.drewN nq = W at hB0 ⊢
  go_wp2_with fail
  exact bodyPost_ret (v := .int .i64 13) (by simp [results, Try.results63, go_sem]) rfl ⟨hB0, rfl⟩
end
end Go.Proofs.Ytehmhgpogpbjiaa.Fcc
