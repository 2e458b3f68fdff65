import Derived.Test.Ytehmhgpogpbjiaafr20
import Derived.Test.Ytehmhgpogpbjiaafr18
set_option linter.unusedVariables false
set_option linter.unusedSimpArgs false
set_option maxRecDepth 100000
set_option maxHeartbeats 8000000
namespace Go.Proofs.Ytehmhgpogpbjiaa.Fcc
open Go.RowKit Go.Proofs.YtehmhgpogpbjiaaW.PrintWords Go.Proofs.YtehmhgpogpbjiaaW.PrintLast Go.Proofs.YtehmhgpogpbjiaaW.PrintMore Go.Proofs.Ytehmhgpogpbjiaa.PFccTokens
theorem Jn (t : Tk) : 0 ≤ XH t ∧ XH t ≤ 300 := by
 unfold XH
 split
 ·rename_i hr
  refine ⟨Z0, ?_⟩
  have h1 := XT t.f0
  have h2 := XT t.f1
  have hb := behindP_all t.f0
  unfold tokB
  unfold rightP at hr
  simp only [Bool.and_eq_true] at hr
  obtain ⟨_, hr⟩ := hr
  rw [List.length_append]
  rcases hb with hb | hb | hb | hb | hb | hb | hb <;> rw [hb] at hr ⊢ <;> simp [twoB, textB, YG] at hr ⊢ <;> omega
 ·omega
def sumP (l : List Tk) (kk : Nat) : Int := ((l.take kk).map XH).sum
theorem Uw (l : List Tk) (kk : Nat) : 0 ≤ sumP l kk ∧ sumP l kk ≤ 300 * kk := by
 unfold sumP
 induction kk generalizing l with
 | zero => simp
 | succ k ih =>
   cases l with
   | nil => simp; omega
   | cons t r =>
     have := ih r
     have h2 := Jn t
     simp only [List.take_succ_cons, List.map_cons, List.sum_cons]
     omega
theorem VS (l : List Tk) (kk : Nat) (h : kk < l.length) : sumP l (kk + 1) = sumP l kk + XH l[kk] := by
 unfold sumP
 rw [List.take_add_one, List.getElem?_eq_getElem h]
 simp only [List.map_append, List.sum_append, Option.toList_some, List.map_cons, List.map_nil, List.sum_cons, List.sum_nil]
 omega
theorem endsP_len (f : Tk → Int) (l : List Tk) : ∀ a, (endsP f a l).length = l.length := by
 induction l with
 | nil => intro a; rfl
 | cons t r ih => intro a; simp [endsP, ih]
theorem Yci (l : List Tk) : ∀ (a : Int) (kk : Nat) (h : kk < l.length), (endsP XH a l)[kk]? = some (a + sumP l (kk + 1)) := by
 induction l with
 | nil => intro a kk h; simp at h
 | cons t r ih =>
   intro a kk h
   cases kk with
   | zero => simp [endsP, sumP]
   | succ k =>
     have := ih (a + XH t) k ZM
     simp only [endsP, List.getElem?_cons_succ, this]
     simp [sumP, Int.add_assoc]
section
variable {w w1 : World} {base g T z : Nat} {vs : List Value} {o o1 : Nat → Nat} {F : List Fld}
end
theorem fill_set (E : List Int) (n kk : Nat) (hE : E.length = n) (hk : kk < n) (x : Int) (hx : E[kk]? = some x) : (E.take kk ++ List.replicate (n - kk) (0 : Int)).set kk x = E.take (kk + 1) ++ List.replicate (n - (kk + 1)) 0 := by
 have h1 : (E.take kk).length = kk := by rw [List.length_take]; omega
 obtain ⟨j, hj⟩ : ∃ j, n - kk = j + 1 := ⟨n - kk - 1, Z0⟩
 rw [List.set_append_right _ _ Z0, h1, Nat.sub_self, hj, List.replicate_succ, List.set_cons_zero, List.take_add_one, hx, show n - (kk + 1) = j by omega]
 simp
def aim1 (E : List Int) (out : List Tk) (p : Ld) : List Tk := out.modify p.f0.toNat fun t => { t with f3 := E.getD p.f1.toNat 0 - E.getD p.f0.toNat 0 + 2 }
theorem aim1_set (E : List Int) (out : List Tk) (p : Ld) (h : p.f0.toNat < out.length) : aim1 E out p = out.set p.f0.toNat { (out.getD p.f0.toNat z37) with f3 := E.getD p.f1.toNat 0 - E.getD p.f0.toNat 0 + 2 } := by
 unfold aim1
 refine List.ext_getElem? fun j => ?_
 rw [List.getElem?_modify, List.getElem?_set]
 by_cases hj : p.f0.toNat = j
 ·subst hj
  simp [h]
 ·simp [hj]
theorem aim1_len (E : List Int) (out : List Tk) (p : Ld) : (aim1 E out p).length = out.length := by simp [aim1]
theorem aims_len (E : List Int) (l : List Ld) : ∀ out : List Tk, (l.foldl (aim1 E) out).length = out.length := by
 induction l with
 | nil => intro out; rfl
 | cons p r ih => intro out; rw [List.foldl_cons, ih, aim1_len]
theorem row_int {w : World} {e base g n cap j : Nat} {ok : Nat → Prop} {E : List Int} {x : Int} (h : Kd.R (Kd.int .i64) e w base ok (.slice (some ⟨g, 0, none⟩) n cap) E) (hx : E[j]? = some x) : w.cell? ⟨g, j, none⟩ = some (.int .i64 x) := by
 have hn := (Kd.R_reads' h).1
 have hj := (List.getElem?_eq_some_iff.1 hx).1
 obtain ⟨cc, hcl, hM, hcc, hfr⟩ := Kd.R_elem h (0 : Int) (j : Int) Z0 Z0
 have hc : cc = [.int .i64 x] := by
  have h1 : cc = [.int .i64 (E.getD (j : Int).toNat 0)] := hM
  rw [h1, Int.toNat_natCast, List.getD_eq_getElem?_getD, hx]
  rfl
 subst hc
 have := hcc 0 _ rfl
 rwa [show (j : Int).toNat * (Kd.int .i64).sz + 0 = j by show _ * 1 + 0 = _; omega] at this
section
variable {w : World} {base g : Nat} {prims : List (ByteArray × Int)} {o : Nat → Nat} {vs : List Value} {m : Mk}
theorem aim_calls (h : Mx w base g prims o vs m) (hfit : ∀ t ∈ m.out, Fits t) (h0 : 0 < m.out.length) (hl : m.out.length < 1000000000) (hl2 : m.leads.length < 1000000000) (hld : ∀ l ∈ m.leads, (0 ≤ l.f0 ∧ l.f0 < m.out.length) ∧ 0 ≤ l.f1 ∧ l.f1 < m.out.length) :
 Calls Try.prog 20 #[.pointer (some ⟨g, 0, none⟩)] w fun e w' => e = .returned (.tuple #[]) ∧ Below base w w' ∧ ∃ o' vs', Mx w' base g prims o' vs' { m with out := aimP XH m } := by
 obtain ⟨v0, A1, c1, b, A7, c7, A8, c8, A9, c9, A10, c10, A11, c11, rfl⟩ := h.cells
 have k1 := h.st.cell 1 rfl
 have hX := Aside0.mk h
 obtain ⟨n, hn⟩ : ∃ n, m.out.length = n := ⟨_, rfl⟩
 have hN := Aside0.mk hn
 have hfit' := Aside0.mk hfit
 have hld' := Aside0.mk hld
 have hbb := h.st.base_le
 rw [hn] at k1 h0 hl
 clear h hfit hld hn
 go_enter Try.func20, Try.ntmps20
 go_wp2_with ((with_reducible refine Vm (N := 13) rfl ?_); refine Kd.R_make (Kd.int .i64) (w0 := w) w.heap.size 3 rfl rfl 53 _ _ rfl (n : Int) rfl rfl Try.underlying53 (.int .i64 0) 8 info3 rfl Z1 Z1 (0 : Int) (ok := fun _ => True) (okp := fun _ => False) rfl (fun _ _ => trivial) trivial Z0 (by rw [Int.toNat_natCast]; omega) (Below.refl _ _) (Nat.le_refl _) ?_)
 intro v2 w2 hR2 hB2 hg2 ge hge1 hge2
 obtain ⟨ge', cap, hv2, hgl, -⟩ := Kd.R_form hR2 (by simpa using h0)
 rw [List.length_replicate] at hv2
 subst hv2
 have hee : ge' = ge := by simpa [Value.ownBlock] using hge1
 subst hee
 have hcap : n ≤ cap := by have := (Kd.R_reads' hR2).2.1; simpa using this
 have k1' := (hX.out.below hB2).st.cell 1 rfl
 rw [hN.out] at k1'
 obtain ⟨E, hE⟩ : ∃ E, endsP XH 0 m.out = E := ⟨_, rfl⟩
 have hEl : E.length = n := by rw [← hE, endsP_len, hN.out]
 have hEg := Aside0.mk (show ∀ kk, kk < n → E[kk]? = some (sumP m.out (kk + 1)) by
  intro kk hk
  rw [← hE, Yci m.out 0 kk (by rw [hN.out]; exact hk)]
  simp)
 have hE' := Aside0.mk hE
 have hEl' := Aside0.mk hEl
 clear hE hEl hg2 hge1 k1
 go_wp2_with fail
 go_loopg [19, 3] n (fun gg s19 s3 wr => ∃ kk : Nat, kk ≤ n ∧ n - kk ≤ gg ∧ s19 = .int .i64 kk ∧ s3 = .int .i64 (sumP m.out kk) ∧ Aside0 (Below w.heap.size w wr) ∧ Aside0 (Kd.R (Kd.int .i64) 3 wr w.heap.size (fun _ => True) (.slice (some ⟨ge', 0, none⟩) n cap) (E.take kk ++ List.replicate (n - kk) 0)))
 case atStart => exact ⟨0, Nat.zero_le _, Z0, rfl, (by simp [sumP]), ⟨hB2⟩, ⟨(by simpa using hR2)⟩⟩
 case round =>
  obtain ⟨kk, hkk, hg, rfl, rfl, HB, HR⟩ := hrel
  by_cases hlt : kk < n
  ·have hltz : (kk : Int) < (n : Int) := by omega
   have hMr := hX.out.below HB.out
   obtain ⟨A, c, eL, _, hC⟩ := Kd.R_reads (hMr.st.row 1 _ _ rfl rfl : Kd.R k37 37 wr base _ (.slice A1 m.out.length c1) m.out)
   rw [hN.out] at eL hC
   injection eL with eL1 _ eL3
   subst eL1 eL3
   obtain ⟨ad, e, g0, g1, g2, g3⟩ := UZ hC (kk : Int) Z0 hltz
   cases e
   have hkl : kk < m.out.length := by rw [hN.out]; exact hlt
   have hrd : Xo m.out (kk : Int) = m.out[kk]'hkl := by simp [Xo, List.getD_eq_getElem?_getD, hkl]
   have hft := Aside0.mk (hfit'.out _ (List.getElem_mem hkl))
   have hs1 := Aside0.mk (VS m.out kk hkl)
   rw [Int.toNat_natCast] at g0 g1 g2 g3
   rw [hrd] at g0 g1 g2 g3
   have hsb := Uw m.out kk
   have hgk := Aside0.mk (show n - (kk + 1) < gk ∧ kk + 1 ≤ n by omega)
   clear hrd hC hMr
   generalize m.out[kk]'hkl = t at g0 g1 g2 g3 hft hs1
   have hsz := Jn t
   have hBn := Yc (Below.refl wr.heap.size wr) (.cells #[.int .i64 t.f0, .int .u32 t.f1, .string t.f2, .int .i64 t.f3] 37)
   go_wp2_with fail
   refine (YdH t hft.out _).mono ?_
   rintro e w5 ⟨rfl, hB5⟩
   have hB6 := hBn.trans (Below.mono hB5 hBn.size)
   have HR5 := Kd.R_below HR.out hB6
   have HB5 := HB.out.trans (Below.mono hB6 HB.out.size)
   obtain ⟨cc, hcl, hM, hcc, hfr⟩ := Kd.R_elem HR5 (0 : Int) (kk : Int) Z0 hltz
   have q0 : w5.cell? ⟨ge', kk, none⟩ = some (.int .i64 ((E.take kk ++ List.replicate (n - kk) 0).getD (kk : Int).toNat 0)) := by
    have : cc = [.int .i64 ((E.take kk ++ List.replicate (n - kk) 0).getD (kk : Int).toNat 0)] := hM
    subst this
    have := hcc 0 _ rfl
    rwa [show (kk : Int).toNat * (Kd.int .i64).sz + 0 = kk by show _ * 1 + 0 = _; omega] at this
   have q1 : w5.frozen? ⟨ge', kk, none⟩ = false := by
    have := hfr 0
    rwa [show (kk : Int).toNat * (Kd.int .i64).sz + 0 = kk by show _ * 1 + 0 = _; omega] at this
   have HR6 := Kd.R_putn HR5 (kk : Int) (sumP m.out kk + XH t)
   rw [Int.toNat_natCast, fill_set E n kk hEl'.out hlt _ (by rw [hEg.out kk hlt, hs1.out])] at HR6
   have HB6 := Aside0.mk (HB5.setCell (p := ⟨ge', kk, none⟩) hgl (.int .i64 (sumP m.out kk + XH t)))
   replace HR6 := Aside0.mk HR6
   generalize (E.take kk ++ List.replicate (n - kk) 0).getD (kk : Int).toNat 0 = old at q0
   clear hB5 hB6 HR5 HB5 hBn hcc hM hcl hfr hg
   go_wp2_with fail
   go_roundg (n - (kk + 1))
   case measure => exact hgk.out.1
   case rel => exact ⟨kk + 1, hgk.out.2, Nat.le_refl _, Zy, (by rw [hs1.out]), HB6, HR6⟩
  ·have hkk2 : kk = n := by omega
   subst hkk2
   have hR7 : Kd.R (Kd.int .i64) 3 wr w.heap.size (fun _ => True) (.slice (some ⟨ge', 0, none⟩) kk cap) E := by
    have := HR.out
    rwa [Nat.sub_self, List.replicate_zero, List.append_nil, List.take_of_length_le (by rw [hEl'.out]; exact Nat.le_refl _)] at this
   have hMr := hX.out.below HB.out
   have hBr := Below.mono HB.out hbb
   have k11 := hMr.st.cell 11 rfl
   clear HR HB hg hR2 hB2 k1'
   go_wp2_with fail
   go_loopg [38] m.leads.length (fun gg s38 ws => ∃ j : Nat, j ≤ m.leads.length ∧ m.leads.length - j ≤ gg ∧ s38 = .int .i64 j ∧ Aside0 (Below base w ws) ∧ Aside0 (Kd.R (Kd.int .i64) 3 ws w.heap.size (fun _ => True) (.slice (some ⟨ge', 0, none⟩) kk cap) E) ∧ Aside0 (Mx ws base g prims o [v0, .slice A1 kk c1, .map (some b), .int .i64 m.next, .bool m.opn, .string m.name, .int .i64 m.code,
    .slice A7 m.origs.length c7, .slice A8 m.dests.length c8, .slice A9 m.loops.length c9, .slice A10 m.cases.length c10, .slice A11 m.leads.length c11] { m with out := (m.leads.take j).foldl (aim1 E) m.out }))
   case atStart => exact ⟨0, Nat.zero_le _, Z0, rfl, ⟨hBr⟩, ⟨hR7⟩, ⟨(by rw [hN.out] at hMr; exact hMr)⟩⟩
   case round =>
    obtain ⟨j, hj, hg, rfl, HB, HR, HM⟩ := hrel
    by_cases hlt2 : j < m.leads.length
    ·have hltz2 : (j : Int) < (m.leads.length : Int) := by omega
     obtain ⟨A, c, eL, _, hC⟩ := Kd.R_reads (HM.out.st.row 11 _ _ rfl rfl : Kd.R k77 101 wr base _ (.slice A11 m.leads.length c11) m.leads)
     injection eL with eL1 _ eL3
     subst eL1 eL3
     obtain ⟨ad, e, g0, g1⟩ := at_T77 hC (j : Int) Z0 hltz2
     cases e
     have hrd : Ydi m.leads (j : Int) = m.leads[j]'hlt2 := by simp [Ydi, List.getD_eq_getElem?_getD, hlt2]
     rw [Int.toNat_natCast, hrd] at g0 g1
     have htk : m.leads.take (j + 1) = m.leads.take j ++ [m.leads[j]'hlt2] := by rw [List.take_add_one, List.getElem?_eq_getElem hlt2]; rfl
     have hld := hld'.out _ (List.getElem_mem hlt2)
     rw [hN.out] at hld
     generalize m.leads[j]'hlt2 = p at g0 g1 htk hld
     obtain ⟨p0, p1⟩ := p
     obtain ⟨⟨hp0, hp1⟩, hp2, hp3⟩ := hld
     simp only at hp0 hp1 hp2 hp3 g0 g1
     obtain ⟨fr, rfl⟩ : ∃ fr : Nat, p0 = fr := ⟨p0.toNat, Z0⟩
     obtain ⟨ti, rfl⟩ : ∃ ti : Nat, p1 = ti := ⟨p1.toNat, Z0⟩
     have hfrk : fr < kk := by omega
     have htok : ti < kk := by omega
     have hout : (m.leads.take (j + 1)).foldl (aim1 E) m.out = aim1 E ((m.leads.take j).foldl (aim1 E) m.out) ⟨fr, ti⟩ := by rw [htk, List.foldl_append]; rfl
     have hol : ((m.leads.take j).foldl (aim1 E) m.out).length = kk := by rw [aims_len, hN.out]
     have hout' := Aside0.mk hout
     have hol' := Aside0.mk hol
     clear hout htk hrd hC hol
     generalize (m.leads.take j).foldl (aim1 E) m.out = out at HM hout' hol'
     have ef := hEg.out fr hfrk
     have et := hEg.out ti htok
     have sf := Uw m.out (fr + 1)
     have st := Uw m.out (ti + 1)
     generalize hsf : sumP m.out (fr + 1) = xf at ef sf
     generalize hst : sumP m.out (ti + 1) = xt at et st
     clear hsf hst
     have hgk := Aside0.mk (show m.leads.length - (j + 1) < gk ∧ j + 1 ≤ m.leads.length by omega)
     have hbw := HM.out.st.base_le
     have hBn := Yc (Below.refl wr.heap.size wr) (.cells #[.int .i64 (fr : Int), .int .i64 (ti : Int)] 101)
     have hbx := Xa wr (.cells #[.int .i64 (fr : Int), .int .i64 (ti : Int)] 101)
     have hMn := HM.out.below hBn
     have hRn := Kd.R_below HR.out hBn
     have hBB := Aside0.mk (HB.out.trans (Below.mono hBn hbw))
     have e1 : IntKind.i64.wrap (xt - xf) = xt - xf := IntWalk.i64_in _ Z0
     have e2 : IntKind.i64.wrap (xt - xf + 2) = xt - xf + 2 := IntWalk.i64_in _ Z0
     have e3 : wrap64 (xt - xf) = xt - xf := IntWalk.wrap64_in _ ⟨Z0, Z0⟩
     have e4 : wrap64 (xt - xf + 2) = xt - xf + 2 := IntWalk.wrap64_in _ ⟨Z0, Z0⟩
     replace hMn := Aside0.mk hMn
     replace hRn := Aside0.mk hRn
     replace ef := Aside0.mk ef
     replace et := Aside0.mk et
     clear hBn hg
     go_wp2_with fail
     generalize wr.alloc (.cells #[.int .i64 (fr : Int), .int .i64 (ti : Int)] 101) = wn at hbx hMn hRn hBB ⊢
     generalize wr.heap.size = gb at hbx ⊢
     obtain ⟨go, cap3, hv3, hgo1, -, cells3, hgo2⟩ := Kd.R_form (hMn.out.st.row 1 _ _ rfl rfl : Kd.R k37 37 wn base _ (.slice A1 kk c1) out) (by rw [hol'.out]; omega)
     rw [hol'.out] at hv3
     cases hv3
     have hgo3 := (hMn.out.st.row 1 _ _ rfl rfl : Kd.R k37 37 wn base _ (.slice (some ⟨go, 0, none⟩) kk c1) out)
     have hgoo : o go = 2 := hgo3.1 go ZB
     obtain ⟨_, _, cells4, hge3⟩ : ∃ a b cells, wn.heap[ge']? = some (.cells cells 3 (0, 0)) := by
      obtain ⟨inner, ho⟩ := Kd.R_own hRn.out
      obtain ⟨cells, hc⟩ := Vq ho ge' ZB
      exact ⟨0, 0, cells, hc⟩
     have hgne : go ≠ ge' := fun e => by rw [e, hge3] at hgo2; cases hgo2
     have hsd : wn.heap[g]? = _ := hMn.out.st.box
     have ct : wn.cell? ⟨ge', ti, none⟩ = some (.int .i64 xt) := row_int hRn.out et.out
     have cf : wn.cell? ⟨ge', fr, none⟩ = some (.int .i64 xf) := row_int hRn.out ef.out
     refine Uk (ds := [20]) (S := fun w' => w'.cell? ⟨g, 1, none⟩ = some (.slice (some ⟨go, 0, none⟩) kk c1) ∧ w'.cell? ⟨gb, 0, none⟩ = some (.int .i64 (fr : Int)) ∧ w'.cell? ⟨gb, 1, none⟩ = some (.int .i64 (ti : Int)) ∧ w'.cell? ⟨ge', ti, none⟩ = some (.int .i64 xt) ∧ w'.cell? ⟨ge', fr, none⟩ = some (.int .i64 xf)) Z2 rfl rfl ⟨hMn.out.st.cell 1 rfl, (Ya hbx 0).trans rfl, (Ya hbx 1).trans rfl, ct, cf⟩ (fun tb hS => ?_)
     have hfrz : (fr : Int) < (kk : Int) := by omega
     have htiz : (ti : Int) < (kk : Int) := by omega
     refine seg_ [(0, 42), (1, 43), (2, 44), (3, 45), (4, 46), (5, 47), (6, 48), (7, 49), (8, 50), (9, 51), (10, 52), (11, 53), (12, 54), (13, 55), (14, 56), (15, 57), (16, 58), (17, 59), (18, 60), (19, 61)] tb hS Z2 (fun _ _ _ _ h => h) (a' := ?_) ?_ ?_
     rotate_left
     ·repeat (first | exact Seg.nil | (refine Seg.on (v := ?_) (a1 := ?_) rfl rfl Z7 ?_ ?_ ?_; rotate_left 2; (rintro w' hS; go_split_ands; go_simp; with_reducible rfl); (simp only [Act.put, List.setIfInBounds_toArray, List.set_cons_zero, List.set_cons_succ, YH, YJ]; rfl)))
     clear hS ct cf e1 e2 e3 e4 g0 g1
     have hBd := YY (Below.refl wn.heap.size wn)
     have hMd := hMn.out.below hBd
     have hRd := Kd.R_below hRn.out hBd
     have hBB2 := hBB.out.trans (Below.mono hBd hMn.out.st.base_le)
     have hgo4 := YQ hgo2 hBd
     have hge4 := YQ hge3 hBd
     clear hBd hgo2 hge3 hsd hbx
     generalize wn.drew = wd at hMd hRd hBB2 hgo4 hge4 ⊢
     have hRo := (hMd.st.row 1 _ _ rfl rfl : Kd.R k37 37 wd base _ (.slice (some ⟨go, 0, none⟩) kk c1) out)
     obtain ⟨cc, hcl, hM, hcc, hfr2⟩ := Kd.R_elem hRo z37 (fr : Int) Z0 hfrz
     obtain rfl := k37_openM hM
     have u0 : wd.cell? ⟨go, fr * 4 + 3, none⟩ = some (.int .i64 (out.getD (fr : Int).toNat z37).f3) := hcc 3 _ rfl
     have u1 : wd.frozen? ⟨go, fr * 4 + 3, none⟩ = false := hfr2 3
     have hseg := Kd.R_seg hRo (fr : Int) Z0 hfrz (seg := [.int .i64 (xt - xf + 2)]) (j := 3) hcl hcc (by show 3 + 1 ≤ 4; omega) (x' := { (out.getD (fr : Int).toNat z37) with f3 := xt - xf + 2 }) (okp := fun _ => False) (YbI _ _ _ _) (fun _ h => h.elim)
     have hset : aim1 E out ⟨fr, ti⟩ = out.set fr { (out.getD fr z37) with f3 := xt - xf + 2 } := by
      rw [aim1_set E out ⟨fr, ti⟩ (by rw [hol'.out]; simpa using hfrk)]
      simp only [Int.toNat_natCast, List.getD_eq_getElem?_getD]
      rw [et.out, ef.out]
      rfl
     have h9 : Mx (wd.setCell ⟨go, fr * 4 + 3, none⟩ (.int .i64 (xt - xf + 2))) base g prims o _ { m with out := aim1 E out ⟨fr, ti⟩ } :=
      ⟨hMd.st.turn 1 (loc_row k37 37 base (aim1 E out ⟨fr, ti⟩)) (fun _ _ => rfl) (fun k hlt _ hne => Below.heap_setCell _ _ _ _ (fun e => hne (by rw [show k = go from e]; exact hgoo))) (fun v hv => by
       cases hv
       rw [hset]
       exact hseg.1), hMd.len⟩
     have hR9 : Kd.R (Kd.int .i64) 3 (wd.setCell ⟨go, fr * 4 + 3, none⟩ (.int .i64 (xt - xf + 2))) w.heap.size (fun _ => True) (.slice (some ⟨ge', 0, none⟩) kk cap) E :=
      Kd.R_mono (Kd.R_step (w1 := wd.setCell ⟨go, fr * 4 + 3, none⟩ (.int .i64 (xt - xf + 2))) (Kd.R_mono (ok' := fun k => k ≠ go) (Kd.R_bound hRd) (fun k hk e => by
       obtain ⟨_, _, _, q, hq, cells, hc⟩ := hk
       rw [e, hgo4] at hc
       cases hc
       exact absurd hq Z1)) (fun k hk _ => Below.heap_setCell _ _ _ _ hk)) (fun _ _ => trivial)
     have hB9 := Aside0.mk (hBB2.setCell (p := ⟨go, fr * 4 + 3, none⟩) (by
      have := Kd.R_base hRo go ZB
      exact this) (.int .i64 (xt - xf + 2)))
     rw [← hout'.out] at h9
     replace h9 := Aside0.mk h9
     replace hR9 := Aside0.mk hR9
     clear hset hseg hcc hM hcl hfr2 hRo hMd hRd hBB2 hgo4 hge4
     refine JL 20 tb rfl Z2 ?_
     go_wp2_with fail
     refine ql_ (end_ tb Z2 ?_)
     go_wp2_with fail
     go_roundg (m.leads.length - (j + 1))
     case measure => exact hgk.out.1
     case rel => exact ⟨j + 1, hgk.out.2, Nat.le_refl _, Zy, hB9, hR9, h9⟩
    ·have hj2 : j = m.leads.length := by omega
     subst hj2
     have hM := HM.out
     rw [List.take_of_length_le (Nat.le_refl _)] at hM
     replace hM := Aside0.mk hM
     go_wp2_with fail
     exact bodyPost_end (results_none rfl _ _ _) rfl ⟨rfl, HB.out, _, _, (by have := hM.out; rw [← hE'.out] at this; exact this)⟩
end
end Go.Proofs.Ytehmhgpogpbjiaa.Fcc
namespace Go.Proofs.Ytehmhgpogpbjiaa.Fcc
def In (n : Nat) (x : Int) : Prop := 0 ≤ x ∧ x < n
theorem In.up {n k : Nat} {x : Int} (h : In n x) (hk : n ≤ k) : In k x := ⟨h.1, (by have := h.2; omega)⟩
structure Inv (prims : List (ByteArray × Int)) (W L : Nat) (m : Mk) : Prop where
 wt : wt m ≤ W
 nl : m.names.length ≤ L
 inp : ∀ t ∈ m.inp, t.f1.size ≤ 4096
 next : 0 ≤ m.next ∧ m.next ≤ 4096
 name : m.name.size ≤ 4096
 code : 0 ≤ m.code ∧ m.code ≤ 4095
 codes : ∀ p ∈ m.names ++ prims, 0 ≤ p.2 ∧ p.2 ≤ 4095
 out : ∀ t ∈ m.out, Fits t ∧ t.f3 = 0
 origs : ∀ x ∈ m.origs, In m.out.length x
 dests : ∀ x ∈ m.dests, In m.out.length x
 loops : ∀ x ∈ m.loops, In m.out.length x
 cases : ∀ c ∈ m.cases, (c.f0 = -1 ∨ In m.out.length c.f0) ∧ ∀ x ∈ c.f1, In m.out.length x
 leads : ∀ l ∈ m.leads, In m.out.length l.f0 ∧ In m.out.length l.f1
section
variable {prims : List (ByteArray × Int)} {W L : Nat} {m m1 : Mk} {named : ByteArray → Bool} {lit : ByteArray → Option Int}
theorem Inv.more (h : Inv prims W L m) {W' L' : Nat} (hW : W ≤ W') (hL : L ≤ L') : Inv prims W' L' m := { h with wt := Nat.le_trans h.wt hW, nl := Nat.le_trans h.nl hL }
theorem wt_add (c n : Int) (s : ByteArray) : wt (m.add c n s) = wt m + 1 := by simp [wt, Mk.add]; omega
theorem Inv.add' {m0 : Mk} (h : Inv prims W L m) (c n : Int) (s : ByteArray) (hc : 0 ≤ c ∧ c ≤ 4095) (hn : 0 ≤ n ∧ n < 4294967296) (hs : s.size ≤ 4096) (ho : m0.out = m.out) (h1 : m0.names = m.names) (h2 : m0.inp = m.inp) (h3 : m0.next = m.next) (h4 : m0.name = m.name) (h5 : m0.code = m.code)
 (hw : Fcc.wt m0 ≤ W) (horigs : ∀ x ∈ m0.origs, In (m.out.length + 1) x) (hdests : ∀ x ∈ m0.dests, In (m.out.length + 1) x) (hloops : ∀ x ∈ m0.loops, In (m.out.length + 1) x)
 (hcases : ∀ c ∈ m0.cases, (c.f0 = -1 ∨ In (m.out.length + 1) c.f0) ∧ ∀ x ∈ c.f1, In (m.out.length + 1) x) (hleads : ∀ l ∈ m0.leads, In (m.out.length + 1) l.f0 ∧ In (m.out.length + 1) l.f1) : Inv prims (W + 1) L (m0.add c n s) := by
 have hl : (m0.add c n s).out.length = m.out.length + 1 := by simp [Mk.add, ho]
 refine ⟨(by rw [wt_add]; omega), (by show m0.names.length ≤ L; rw [h1]; exact h.nl), by show ∀ t ∈ m0.inp, _; rw [h2]; exact h.inp, (by show 0 ≤ m0.next ∧ m0.next ≤ 4096; rw [h3]; exact h.next), (by show m0.name.size ≤ 4096; rw [h4]; exact h.name),
  by show 0 ≤ m0.code ∧ m0.code ≤ 4095; rw [h5]; exact h.code, by show ∀ p ∈ m0.names ++ prims, _; rw [h1]; exact h.codes, ?_, (by rw [hl]; exact horigs), (by rw [hl]; exact hdests), (by rw [hl]; exact hloops), (by rw [hl]; exact hcases), (by rw [hl]; exact hleads)⟩
 intro t ht
 have : t ∈ m.out ∨ t = ⟨c, n, s, 0⟩ := by simpa [Mk.add, ho] using ht
 rcases this with ht | rfl
 ·exact h.out t ht
 ·exact ⟨⟨hc, hn, (by show s.size < _; omega), (by show -2147483648 ≤ (0 : Int) ∧ (0 : Int) < 2147483648; omega)⟩, rfl⟩
theorem Inv.add (h : Inv prims W L m) (c : Int) (n : Int := 0) (s : ByteArray := emp) (hc : 0 ≤ c ∧ c ≤ 4095) (hn : 0 ≤ n ∧ n < 4294967296) (hs : s.size ≤ 4096) : Inv prims (W + 1) L (m.add c n s) :=
 h.add' c n s hc hn hs rfl rfl rfl rfl rfl rfl h.wt (fun x hx => (h.origs x hx).up Z0) (fun x hx => (h.dests x hx).up Z0) (fun x hx => (h.loops x hx).up Z0)
  (fun c hc => ⟨(h.cases c hc).1.imp id (fun h => h.up Z0), fun x hx => ((h.cases c hc).2 x hx).up Z0⟩) (fun l hl => ⟨(h.leads l hl).1.up Z0, (h.leads l hl).2.up Z0⟩)
theorem XK : emp.size ≤ 4096 := by decide
theorem Ud {l l' : List Int} {x : Int} (h : popP l = some (x, l')) : l = l' ++ [x] := by
 rcases snoc_cases l with rfl | ⟨xs, y, rfl⟩
 ·cases h
 ·rw [Uq] at h
  cases h
  rfl
theorem Yaa (m : Mk) : In (m.out.length + 1) m.at_ := ⟨(by unfold Mk.at_; omega), (by unfold Mk.at_; omega)⟩
theorem Je (h : Inv prims W L m) (hr : resolveP m = .inl m1) : Inv prims (W + 1) L m1 := by
 unfold resolveP at hr
 cases hp : popP m.origs with
 | none => rw [hp] at hr; cases hr
 | some p =>
   obtain ⟨x, l⟩ := p
   rw [hp] at hr
   cases hr
   have hl := Ud hp
   have hx := h.origs x Z1a
   refine h.add' 178 0 emp Z0 Z0 XK rfl rfl rfl rfl rfl rfl ?_ (fun y hy => (h.origs y Z1q).up Z0) (fun x hx => (h.dests x hx).up Z0) (fun x hx => (h.loops x hx).up Z0)
    (fun c hc => ⟨(h.cases c hc).1.imp id (fun h => h.up Z0), fun x hx => ((h.cases c hc).2 x hx).up Z0⟩) (fun l2 hl2 => ?_)
   ·have := h.wt
    unfold Fcc.wt at this ⊢
    rw [hl] at this
    simp at this ⊢
    omega
   ·simp only [List.mem_append, List.mem_singleton] at hl2
    rcases hl2 with hl2 | rfl
    ·exact Z1X
    ·exact ⟨hx.up Z0, Yaa m⟩
theorem Ydq {c : Int} (h : Inv prims W L m) (hc : 0 ≤ c ∧ c ≤ 4095) (hr : backP m c = .inl m1) : Inv prims (W + 1) L m1 := by
 unfold backP at hr
 cases hp : popP m.dests with
 | none => rw [hp] at hr; cases hr
 | some p =>
   obtain ⟨x, l⟩ := p
   rw [hp] at hr
   cases hr
   have hl := Ud hp
   have hx := h.dests x Z1a
   refine h.add' c 0 emp hc Z0 XK rfl rfl rfl rfl rfl rfl ?_ (fun x hx => (h.origs x hx).up Z0) (fun y hy => (h.dests y Z1q).up Z0) (fun x hx => (h.loops x hx).up Z0)
    (fun c hc => ⟨(h.cases c hc).1.imp id (fun h => h.up Z0), fun x hx => ((h.cases c hc).2 x hx).up Z0⟩) (fun l2 hl2 => ?_)
   ·have := h.wt
    unfold Fcc.wt at this ⊢
    rw [hl] at this
    simp at this ⊢
    omega
   ·simp only [List.mem_append, List.mem_singleton] at hl2
    rcases hl2 with hl2 | rfl
    ·exact Z1X
    ·exact ⟨Yaa m, hx.up Z0⟩
theorem Ydo (h : Inv prims W L m) (l : List Int) (hl : l.length ≤ m.origs.length + 1) (hin : ∀ x ∈ l, In (m.out.length + 1) x) (c : Int) (hc : 0 ≤ c ∧ c ≤ 4095) : Inv prims (W + 2) L ({ m with origs := l }.add c) := by
 have h' := h.more (Nat.le_succ W) (Nat.le_refl L)
 refine h'.add' c 0 emp hc Z0 XK rfl rfl rfl rfl rfl rfl ?_ hin (fun x hx => (h.dests x hx).up Z0) (fun x hx => (h.loops x hx).up Z0)
  (fun c hc => ⟨(h.cases c hc).1.imp id (fun h => h.up Z0), fun x hx => ((h.cases c hc).2 x hx).up Z0⟩) (fun l hl => ⟨(h.leads l hl).1.up Z0, (h.leads l hl).2.up Z0⟩)
 have := h.wt
 unfold Fcc.wt at this ⊢
 simp only at this ⊢
 omega
theorem Yac {l : List Int} {x y : Int} (h : y ∈ l ++ [x]) : y ∈ l ∨ y = x := by simpa using h
theorem YdV (h : Inv prims W L m) (s : ByteArray) {r : Res} (hb : Xt m s = some r) (hr : r = .inl m1) : Inv prims (W + 3) L m1 := by
 subst hr
 unfold Xt at hb
 split at hb
 ·cases hb
  exact (Ydo h _ Z3 (fun y hy => (Yac hy).elim (fun hy => (h.origs y hy).up Z0) (fun e => e ▸ Yaa m)) 20 Z0).more Z0 (Nat.le_refl _)
 split at hb
 ·cases hp : popP m.origs with
  | none => rw [hp] at hb; cases hb
  | some p =>
    obtain ⟨x, l⟩ := p
    rw [hp] at hb
    injection hb with hb
    have hl := Ud hp
    have hx := h.origs x Z1a
    refine Je (Ydo h (l ++ [m.at_, x]) Z1a (fun y hy => ?_) 19 Z0) hb
    have : y ∈ l ∨ y = m.at_ ∨ y = x := by simpa using hy
    rcases this with hy | rfl | rfl
    ·exact (h.origs y Z1q).up Z0
    ·exact Yaa m
    ·exact hx.up Z0
 split at hb
 ·injection hb with hb
  exact (Je h hb).more Z0 (Nat.le_refl _)
 split at hb
 ·cases hb
  have h' := h.more (Nat.le_succ W) (Nat.le_refl L)
  refine Inv.more (W := W + 2) (h'.add' (m0 := { m with dests := m.dests ++ [m.at_] }) 177 0 emp Z0 Z0 XK rfl rfl rfl rfl rfl rfl ?_ (fun x hx => (h.origs x hx).up Z0) (fun y hy => (Yac hy).elim (fun hy => (h.dests y hy).up Z0) (fun e => e ▸ Yaa m)) (fun x hx => (h.loops x hx).up Z0)
   (fun c hc => ⟨(h.cases c hc).1.imp id (fun h => h.up Z0), fun x hx => ((h.cases c hc).2 x hx).up Z0⟩) (fun l hl => ⟨(h.leads l hl).1.up Z0, (h.leads l hl).2.up Z0⟩)) Z0 (Nat.le_refl _)
  have := h.wt
  unfold Fcc.wt at this ⊢
  simp at this ⊢
  omega
 split at hb
 ·injection hb with hb
  exact Z2t
 split at hb
 ·injection hb with hb
  exact Z2t
 split at hb
 ·injection hb with hb
  cases hbk : backP m 19 with
  | inr e => rw [hbk] at hb; cases hb
  | inl m2 =>
    rw [hbk] at hb
    exact (Je (Ydq h Z0 hbk) hb).more Z0 (Nat.le_refl _)
 ·cases hb
theorem inv_loop (h : Inv prims W L m) (s : ByteArray) {r : Res} (hb : VP m s = some r) (hr : r = .inl m1) : Inv prims (W + 3) L m1 := by
 subst hr
 have h' := h.more (Nat.le_succ W) (Nat.le_refl L)
 have hdo : ∀ c : Int, 0 ≤ c ∧ c ≤ 4095 → Inv prims (W + 3) L ({ m with loops := m.loops ++ [m.at_] }.add c) := fun c hc => by
  refine Inv.more (W := W + 2) (h'.add' (m0 := { m with loops := m.loops ++ [m.at_] }) c 0 emp hc Z0 XK rfl rfl rfl rfl rfl rfl ?_ (fun x hx => (h.origs x hx).up Z0) (fun x hx => (h.dests x hx).up Z0) (fun y hy => (Yac hy).elim (fun hy => (h.loops y hy).up Z0) (fun e => e ▸ Yaa m))
   (fun c hc => ⟨(h.cases c hc).1.imp id (fun h => h.up Z0), fun x hx => ((h.cases c hc).2 x hx).up Z0⟩) (fun l hl => ⟨(h.leads l hl).1.up Z0, (h.leads l hl).2.up Z0⟩)) Z0 (Nat.le_refl _)
  have := h.wt
  unfold Fcc.wt at this ⊢
  simp at this ⊢
  omega
 unfold VP at hb
 split at hb
 ·cases hb
  exact hdo 23 Z0
 split at hb
 ·cases hb
  exact hdo 24 Z0
 split at hb
 ·cases hp : popP m.loops with
  | none => rw [hp] at hb; cases hb
  | some p =>
    obtain ⟨x, l⟩ := p
    rw [hp] at hb
    cases hb
    have hl := Ud hp
    have hx := h.loops x Z1a
    refine Inv.more (W := W + 2) (h'.add' (m0 := { m with loops := l, leads := m.leads ++ ([⟨m.at_, x⟩, ⟨x, m.at_⟩] : List Ld) }) (if s.toList = ([43, 108, 111, 111, 112] : List UInt8) then 22 else 21) 0 emp (by split <;> omega) Z0 XK rfl rfl rfl rfl rfl rfl ?_ (fun x hx => (h.origs x hx).up Z0) (fun x hx => (h.dests x hx).up Z0) (fun y hy => (h.loops y Z1q).up Z0)
     (fun c hc => ⟨(h.cases c hc).1.imp id (fun h => h.up Z0), fun x hx => ((h.cases c hc).2 x hx).up Z0⟩) (fun l2 hl2 => ?_)) Z0 (Nat.le_refl _)
    ·have := h.wt
     unfold Fcc.wt at this ⊢
     rw [hl] at this
     simp at this ⊢
     omega
    ·have : l2 ∈ m.leads ∨ l2 = ⟨m.at_, x⟩ ∨ l2 = ⟨x, m.at_⟩ := by simpa using hl2
     rcases this with hl2 | rfl | rfl
     ·exact Z1X
     ·exact ⟨Yaa m, hx.up Z0⟩
     ·exact ⟨hx.up Z0, Yaa m⟩
 split at hb
 ·injection hb with hb
  split at hb
  ·cases hb
  ·cases hb
   exact (h.add 27 (hc := by omega) (hn := by omega) (hs := XK)).more Z0 (Nat.le_refl _)
 ·cases hb
theorem Ybq (l : List Ch) (c : Ch) : ((l ++ [c]).map (fun c => c.f1.length + 1)).sum = (l.map (fun c => c.f1.length + 1)).sum + (c.f1.length + 1) := by simp
theorem YdU (h : Inv prims W L m) (s : ByteArray) (hb : Vh m s = .inl m1) : Inv prims (W + 3) L m1 := by
 have h' := h.more (Nat.le_add_right W 2) (Nat.le_refl L)
 have hco : ∀ c ∈ m.cases, (c.f0 = -1 ∨ In (m.out.length + 1) c.f0) ∧ ∀ x ∈ c.f1, In (m.out.length + 1) x := fun c hc => ⟨(h.cases c hc).1.imp id (fun h => h.up Z0), fun x hx => ((h.cases c hc).2 x hx).up Z0⟩
 have hlo : ∀ l ∈ m.leads, In (m.out.length + 1) l.f0 ∧ In (m.out.length + 1) l.f1 := fun l hl => ⟨(h.leads l hl).1.up Z0, (h.leads l hl).2.up Z0⟩
 unfold Vh at hb
 split at hb
 ·cases hb
  refine h'.add' 196 0 emp Z0 Z0 XK rfl rfl rfl rfl rfl rfl ?_ (fun x hx => (h.origs x hx).up Z0) (fun x hx => (h.dests x hx).up Z0) (fun x hx => (h.loops x hx).up Z0) (fun c hc => ?_) hlo
  ·have := h.wt
   unfold Fcc.wt at this ⊢
   simp at this ⊢
   omega
  ·have : c ∈ m.cases ∨ c = ⟨-1, []⟩ := by simpa using hc
   rcases this with hc | rfl
   ·exact hco c hc
   ·exact ⟨.inl rfl, fun x hx => by cases hx⟩
 ·rcases List.eq_nil_or_concat m.cases with hc | ⟨pre, c, hc⟩
  ·rw [hc] at hb; cases hb
  ·rw [List.concat_eq_append] at hc
   have hl : m.cases.getLast? = some c := by rw [hc]; simp
   have hd : m.cases.dropLast = pre := by rw [hc]; simp
   rw [hl, hd] at hb
   have hcc := hco c (by rw [hc]; simp)
   have hpre : ∀ c ∈ pre, (c.f0 = -1 ∨ In (m.out.length + 1) c.f0) ∧ ∀ x ∈ c.f1, In (m.out.length + 1) x := fun c' hc' => hco c' (by rw [hc]; simp [hc'])
   have hw := h.wt
   unfold Fcc.wt at hw
   rw [hc, Ybq] at hw
   simp only at hb
   split at hb
   ·cases hb
   split at hb
   ·cases hb
    refine h'.add' 28 0 emp Z0 Z0 XK rfl rfl rfl rfl rfl rfl ?_ (fun x hx => (h.origs x hx).up Z0) (fun x hx => (h.dests x hx).up Z0) (fun x hx => (h.loops x hx).up Z0) (fun c' hc' => ?_) hlo
    ·unfold Fcc.wt
     simp only [Ybq]
     omega
    ·have : c' ∈ pre ∨ c' = ⟨m.at_, c.f1⟩ := by simpa using hc'
     rcases this with hc' | rfl
     ·exact hpre c' hc'
     ·exact ⟨.inr (Yaa m), hcc.2⟩
   split at hb
   ·rename_i hn _ he
    cases hb
    have hf0 : ¬ c.f0 < 0 := fun e => hn ⟨fun _ => he, fun _ => e⟩
    have hin : In (m.out.length + 1) c.f0 := hcc.1.elim (fun e => by omega) id
    refine h'.add' 198 0 emp Z0 Z0 XK rfl rfl rfl rfl rfl rfl ?_ (fun x hx => (h.origs x hx).up Z0) (fun x hx => (h.dests x hx).up Z0) (fun x hx => (h.loops x hx).up Z0) (fun c' hc' => ?_) (fun l2 hl2 => ?_)
    ·unfold Fcc.wt
     simp only [Ybq, List.length_append, List.length_singleton]
     omega
    ·have : c' ∈ pre ∨ c' = ⟨-1, c.f1 ++ [m.at_]⟩ := by simpa using hc'
     rcases this with hc' | rfl
     ·exact hpre c' hc'
     ·exact ⟨.inl rfl, fun x hx => (Yac hx).elim (hcc.2 x) (fun e => e ▸ Yaa m)⟩
    ·have : l2 ∈ m.leads ∨ l2 = ⟨c.f0, m.at_⟩ := by simpa using hl2
     rcases this with hl2 | rfl
     ·exact hlo l2 hl2
     ·exact ⟨hin, Yaa m⟩
   ·cases hb
    refine h'.add' 197 0 emp Z0 Z0 XK rfl rfl rfl rfl rfl rfl ?_ (fun x hx => (h.origs x hx).up Z0) (fun x hx => (h.dests x hx).up Z0) (fun x hx => (h.loops x hx).up Z0) hpre (fun l2 hl2 => ?_)
    ·unfold Fcc.wt
     simp only [List.length_append, List.length_map]
     omega
    ·simp only [List.mem_append, List.mem_map] at hl2
     rcases hl2 with hl2 | ⟨x, hx, rfl⟩
     ·exact hlo l2 hl2
     ·exact ⟨hcc.2 x hx, Yaa m⟩
theorem Inv.take (h : Inv prims W L m) {t : Tin} {r : List Tin} (hm : m.inp = t :: r) : Inv prims W L { m with inp := r } := { h with inp := fun t' ht => h.inp t' (by rw [hm]; exact List.mem_cons_of_mem _ ht), wt := h.wt }
theorem YbJ {s : ByteArray} (h : Inv prims W L m) (hr : Vl m = .inl (s, m1)) : Inv prims W L m1 ∧ s.size ≤ 4096 ∧ m1.next = m.next := by
 unfold Vl at hr
 cases hm : m.inp with
 | nil => rw [hm] at hr; cases hr
 | cons t r =>
   rw [hm] at hr
   simp only at hr
   split at hr
   ·cases hr
    exact ⟨h.take hm, h.inp t Z1J, rfl⟩
   ·cases hr
theorem Ydp (h : Inv prims W L m) {s : ByteArray} {n : Int} (hf : UK prims m s = some n) : 0 ≤ n ∧ n ≤ 4095 := by
 rw [← Ue] at hf
 unfold look at hf
 obtain ⟨p, hp, rfl⟩ := Option.map_eq_some_iff.1 hf
 exact h.codes p (List.mem_of_find?_eq_some hp)
theorem inv_named {c : Int} (h : Inv prims W L m) (hc : 0 ≤ c ∧ c ≤ 4095) (hr : Vo prims m c = .inl m1) : Inv prims (W + 1) L m1 := by
 unfold Vo at hr
 cases hw : Vl m with
 | inr e => rw [hw] at hr; cases hr
 | inl p =>
   obtain ⟨s, m2⟩ := p
   rw [hw] at hr
   obtain ⟨h2, -, -⟩ := YbJ h hw
   simp only at hr
   split at hr
   ·cases hr
   ·rename_i n hf
    cases hr
    have := Ydp h2 hf
    exact h2.add c n emp hc Z0 XK
theorem makesP_in (s : ByteArray) : 0 ≤ YT s ∧ YT s ≤ 4095 := by
 unfold YT
 repeat' split
 all_goals omega
theorem Ydn (h : Inv prims W L m) (s : ByteArray) (hr : XN named s m = .inl m1) : Inv prims (W + 2) (L + 1) m1 := by
 unfold XN at hr
 cases hf : Vf named m with
 | inr e => rw [hf] at hr; cases hr
 | inl p =>
   obtain ⟨n, c, m2⟩ := p
   rw [hf] at hr
   have h2 : Inv prims W L m2 ∧ n.size ≤ 4096 ∧ 0 ≤ c ∧ c ≤ 4095 := by
    unfold Vf at hf
    split at hf
    ·cases hf
    ·rename_i s' m3 hw
     obtain ⟨h3, hs, hx⟩ := YbJ h hw
     split at hf
     ·cases hf
     split at hf
     ·cases hf
     ·rename_i hle
      cases hf
      have := h3.next
      exact ⟨{ h3 with next := by show 0 ≤ m3.next + 1 ∧ m3.next + 1 ≤ 4096; omega, wt := h3.wt }, hs, Z0, Z0⟩
   obtain ⟨h2, hs, hc0, hc1⟩ := h2
   have h4 := (h2.add 182 c n Z0 Z0 hs).add (YT s) 0 emp (makesP_in s) Z0 XK
   simp only at hr
   split at hr
   ·cases hr
    exact { h4 with name := hs, code := ⟨hc0, hc1⟩, wt := h4.wt, nl := Nat.le_succ_of_le h4.nl }
   ·cases hr
    refine { h4 with codes := fun p hp => ?_, wt := h4.wt, nl := by show ((_ : List (ByteArray × Int)).length) ≤ _; rw [List.length_cons]; exact Nat.succ_le_succ h4.nl }
    have : p = (n, c) ∨ p ∈ m2.names ++ prims := by simpa [Mk.add] using hp
    rcases this with rfl | hp
    ·exact ⟨hc0, hc1⟩
    ·exact h2.codes p hp
theorem YdT (h : Inv prims W L m) (s : ByteArray) (hr : XJ named m s = .inl m1) : Inv prims (W + 3) (L + 1) m1 := by
 by_cases h1 : s.toList = ([105, 110, 115, 116, 97, 110, 99, 101] : List UInt8)
 ·have he : XJ named m s = (match (match Vl m with
   | .inl (s, m1) => if s.toList = ([118, 97, 108, 117, 101] : List UInt8) then .inl (m1.add 192) else .inr 15
   | .inr _ => .inr 15 : Res) with
  | .inr e => .inr e
  | .inl m1 => XN named s m1) := by unfold XJ; rw [if_pos h1]; rfl
  rw [he] at hr
  cases hw : Vl m with
  | inr e => rw [hw] at hr; cases hr
  | inl p =>
    obtain ⟨s', m2⟩ := p
    rw [hw] at hr
    simp only at hr
    split at hr
    ·cases hr
    ·rename_i m3 he3
     split at he3
     ·cases he3
      exact Ydn ((YbJ h hw).1.add 192 0 emp Z0 Z0 XK) s hr
     ·cases he3
 ·have he : XJ named m s = XN named s m := by unfold XJ; rw [if_neg h1]; rfl
  rw [he] at hr
  exact (Ydn h s hr).more Z0 (Nat.le_refl _)
theorem YdS (h : Inv prims W L m) (s : ByteArray) (hr : VN prims m s = .inl m1) : Inv prims (W + 3) (L + 1) m1 := by
 unfold VN at hr
 split at hr
 ·split at hr
  ·cases hr
  ·cases hr
   have h4 := h.add 194 0 emp Z0 Z0 XK
   have h5 : Inv prims (W + 1) (L + 1) { m.add 194 with opn := false, names := ((m.add 194).name, (m.add 194).code) :: (m.add 194).names } := by
    refine { h4 with codes := fun p hp => ?_, wt := h4.wt, nl := Nat.succ_le_succ h4.nl }
    have : p = (m.name, m.code) ∨ p ∈ m.names ++ prims := by simpa [Mk.add] using hp
    rcases this with rfl | hp
    ·exact h.code
    ·exact h.codes p hp
   exact h5.more Z0 (Nat.le_refl _)
 split at hr
 ·cases hr
  exact (h.add 51 0 emp Z0 Z0 XK).more Z0 Z0
 split at hr
 ·exact Z1Y
 split at hr
 ·rename_i r hb
  exact (YdV h s hb hr).more Z0 Z0
 ·split at hr
  ·rename_i r hb
   exact (inv_loop h s hb hr).more Z0 Z0
  ·exact (YdU h s hr).more Z0 Z0
theorem inv_one (hlit : ∀ s v, lit s = some v → 0 ≤ v ∧ v < 4294967296) (h : Inv prims W L m) (s : ByteArray) (hr : oneP named prims lit m s = .inl m1) : Inv prims (W + 3) (L + 1) m1 := by
 unfold oneP at hr
 split at hr
 ·cases hr
 split at hr
 ·exact YdS h s hr
 split at hr
 ·exact Z1Y
 split at hr
 ·exact YdT h s hr
 split at hr
 ·exact Z1Y
 split at hr
 ·rename_i c hf
  cases hr
  exact (h.add c 0 emp (Ydp h hf) Z0 XK).more Z0 Z0
 ·split at hr
  ·cases hr
  ·rename_i v hl
   cases hr
   exact (h.add 16 v emp Z0 (hlit s v hl) XK).more Z0 Z0
theorem YbK (hlit : ∀ s v, lit s = some v → 0 ≤ v ∧ v < 4294967296) (h : Inv prims W L m) (x : Tin) (hx : x.f1.size ≤ 4096) (hr : tokP named prims lit m x = .inl m1) : Inv prims (W + 3) (L + 1) m1 := by
 unfold tokP at hr
 split at hr
 ·exact inv_one hlit h x.f1 hr
 split at hr
 ·cases hr
  exact (((h.add 18 0 x.f1 Z0 Z0 hx).add 144 0 emp Z0 Z0 XK)).more Z0 Z0
 ·cases hr
  exact ((h.add 18 0 x.f1 Z0 Z0 hx)).more Z0 Z0
theorem Inv.ok (h : Inv prims W L m) (hW : W ≤ 1000000000) (hL : L ≤ 1000000000) (hp : prims.length ≤ 1000000) : Ok prims m := by
 have hmx : maxLen = 9223372036854775807 := rfl
 have h1 := h.wt
 have h2 := h.nl
 exact ⟨Z0, (by rw [List.length_append]; omega), fun t ht => by have := h.inp t ht; omega, h.next, (by have := h.name; omega), h.code, h.codes⟩
end
end Go.Proofs.Ytehmhgpogpbjiaa.Fcc
namespace Go.Proofs.Ytehmhgpogpbjiaa.Fcc
open Go.RowKit Go.Proofs.YtehmhgpogpbjiaaW.PrintWords Go.Proofs.YtehmhgpogpbjiaaW.PrintLast Go.Proofs.YtehmhgpogpbjiaaW.PrintMore Go.Proofs.Ytehmhgpogpbjiaa.PFccTokens
open Go.Maps (string_keyed)
abbrev CutC (f : FuncId) (cut : ByteArray → List S59 × Int) : Prop := ∀ (s : ByteArray) (W : World), s.size ≤ maxLen → Calls Try.prog f #[.string s] W fun e W' => ∃ v, e = .returned (.tuple #[v, .int .i64 (cut s).2]) ∧ Kd.R k59 59 W' W.heap.size (fun _ => True) v (cut s).1 ∧ Below W.heap.size W W'
abbrev PrimsC (f : FuncId) (P : List S34) : Prop := ∀ W : World, Calls Try.prog f #[] W fun e W' => ∃ v, e = .returned v ∧ Kd.R k34 34 W' W.heap.size (fun _ => True) v P ∧ Below W.heap.size W W'
def pr (p : S34) : ByteArray × Int := (p.f0, p.f1)
theorem Mx.make {w : World} {base g b : Nat} {v : Value} {l : List S59} {ok : Nat → Prop} (hb : w.heap[g]? = some (.cells #[v, .slice none 0 0, .map (some b), .int .i64 2048, .bool false, .string ⟨#[]⟩, .int .i64 0, .slice none 0 0, .slice none 0 0, .slice none 0 0, .slice none 0 0, .slice none 0 0] 57 (0, 0)))
 (hbg : base ≤ g) (hbb : base ≤ b) (hR : Kd.R k59 59 w base ok v l) (hm : w.ownsMap Try.prog 9 (plainElem (H := Unit) Try.prog 3) b 0 (.map [])) :
 Mx w base g [] (fun k => if k = g then 0 else if k = b then 3 else 1) [v, .slice none 0 0, .map (some b), .int .i64 2048, .bool false, .string ⟨#[]⟩, .int .i64 0, .slice none 0 0, .slice none 0 0, .slice none 0 0, .slice none 0 0, .slice none 0 0] (Un l) := by
 have hbk : ∃ es clock, w.heap[b]? = some (.map es clock) := by
  obtain ⟨es, clock, h1, _⟩ := hm
  exact ⟨es, clock, h1⟩
 obtain ⟨es, clock, hbk⟩ := hbk
 have hgb : b ≠ g := fun e => by rw [e, hb] at hbk; cases hbk
 refine ⟨⟨hb, hbg, if_pos rfl, fun i u P hu hP => ?_, fun i P hP => ?_⟩, rfl⟩
 ·match i, hu, hP with
  | 0, hu, hP =>
    cases hu
    cases hP
    obtain ⟨A, c, rfl⟩ := Kd.R_slice hR
    refine ⟨l, A, A, l.length, c, 0, Kd.R_mono (Kd.R_bound hR) (fun k hk => ?_), Nat.zero_le _, rfl, rfl, fun _ => ?_⟩
    ·obtain ⟨_, _, _, q, hq, cells, hc⟩ := hk
     have h1 : k ≠ g := fun e => by rw [e, hb] at hc; cases hc; exact absurd hq Z1
     have h2 : k ≠ b := fun e => by rw [e, hbk] at hc; cases hc
     show (if k = g then 0 else if k = b then 3 else 1) = 1
     rw [if_neg h1, if_neg h2]
    ·cases A with
     | none => rfl
     | some a => simp [Addr.add]
  | 1, hu, hP => cases hu; cases hP; exact Kd.R_nil _ _ _ _ _
  | 2, hu, hP =>
    cases hu
    cases hP
    refine ⟨0, .map [], Nat.zero_le _, fun s => ⟨rfl, fun c hc => by cases hc⟩, b, rfl, ?_, hbb, hm⟩
    show (if b = g then 0 else if b = b then 3 else 1) = 3
    rw [if_neg hgb, if_pos rfl]
  | 3, hu, hP => cases hu; cases hP; rfl
  | 4, hu, hP => cases hu; cases hP; rfl
  | 5, hu, hP => cases hu; cases hP; rfl
  | 6, hu, hP => cases hu; cases hP; rfl
  | 7, hu, hP => cases hu; cases hP; exact Kd.R_nil _ _ _ _ _
  | 8, hu, hP => cases hu; cases hP; exact Kd.R_nil _ _ _ _ _
  | 9, hu, hP => cases hu; cases hP; exact Kd.R_nil _ _ _ _ _
  | 10, hu, hP => cases hu; cases hP; exact Kd.S_bare (Kd.R_nil _ _ _ _ _)
  | 11, hu, hP => cases hu; cases hP; exact Kd.R_nil _ _ _ _ _
  | i + 12, hu, hP => simp at hu
 ·match i, hP with
  | 0, hP => cases hP; exact loc_in _ _
  | 1, hP => cases hP; exact loc_row _ _ _ _
  | 2, hP => cases hP; exact loc_names _ _
  | 3, hP => cases hP; exact loc_val _ _
  | 4, hP => cases hP; exact loc_val _ _
  | 5, hP => cases hP; exact loc_val _ _
  | 6, hP => cases hP; exact loc_val _ _
  | 7, hP => cases hP; exact loc_row _ _ _ _
  | 8, hP => cases hP; exact loc_row _ _ _ _
  | 9, hP => cases hP; exact loc_row _ _ _ _
  | 10, hP => cases hP; exact loc_rows _ _ _ _
  | 11, hP => cases hP; exact loc_row _ _ _ _
  | i + 12, hP => simp [mkF] at hP
theorem Ycg {prims : List (ByteArray × Int)} (hc : ∀ p ∈ prims, 0 ≤ p.2 ∧ p.2 ≤ 4095) {l : List Tin} (ht : ∀ t ∈ l, t.f1.size ≤ 4096) : Inv prims 0 0 (Un l) where
 wt := Nat.le_refl _
 nl := Nat.le_refl _
 inp := ht
 next := by show (0 : Int) ≤ 2048 ∧ (2048 : Int) ≤ 4096; omega
 name := by show emp.size ≤ 4096; decide
 code := by show (0 : Int) ≤ 0 ∧ (0 : Int) ≤ 4095; omega
 codes := fun p hp => hc p (by simpa [Un] using hp)
 out := fun t ht => nomatch ht
 origs := fun t ht => nomatch ht
 dests := fun t ht => nomatch ht
 loops := fun t ht => nomatch ht
 cases := fun t ht => nomatch ht
 leads := fun t ht => nomatch ht
theorem YcA (ad : Addr) (n c : Nat) (hc : n + 1 ≤ c) : ∃ A' : Option Addr, (∀ W : World, (Instr.slice 48 (.slice (some ad) (n + 1) c) (some (.int .i64 1)) none none).run Try.prog W = .ok (.slice A' n (c - 1)) W) ∧ (0 < n → A' = some (ad.add 3)) := by
 refine ⟨if c = 1 then some ad else some (ad.add 3), fun W => ?_, fun h => by rw [if_neg Z0]⟩
 obtain ⟨i0, hi, hz0, hz1, hz2⟩ := info_parts YaC
 have ht : Try.prog.underlying 48 = some (.slice 59) := Try.underlying48
 have hel : Try.prog.elem 48 = 59 := by simp [Program.elem, ht]
 have hu : Try.prog.underlying 48 = some (.slice (Try.prog.elem 48)) := by rw [hel]; exact ht
 rw [run_slice_l W 48 (some ad) (n + 1) c hu .i64 1 Z0 Z0, hel]
 simp [sizeOf, typeInfo, hi, hz1, sliced, Result.andThen]
theorem in_cons3 {w : World} {base : Nat} {t : S59} {r : List S59} {ok : Nat → Prop} {v : Value} (h : inF base (t :: r) w ok v) : ∃ ad c, v = .slice (some ad) (r.length + 1) c ∧ r.length + 1 ≤ c ∧ r.length + 1 < 9223372036854775808 ∧ w.cell? ad = some (.int .i64 t.f0) ∧ w.cell? ⟨ad.block, ad.off + 1, none⟩ = some (.string t.f1) ∧ w.cell? ⟨ad.block, ad.off + 2, none⟩ = some (.int .i64 t.f2) ∧
 ∀ A', (0 < r.length → A' = some (ad.add 3)) → inF base r w ok (.slice A' r.length (c - 1)) := by
 obtain ⟨ad, c, hv, h1, h2, h3, h4, h5⟩ := YcP h
 refine ⟨ad, c, hv, h1, h2, h3, h4, ?_, h5⟩
 obtain ⟨L, A, A0, n, c', j, hR, hj, hl, hv2, hA⟩ := h
 rw [hv] at hv2
 injection hv2 with e1 e2 e3
 obtain ⟨hn, hnc, hC⟩ := Kd.R_reads' hR
 have hlen : L.length = j + (r.length + 1) := by
  have := congrArg List.length hl
  rw [List.length_drop, List.length_cons] at this
  omega
 have hA0 := hA Z0
 obtain ⟨ad2, e, g0, g1, g2⟩ := at_T59 hC (j : Int) Z0 Z0
 subst e
 rw [Option.map_some, ← e1] at hA0
 injection hA0 with hA0
 rw [Int.toNat_natCast] at g2
 have hrd : Yas L (j : Int) = t := by
  have h2 : L[j]? = some t := by
   have := congrArg (fun l => l[0]?) hl
   simpa using this.symm
  simp [Yas, List.getD_eq_getElem?_getD, h2]
 rw [hrd, ← hA0] at g2
 exact g2
end Go.Proofs.Ytehmhgpogpbjiaa.Fcc
