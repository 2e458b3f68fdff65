import Derived.Test.Ytehmhgpogpbjiaafr16
import Derived.WideKeyEntry
import Derived.Maps.Views
import Derived.Maps.OwnOps
import Derived.StringKeys
import Derived.WalkArith
import Derived.StillTailTactics
set_option linter.unusedVariables false
set_option linter.unusedSimpArgs false
set_option maxRecDepth 100000
set_option maxHeartbeats 8000000
namespace Go.Proofs.Ytehmhgpogpbjiaa.Fcc
open Go.RowKit Go.Proofs.YtehmhgpogpbjiaaW.PrintWords Go.Proofs.YtehmhgpogpbjiaaW.PrintLast Go.Proofs.YtehmhgpogpbjiaaW.PrintMore Go.Proofs.Ytehmhgpogpbjiaa.PFccTokens
open Go.Maps (string_keyed)
theorem own_isMap {H : Type} {P : Program} {k : TypeId} {R : Value → Option (DataW H × List MemPlace)} {w : World} {b n : Nat} {D : DataW H} (h : w.ownsMap P k R b n D) : Maps.IsMap D := by
 obtain ⟨es, clock, _, _, _, rfl⟩ := h
 exact ⟨_, rfl⟩
theorem Ybi.put {D : DataW Unit} {l : List (ByteArray × Int)} (h : Ybi D l) (hD : Maps.IsMap D) (s : ByteArray) (c : Int) : Ybi (D.put (.string s.data.toList) (.lit (.int .i64 c))) ((s, c) :: l) := by
 intro t
 have hk : WideAt.IsKeyLit (.string s.data.toList) := trivial
 by_cases ht : s = t
 ·subst ht
  refine ⟨(by rw [Maps.has_put_same hD hk]; simp [look]), fun c' hc => ?_⟩
  rw [Maps.atKey_put_same hD hk]
  simp [look] at hc
  rw [hc]
 ·have hne : (Lit.string t.data.toList) ≠ .string s.data.toList := fun e => by
   injection e with e
   exact ht (ByteArray.ext (Array.ext' e.symm))
  have hl : look ((s, c) :: l) t = look l t := by simp [look, List.find?_cons, ht]
  rw [hl]
  exact ⟨(by rw [Maps.has_put_other hne]; exact (h t).1), fun c' hc => by rw [Maps.atKey_put_other hne]; exact (h t).2 c' hc⟩
theorem key9 {s : ByteArray} (hsz : s.size ≤ maxLen) : keyOf Try.prog 9 (.string s) = some (.string s.data.toList) := Go.WideMaps.keyOf_string_mk Try.underlying9 hsz
section
variable {w w1 : World} {base g : Nat} {prims : List (ByteArray × Int)} {o : Nat → Nat} {vs : List Value} {m : Mk}
theorem Mx.map (h : Mx w base g prims o vs m) : ∃ b n D, vs[2]? = some (.map (some b)) ∧ o b = 3 ∧ base ≤ b ∧ n ≤ (m.names ++ prims).length ∧ Ybi D (m.names ++ prims) ∧ w.ownsMap Try.prog 9 (plainElem Try.prog 3) b n D := by
 obtain ⟨v, hv⟩ : ∃ v, vs[2]? = some v := ⟨_, List.getElem?_eq_getElem ZZ⟩
 obtain ⟨n, D, hn, hA, b, rfl, hb, hbb, hD⟩ := (h.st.row 2 v (UX base (m.names ++ prims)) hv rfl : UX base (m.names ++ prims) w _ v)
 exact ⟨b, n, D, hv, hb, hbb, hn, hA, hD⟩
theorem Mx.named1 {b n : Nat} {D : DataW Unit} (h : Mx w base g prims o vs m) (hv : vs[2]? = some (.map (some b))) (hb : o b = 3) (hbb : base ≤ b) (hn : n ≤ (m.names ++ prims).length) (hA : Ybi D (m.names ++ prims)) (hD : w.ownsMap Try.prog 9 (plainElem Try.prog 3) b n D)
 (s : ByteArray) (c : Int) (hg : w.grownBy w1 (some b)) (hD1 : w1.ownsMap Try.prog 9 (plainElem Try.prog 3) b (n + 1) (D.put (.string s.data.toList) (.lit (.int .i64 c)))) : Mx w1 base g prims o vs { m with names := (s, c) :: m.names } := by
 refine ⟨h.st.turn 2 (loc_names base ((s, c) :: (m.names ++ prims))) (fun _ _ => rfl) (fun k hlt _ hne => hg.block k hlt (fun e => hne (by cases e; exact hb))) (fun v hv' => ?_), h.len⟩
 rw [hv] at hv'
 cases hv'
 exact ⟨n + 1, _, (by simp at hn ⊢; omega), hA.put (own_isMap hD) s c, b, rfl, hb, hbb, hD1⟩
end
theorem Ue (prims : List (ByteArray × Int)) (m : Mk) (s : ByteArray) : look (m.names ++ prims) s = UK prims m s := by
 unfold look UK
 rw [List.find?_append]
 cases m.names.find? (fun p => decide (p.1 = s)) <;> rfl
theorem Ydz : ∀ w, (zeroValue 3).run Try.prog w = .ok (.int .i64 0) w := by
 have h : (Try.prog.info? 3).map (fun i => (i.zero, i.size, i.bytes)) = some (some (.int .i64 0), 1, 8) := by kernel_rfl
 obtain ⟨i0, hi, hz0, -, -⟩ := info_parts h
 intro w
 simp [zeroValue, typeInfo, hi, hz0]
section
variable {w : World} {base g : Nat} {prims : List (ByteArray × Int)} {o : Nat → Nat} {vs : List Value} {m : Mk}
theorem YcK (code : Int) {t : S59} {r : List S59} {n : Int} (h : Mx w base g prims o vs m) (hl : m.out.length < 1099511627776) (hm : m.inp = t :: r) (ht : t.f0 = 1) (hf : UK prims m t.f1 = some n) (hn : 0 ≤ n ∧ n < 4294967296) (hsz : t.f1.size ≤ maxLen) :
 Calls Try.prog 37 #[.pointer (some ⟨g, 0, none⟩), .int .i64 code] w (XQ base g prims (.inl ({ m with inp := r }.add code n)) w) := by
 go_enter Try.func37, Try.ntmps37
 go_wp2_with fail
 refine (VZ h hm ht).mono ?_
 rintro e w1 ⟨rfl, hB1, o1, vs1, h1⟩
 obtain ⟨v0, A1, c1, b, A7, c7, A8, c8, A9, c9, A10, c10, A11, c11, rfl⟩ := h1.cells
 obtain ⟨n1, D, hn1, hag, b', hb', -, -, hown⟩ := (h1.st.row 2 _ _ rfl rfl : UX base (m.names ++ prims) w1 _ (.map (some b)))
 cases hb'
 have hc2 := h1.st.cell 2 rfl
 have hlk : look (m.names ++ prims) t.f1 = some n := by rw [Ue]; exact hf
 have ha := hag t.f1
 rw [hlk] at ha
 have hat0 := Aside0.mk (ha.2 n rfl)
 have hhas : Maps.has D (.string t.f1.data.toList) = true := ha.1
 clear ha hlk hag
 have hX := Aside0.mk h1
 clear h1 h
 go_wp2_with (at_lookup; refine wpList_lookup_own_ok_int _ rfl _ _ 52 rfl 9 3 .i64 (string_keyed Try.underlying9) Try.underlying52 Try.underlying3 (Ydz _) b n1 D rfl hown _ _ rfl (Go.WideMaps.keyOf_string_mk Try.underlying9 hsz) ?_; intro c hat hwc)
 have hcn : c = n := by
  have := hat.symm.trans hat0.out
  simpa using this
 subst hcn
 rw [show c % 4294967296 = c from Int.emod_eq_of_lt hn.1 hn.2]
 refine (YW hX.out code c ⟨#[]⟩ hl).mono ?_
 rintro e w4 ⟨rfl, hB4, o4, vs4, h4⟩
 go_wp2_with fail
 exact bodyPost_ret (v := .int .i64 0) Z1F rfl ⟨hB1.trans hB4, rfl, o4, vs4, h4⟩
theorem YdN (code : Int) {t : S59} {r : List S59} (h : Mx w base g prims o vs m) (hm : m.inp = t :: r) (ht : t.f0 = 1) (hf : UK prims m t.f1 = none) (hsz : t.f1.size ≤ maxLen) :
 Calls Try.prog 37 #[.pointer (some ⟨g, 0, none⟩), .int .i64 code] w (XQ base g prims (.inr 14) w) := by
 go_enter Try.func37, Try.ntmps37
 go_wp2_with fail
 refine (VZ h hm ht).mono ?_
 rintro e w1 ⟨rfl, hB1, o1, vs1, h1⟩
 obtain ⟨v0, A1, c1, b, A7, c7, A8, c8, A9, c9, A10, c10, A11, c11, rfl⟩ := h1.cells
 obtain ⟨n1, D, hn1, hag, b', hb', -, -, hown⟩ := (h1.st.row 2 _ _ rfl rfl : UX base (m.names ++ prims) w1 _ (.map (some b)))
 cases hb'
 have hc2 := h1.st.cell 2 rfl
 have hlk : look (m.names ++ prims) t.f1 = none := by rw [Ue]; exact hf
 have ha := hag t.f1
 rw [hlk] at ha
 have hhas : Maps.has D (.string t.f1.data.toList) = false := ha.1
 clear ha hlk hag
 have hX := Aside0.mk h1
 clear h1 h
 go_wp2_with (at_lookup; refine wpList_lookup_own_ok_int _ rfl _ _ 52 rfl 9 3 .i64 (string_keyed Try.underlying9) Try.underlying52 Try.underlying3 (Ydz _) b n1 D rfl hown _ _ rfl (Go.WideMaps.keyOf_string_mk Try.underlying9 hsz) ?_; intro c hat hwc)
 exact bodyPost_ret (v := .int .i64 14) Z1F rfl ⟨hB1, rfl⟩
theorem Ycc (code : Int) (h : Mx w base g prims o vs m) (hm : m.inp = [] ∨ ∃ t r, m.inp = t :: r ∧ t.f0 ≠ 1) :
 Calls Try.prog 37 #[.pointer (some ⟨g, 0, none⟩), .int .i64 code] w (XQ base g prims (.inr 15) w) := by
 have hw : Calls Try.prog 64 #[.pointer (some ⟨g, 0, none⟩)] w fun e w' => e = .returned (.tuple #[.string ⟨#[]⟩, .int .i64 15]) ∧ w' = w := by
  rcases hm with hm | ⟨t, r, hm, ht⟩
  ·exact Yaf h hm
  ·exact Ybn h hm ht
 go_enter Try.func37, Try.ntmps37
 go_wp2_with fail
 refine hw.mono ?_
 rintro e w1 ⟨rfl, rfl⟩
 go_wp2_with fail
 exact bodyPost_ret (v := .int .i64 15) Z1F rfl ⟨Below.refl _ _, rfl⟩
end
theorem opens_le (m : Mk) (hb : wt m ≤ 1000000000000) : (m.origs.length : Int) + m.dests.length + m.loops.length + m.cases.length ≤ 1000000000000 := by
 have := sum_len m.cases
 unfold wt at hb
 omega
section
variable {w : World} {base g : Nat} {prims : List (ByteArray × Int)} {o : Nat → Nat} {vs : List Value} {m : Mk}
theorem YdI (h : Mx w base g prims o vs m) (hb : wt m ≤ 1000000000000) (hnm : m.name.size ≤ maxLen) (hpl : (m.names ++ prims).length < 1000000000000) (hcd : -9223372036854775808 ≤ m.code ∧ m.code < 9223372036854775808) :
 Calls Try.prog 36 #[.pointer (some ⟨g, 0, none⟩), .string ⟨#[59]⟩] w (XQ base g prims (if m.origs.length + m.dests.length + m.loops.length + m.cases.length > 0 then .inr 13 else
 .inl (let m1 := m.add 194; { m1 with opn := false, names := (m1.name, m1.code) :: m1.names })) w) := by
 obtain ⟨b1, b2, b3, b4, b5, b6, b7⟩ := Yad hb
 have hsum := opens_le m hb
 obtain ⟨v0, A1, c1, b, A7, c7, A8, c8, A9, c9, A10, c10, A11, c11, rfl⟩ := h.cells
 have k7 := h.st.cell 7 rfl
 have k8 := h.st.cell 8 rfl
 have k9 := h.st.cell 9 rfl
 have k10 := h.st.cell 10 rfl
 have hX := Aside0.mk h
 clear h
 by_cases hz : m.origs.length + m.dests.length + m.loops.length + m.cases.length > 0
 ·rw [if_pos hz]
  have hd : decide ((0 : Int) < (m.origs.length : Int) + m.dests.length + m.loops.length + m.cases.length) = true := by simp; omega
  have e1 : IntKind.i64.wrap ((m.origs.length : Int) + m.dests.length) = (m.origs.length : Int) + m.dests.length := IntWalk.i64_in _ Z0
  have e2 : IntKind.i64.wrap ((m.origs.length : Int) + m.dests.length + m.loops.length) = (m.origs.length : Int) + m.dests.length + m.loops.length := IntWalk.i64_in _ Z0
  have e3 : IntKind.i64.wrap ((m.origs.length : Int) + m.dests.length + m.loops.length + m.cases.length) = (m.origs.length : Int) + m.dests.length + m.loops.length + m.cases.length := IntWalk.i64_in _ Z0
  go_enter Try.func36, Try.ntmps36
  go_wp2_with fail
  go_quiet (fail)
  go_wp2_with fail
  have hq := YZ.below (w := w) (w' := w.drewN nq) ⟨⟨nq, rfl⟩⟩
  exact bodyPost_ret (v := .int .i64 13) ZA rfl ⟨Below.mono hq hX.out.st.base_le, rfl⟩
 ·rw [if_neg hz]
  have z1 : m.origs.length = 0 := by omega
  have z2 : m.dests.length = 0 := by omega
  have z3 : m.loops.length = 0 := by omega
  have z4 : m.cases.length = 0 := by omega
  rw [z1] at k7
  rw [z2] at k8
  rw [z3] at k9
  rw [z4] at k10
  clear z1 z2 z3 z4 hz hsum
  obtain ⟨m4, hm4⟩ : ∃ m4, m.add 194 = m4 := ⟨_, rfl⟩
  have hnm4 := Aside0.mk (show m4.name.size ≤ maxLen by rw [← hm4]; exact hnm)
  have hpl4 := Aside0.mk (show (m4.names ++ prims).length < 1000000000000 by rw [← hm4]; exact hpl)
  have hcd4 := Aside0.mk (show -9223372036854775808 ≤ m4.code ∧ m4.code < 9223372036854775808 by rw [← hm4]; exact hcd)
  rw [hm4]
  have hM := Aside0.mk hm4
  clear hm4 hnm hpl hcd
  go_enter Try.func36, Try.ntmps36
  go_wp2_with fail
  go_quiet (fail)
  have hq := YZ.below (w := w) (w' := w.drewN nq) ⟨⟨nq, rfl⟩⟩
  have hB0 := Below.mono hq hX.out.st.base_le
  have hY := hX.out.below hq
  clear k7 k8 k9 k10 hq
  generalize w.drewN nq = W at hY hB0 ⊢
  replace hY := Aside0.mk hY
  go_wp2_with fail
  refine (YW hY.out 194 0 ⟨#[]⟩ Z0).mono ?_
  rintro e w4 ⟨rfl, hB4, o4, vs4, h4⟩
  rw [show m.add 194 0 ⟨#[]⟩ = m4 from hM.out] at h4
  clear hM
  go_wp2_with fail
  have hd := h4.below (YY (Below.refl _ _))
  have hBd : Below base w w4.drew := (hB0.trans hB4).trans (Below.mono (YY (Below.refl _ _)) h4.st.base_le)
  obtain ⟨v0, A1, c1, b, A7, c7, A8, c8, A9, c9, A10, c10, A11, c11, rfl⟩ := hd.cells
  refine Uk (ds := [15, 16, 18]) (S := fun w' => w'.cell? ⟨g, 2, none⟩ = some (.map (some b)) ∧ w'.cell? ⟨g, 5, none⟩ = some (.string m4.name) ∧ w'.cell? ⟨g, 6, none⟩ = some (.int .i64 m4.code)) Z2 rfl rfl ⟨hd.st.cell 2 rfl, hd.st.cell 5 rfl, hd.st.cell 6 rfl⟩ (fun tb hS => ?_)
  generalize w4.drew = Wd at hd hBd hS ⊢
  refine seg_ [(0, 39), (1, 40), (2, 41), (3, 42), (4, 43), (5, 44), (6, 45), (7, 46), (8, 47), (9, 48), (10, 49), (11, 50), (12, 51), (13, 52), (14, 53)] tb hS Z2 (fun _ _ _ _ h => h) (a' := ?_) ?_ ?_
  rotate_left
  ·repeat (first | exact Seg.nil | (refine Seg.on (v := ?_) (a1 := ?_) rfl rfl Z7 ?_ ?_ ?_; rotate_left 2; (rintro w' hS; go_split_ands; go_simp; with_reducible rfl); (simp only [Act.put, List.setIfInBounds_toArray, List.set_cons_zero, List.set_cons_succ, YH, YJ]; rfl)))
  have k4 := hd.st.cell 4 rfl
  have f4 := hd.st.free 4
  have hX5 : Mx (Wd.setCell ⟨g, 4, none⟩ (.bool false)) base g prims o4 _ { m4 with opn := false } := ⟨hd.st.put 4 (loc_val base (.bool false)) rfl, rfl⟩
  have hB5 : Below base w (Wd.setCell ⟨g, 4, none⟩ (.bool false)) := Below.setCell hBd hX.out.st.hb _
  replace hd := Aside0.mk hd
  replace hX5 := Aside0.mk hX5
  replace hB5 := Aside0.mk hB5
  refine JL 15 tb rfl Z2 ?_
  go_wp2_with fail
  refine ql_ ?_
  generalize Wd.setCell ⟨g, 4, none⟩ (.bool false) = W5 at hX5 hB5 ⊢
  obtain ⟨b', n, D, hv, hob, hbb, hn, hA, hD⟩ := hX5.out.map
  cases hv
  obtain ⟨es, clock, hbk, FF, hsz, hDe⟩ := hD
  obtain ⟨v5, st, es1, clock1, he1, -, hst⟩ := Go.WideElems.entry_then_store (Go.WideMaps.string_law Try.underlying9) Try.underlying52 Ydz hbk FF (key9 hnm4.out)
  have hD : W5.ownsMap Try.prog 9 (plainElem Try.prog 3) b n D := ⟨es, clock, hbk, FF, hsz, hDe⟩
  have hmx : maxLen = 9223372036854775807 := rfl
  have hcw : (Lit.int .i64 m4.code).wf = true := WalkArith.wf_i64 (Zo hcd4.out)
  obtain ⟨w', hrun, hown1, hg1⟩ := hD.update (string_keyed Try.underlying9) Try.underlying52 (by have := hpl4.out; have h9 : n ≤ (m4.names ++ prims).length := hn; omega) (key9 hnm4.out) (plainElem_int (P := Try.prog) (e := 3) (q := .i64) (H := Unit) Try.underlying3 hcw)
  obtain ⟨es', clock', he2, hu⟩ := hst (ChangeMaps.setBlock W5 b (.map es1 clock1)) (.int .i64 m4.code) (ChangeMaps.heap_setBlock_same hbk _)
  have hw' : w' = ChangeMaps.setBlock W5 b (.map es' clock') := by
   have := hrun.symm.trans hu
   injection this
  subst hw'
  have hw2 : ChangeMaps.setBlock (ChangeMaps.setBlock W5 b (.map es1 clock1)) b (.map es' clock') = ChangeMaps.setBlock W5 b (.map es' clock') := by simp [ChangeMaps.setBlock]
  rw [hw2] at he2
  have hgi : goInt (st : Int) = .int .i64 st := rfl
  rw [hgi] at he1 he2
  clear hgi
  have hX7 := hX5.out.named1 rfl hob hbb hn hA hD m4.name m4.code hg1 hown1
  have hB7 : Below base w (ChangeMaps.setBlock W5 b (.map es' clock')) := Below.grown hB5.out hg1 hX5.out.st.base_le (fun k e => by cases e; exact hbb)
  clear hg1 hown1 hu hrun hst hDe FF hD
  replace hX7 := Aside0.mk hX7
  replace hB7 := Aside0.mk hB7
  refine JL 16 tb rfl Z2 ?_
  go_wp2_with fail
  refine ql_ ?_
  refine sega_ [(17, 55)] tb Z2 (fun _ _ _ _ h => h) (a' := ?_) ?_ ?_
  rotate_left
  ·repeat (first | exact Seg.nil | (refine Seg.on (v := ?_) (a1 := ?_) rfl rfl Z7 ?_ ?_ ?_; rotate_left 2; (rintro w' hS; go_simp; with_reducible rfl); (simp only [Act.put, List.setIfInBounds_toArray, List.set_cons_zero, List.set_cons_succ, YH, YJ]; rfl)))
  refine JL 18 tb rfl Z2 ?_
  go_wp2_with fail
  refine ql_ (end_ tb Z2 ?_)
  go_wp2_with fail
  exact bodyPost_ret (v := .int .i64 0) ZA rfl ⟨hB7.out, rfl, _, _, hX7.out⟩
theorem Yd2 (h : Mx w base g prims o vs m) (hl : m.out.length < 1099511627770) :
 Calls Try.prog 36 #[.pointer (some ⟨g, 0, none⟩), .string ⟨#[101, 120, 105, 116]⟩] w (XQ base g prims (.inl (m.add 51)) w) := by
 have hX := Aside0.mk h
 clear h
 go_enter Try.func36, Try.ntmps36
 go_wp2_with fail
 refine (YW hX.out 51 0 ⟨#[]⟩ Z0).mono ?_
 rintro e w4 ⟨rfl, hB4, o4, vs4, h4⟩
 go_wp2_with fail
 exact Z1b
theorem YdC {r : Res} (h : Calls Try.prog 37 #[.pointer (some ⟨g, 0, none⟩), .int .i64 17] w (XQ base g prims r w)) :
 Calls Try.prog 36 #[.pointer (some ⟨g, 0, none⟩), .string ⟨#[91, 39, 93]⟩] w (XQ base g prims r w) := by
 have hX := Aside0.mk h
 clear h
 go_enter Try.func36, Try.ntmps36
 go_wp2_with fail
 refine hX.out.mono ?_
 rcases r with m1 | c
 ·rintro e w4 ⟨hB4, rfl, o4, vs4, h4⟩
  go_wp2_with fail
  exact Z1b
 ·rintro e w4 ⟨hB4, rfl⟩
  go_wp2_with fail
  exact Z1u
theorem Ycx (h : Mx w base g prims o vs m) (hb : wt m ≤ 1000000000000) (s : ByteArray) (ht : Xc s = true) :
 Calls Try.prog 36 #[.pointer (some ⟨g, 0, none⟩), .string s] w (XQ base g prims (match Xt m s with
 | some r => r
 | none => match VP m s with
   | some r => r
   | none => Vh m s) w) := by
 have hX := Aside0.mk h
 have n0 : s.toList ≠ ([59] : List UInt8) := fun e => by unfold Xc at ht; rw [e] at ht; revert ht; decide
 have n1 : s.toList ≠ ([101, 120, 105, 116] : List UInt8) := fun e => by unfold Xc at ht; rw [e] at ht; revert ht; decide
 have n2 : s.toList ≠ ([91, 39, 93] : List UInt8) := fun e => by unfold Xc at ht; rw [e] at ht; revert ht; decide
 have b0 : (s.toList == ([59] : List UInt8)) = false := beq_eq_false_iff_ne.mpr n0
 have b1 : (s.toList == ([101, 120, 105, 116] : List UInt8)) = false := beq_eq_false_iff_ne.mpr n1
 have b2 : (s.toList == ([91, 39, 93] : List UInt8)) = false := beq_eq_false_iff_ne.mpr n2
 clear n0 n1 n2
 have hbr := Yeb h hb s
 cases hbp : Xt m s with
 | some r =>
   rw [hbp] at hbr
   have hC := Aside0.mk (show Calls Try.prog 61 #[.pointer (some ⟨g, 0, none⟩), .string s] w (VB base g prims r w) from hbr)
   clear hbr hbp ht h hX
   simp only
   go_enter Try.func36, Try.ntmps36
   go_wp2_with fail
   refine hC.out.mono ?_
   rcases r with m1 | c
   ·rintro e w4 ⟨hB4, rfl, o4, vs4, h4⟩
    go_wp2_with fail
    exact Z1b
   ·rintro e w4 ⟨hB4, rfl⟩
    go_wp2_with fail
    exact Z1u
 | none =>
   rw [hbp] at hbr
   have hC := Aside0.mk (show Calls Try.prog 61 #[.pointer (some ⟨g, 0, none⟩), .string s] w (fun e w' => e = .returned (.tuple #[.int .i64 0, .bool false]) ∧ w' = w) from hbr)
   have hlp := loop_any h hb s
   cases hlpp : VP m s with
   | some r =>
     rw [hlpp] at hlp
     have hC2 := Aside0.mk (show Calls Try.prog 62 #[.pointer (some ⟨g, 0, none⟩), .string s] w (VB base g prims r w) from hlp)
     clear hbr hbp ht h hX hlp hlpp
     simp only
     go_enter Try.func36, Try.ntmps36
     go_wp2_with fail
     refine hC.out.mono ?_
     rintro e w4 ⟨rfl, rfl⟩
     go_wp2_with fail
     refine hC2.out.mono ?_
     rcases r with m1 | c
     ·rintro e w4 ⟨hB4, rfl, o4, vs4, h4⟩
      go_wp2_with fail
      exact Z1b
     ·rintro e w4 ⟨hB4, rfl⟩
      go_wp2_with fail
      exact Z1u
   | none =>
     rw [hlpp] at hlp
     have hC2 := Aside0.mk (show Calls Try.prog 62 #[.pointer (some ⟨g, 0, none⟩), .string s] w (fun e w' => e = .returned (.tuple #[.int .i64 0, .bool false]) ∧ w' = w) from hlp)
     have hs : s.toList ∈ ([[99, 97, 115, 101], [111, 102], [101, 110, 100, 111, 102], [101, 110, 100, 99, 97, 115, 101]] : List (List UInt8)) := by
      simp only [Xc, decide_eq_true_eq, List.mem_cons, List.not_mem_nil, or_false] at ht ⊢
      rcases ht with e | e | e | e | e | e | e | e | e | e | e | e | e | e | e | e | e <;>
       first
        | (exfalso; revert hbp; unfold Xt; rw [e]; simp; done)
        | (exfalso; revert hlpp; unfold VP; rw [e]; simp; done)
        | (rw [e]; simp)
     obtain ⟨r, hr⟩ : ∃ r, Vh m s = r := ⟨_, rfl⟩
     have hC3 := Aside0.mk (hr ▸ Yd9 h hb s hs)
     rw [hr]
     clear hbr hbp ht h hX hlp hlpp hs hr
     simp only
     go_enter Try.func36, Try.ntmps36
     go_wp2_with fail
     refine hC.out.mono ?_
     rintro e w4 ⟨rfl, rfl⟩
     go_wp2_with fail
     refine hC2.out.mono ?_
     rintro e w4 ⟨rfl, rfl⟩
     go_wp2_with fail
     refine hC3.out.mono ?_
     rcases r with m1 | c
     ·rintro e w4 ⟨hB4, rfl, o4, vs4, h4⟩
      go_wp2_with fail
      exact Z1b
     ·rintro e w4 ⟨hB4, rfl⟩
      go_wp2_with fail
      exact Z1u
end
end Go.Proofs.Ytehmhgpogpbjiaa.Fcc
namespace Go.Proofs.Ytehmhgpogpbjiaa.Fcc
open Go.RowKit Go.Proofs.YtehmhgpogpbjiaaW.PrintWords Go.Proofs.YtehmhgpogpbjiaaW.PrintLast Go.Proofs.YtehmhgpogpbjiaaW.PrintMore Go.Proofs.Ytehmhgpogpbjiaa.PFccTokens
theorem Xn (s : ByteArray) (w : World) : Calls Try.prog 35 #[.string s] w fun e w' => e = .returned (.int .i64 (YT s)) ∧ w' = w := by
 by_cases h0 : s.toList = ([58] : List UInt8)
 ·have hr : YT s = 183 := by unfold YT; rw [h0]; rfl
  rw [hr]
  obtain rfl := Xe h0
  clear hr h0
  go_enter Try.func35, Try.ntmps35
  go_wp2_with fail
  exact bodyPost_ret (v := .int .i64 183) ZL rfl ⟨rfl, rfl⟩
 by_cases h1 : s.toList = ([99, 111, 110, 115, 116, 97, 110, 116] : List UInt8)
 ·have hr : YT s = 186 := by unfold YT; rw [h1]; rfl
  rw [hr]
  obtain rfl := Xe h1
  clear hr h1 h0
  go_enter Try.func35, Try.ntmps35
  go_wp2_with fail
  exact bodyPost_ret (v := .int .i64 186) ZL rfl ⟨rfl, rfl⟩
 by_cases h2 : s.toList = ([118, 97, 108, 117, 101] : List UInt8)
 ·have hr : YT s = 184 := by unfold YT; rw [h2]; rfl
  rw [hr]
  obtain rfl := Xe h2
  clear hr h2 h0 h1
  go_enter Try.func35, Try.ntmps35
  go_wp2_with fail
  exact Z2n
 by_cases h3 : s.toList = ([105, 110, 115, 116, 97, 110, 99, 101] : List UInt8)
 ·have hr : YT s = 184 := by unfold YT; rw [h3]; rfl
  rw [hr]
  obtain rfl := Xe h3
  clear hr h3 h0 h1 h2
  go_enter Try.func35, Try.ntmps35
  go_wp2_with fail
  exact Z2n
 by_cases h4 : s.toList = ([118, 97, 114, 105, 97, 98, 108, 101] : List UInt8)
 ·have hr : YT s = 185 := by unfold YT; rw [h4]; rfl
  rw [hr]
  obtain rfl := Xe h4
  clear hr h4 h0 h1 h2 h3
  go_enter Try.func35, Try.ntmps35
  go_wp2_with fail
  exact bodyPost_ret (v := .int .i64 185) ZL rfl ⟨rfl, rfl⟩
 by_cases h5 : s.toList = ([100, 101, 102, 101, 114] : List UInt8)
 ·have hr : YT s = 188 := by unfold YT; rw [h5]; rfl
  rw [hr]
  obtain rfl := Xe h5
  clear hr h5 h0 h1 h2 h3 h4
  go_enter Try.func35, Try.ntmps35
  go_wp2_with fail
  exact bodyPost_ret (v := .int .i64 188) ZL rfl ⟨rfl, rfl⟩
 by_cases h6 : s.toList = ([98, 117, 102, 102, 101, 114, 58] : List UInt8)
 ·have hr : YT s = 189 := by unfold YT; rw [h6]; rfl
  rw [hr]
  obtain rfl := Xe h6
  clear hr h6 h0 h1 h2 h3 h4 h5
  go_enter Try.func35, Try.ntmps35
  go_wp2_with fail
  exact bodyPost_ret (v := .int .i64 189) ZL rfl ⟨rfl, rfl⟩
 have hr : YT s = 0 := by unfold YT; simp only [h0, h1, h2, h3, h4, h5, h6, or_self, if_false]
 rw [hr]
 have b0 : (s.toList == ([58] : List UInt8)) = false := beq_eq_false_iff_ne.mpr h0
 have b1 : (s.toList == ([99, 111, 110, 115, 116, 97, 110, 116] : List UInt8)) = false := beq_eq_false_iff_ne.mpr h1
 have b2 : (s.toList == ([118, 97, 108, 117, 101] : List UInt8)) = false := beq_eq_false_iff_ne.mpr h2
 have b3 : (s.toList == ([105, 110, 115, 116, 97, 110, 99, 101] : List UInt8)) = false := beq_eq_false_iff_ne.mpr h3
 have b4 : (s.toList == ([118, 97, 114, 105, 97, 98, 108, 101] : List UInt8)) = false := beq_eq_false_iff_ne.mpr h4
 have b5 : (s.toList == ([100, 101, 102, 101, 114] : List UInt8)) = false := beq_eq_false_iff_ne.mpr h5
 have b6 : (s.toList == ([98, 117, 102, 102, 101, 114, 58] : List UInt8)) = false := beq_eq_false_iff_ne.mpr h6
 clear hr h0 h1 h2 h3 h4 h5 h6
 go_enter Try.func35, Try.ntmps35
 go_wp2_with fail
 exact bodyPost_ret (v := .int .i64 0) ZL rfl ⟨rfl, rfl⟩
abbrev UR (named : ByteArray → Bool) : Prop := ∀ (s : ByteArray) (W : World), s.size ≤ maxLen → Calls Try.prog 89 #[.string s] W fun e W' => e = .returned (.bool (named s)) ∧ Below W.heap.size W W'
section
variable {w : World} {base g : Nat} {prims : List (ByteArray × Int)} {o : Nat → Nat} {vs : List Value} {m : Mk} {named : ByteArray → Bool} {t : S59} {r : List S59}
theorem Mx.setNext {v0 v1 v2 v3 : Value} {vr : List Value} (h : Mx w base g prims o (v0 :: v1 :: v2 :: v3 :: vr) m) (n : Int) :
 Mx (w.setCell ⟨g, 3, none⟩ (.int .i64 n)) base g prims o (v0 :: v1 :: v2 :: .int .i64 n :: vr) { m with next := n } :=
 ⟨h.st.put 3 (loc_val base (.int .i64 n)) rfl, h.len⟩
theorem YcQ (hN : UR named) (h : Mx w base g prims o vs m) (hm : m.inp = t :: r) (ht : t.f0 = 1) (hsz : t.f1.size ≤ maxLen) (hs : named t.f1 = true) (hx : 0 ≤ m.next ∧ m.next ≤ 4095) :
 Calls Try.prog 65 #[.pointer (some ⟨g, 0, none⟩)] w fun e w' => e = .returned (.tuple #[.string t.f1, .int .i64 m.next, .int .i64 0]) ∧ Below base w w' ∧ ∃ o' vs', Mx w' base g prims o' vs' { m with inp := r, next := m.next + 1 } := by
 go_enter Try.func65, Try.ntmps65
 go_wp2_with fail
 refine (VZ h hm ht).mono ?_
 rintro e w1 ⟨rfl, hB1, o1, vs1, h1⟩
 have hbg := h.st.hb
 clear h
 go_wp2_with fail
 refine (hN t.f1 w1 hsz).mono ?_
 rintro e w2 ⟨rfl, hB2⟩
 rw [hs]
 have h2 := h1.below hB2
 have hB := hB1.trans (Below.mono hB2 h1.st.base_le)
 clear h1 hB1 hB2
 obtain ⟨v0, A1, c1, b, A7, c7, A8, c8, A9, c9, A10, c10, A11, c11, rfl⟩ := h2.cells
 have hc3 := h2.st.cell 3 rfl
 have hf3 := h2.st.free 3
 have e1 : (4095 < m.next) = False := eq_false Z0
 have e2 : wrap64 (m.next + 1) = m.next + 1 := IntWalk.wrap64_in _ ⟨Z0, Z0⟩
 have h3 := h2.setNext (m.next + 1)
 have hB3 : Below base w (w2.setCell ⟨g, 3, none⟩ (.int .i64 (m.next + 1))) := Below.setCell hB hbg _
 go_wp2_with fail
 generalize w2.setCell ⟨g, 3, none⟩ (.int .i64 (m.next + 1)) = w3 at h3 hB3 ⊢
 have hc3 := h3.st.cell 3 rfl
 have e3 : m.next + 1 - 1 = m.next := by omega
 have e4 : wrap64 m.next = m.next := IntWalk.wrap64_in _ ⟨Z0, Z0⟩
 go_quiet (fail)
 go_wp2_with fail
 have hq := YZ.below (w := w3) (w' := w3.drewN nq) ⟨⟨nq, rfl⟩⟩
 exact bodyPost_ret (v := .tuple #[.string t.f1, .int .i64 m.next, .int .i64 0]) Z1j rfl ⟨rfl, hB3.trans (Below.mono hq h3.st.base_le), _, _, h3.below hq⟩
theorem Yd1 (hN : UR named) (h : Mx w base g prims o vs m) (hm : m.inp = t :: r) (ht : t.f0 = 1) (hsz : t.f1.size ≤ maxLen) (hs : named t.f1 = true) (hx : 4095 < m.next) :
 Calls Try.prog 65 #[.pointer (some ⟨g, 0, none⟩)] w fun e w' => e = .returned (.tuple #[.string ⟨#[]⟩, .int .i64 0, .int .i64 22]) ∧ Below base w w' := by
 go_enter Try.func65, Try.ntmps65
 go_wp2_with fail
 refine (VZ h hm ht).mono ?_
 rintro e w1 ⟨rfl, hB1, o1, vs1, h1⟩
 clear h
 go_wp2_with fail
 refine (hN t.f1 w1 hsz).mono ?_
 rintro e w2 ⟨rfl, hB2⟩
 rw [hs]
 have h2 := h1.below hB2
 have hB := hB1.trans (Below.mono hB2 h1.st.base_le)
 clear h1 hB1 hB2
 obtain ⟨v0, A1, c1, b, A7, c7, A8, c8, A9, c9, A10, c10, A11, c11, rfl⟩ := h2.cells
 have hc3 := h2.st.cell 3 rfl
 have e1 : (4095 < m.next) = True := eq_true hx
 go_wp2_with fail
 exact bodyPost_ret (v := .tuple #[.string ⟨#[]⟩, .int .i64 0, .int .i64 22]) Z1j rfl ⟨rfl, hB⟩
theorem fresh_odd (hN : UR named) (h : Mx w base g prims o vs m) (hm : m.inp = t :: r) (ht : t.f0 = 1) (hsz : t.f1.size ≤ maxLen) (hs : named t.f1 = false) :
 Calls Try.prog 65 #[.pointer (some ⟨g, 0, none⟩)] w fun e w' => e = .returned (.tuple #[.string ⟨#[]⟩, .int .i64 0, .int .i64 15]) ∧ Below base w w' := by
 go_enter Try.func65, Try.ntmps65
 go_wp2_with fail
 refine (VZ h hm ht).mono ?_
 rintro e w1 ⟨rfl, hB1, o1, vs1, h1⟩
 clear h
 go_wp2_with fail
 refine (hN t.f1 w1 hsz).mono ?_
 rintro e w2 ⟨rfl, hB2⟩
 rw [hs]
 have hB := hB1.trans (Below.mono hB2 h1.st.base_le)
 go_wp2_with fail
 exact bodyPost_ret (v := .tuple #[.string ⟨#[]⟩, .int .i64 0, .int .i64 15]) Z1j rfl ⟨rfl, hB⟩
theorem Ych (h : Mx w base g prims o vs m) (hm : m.inp = [] ∨ ∃ t r, m.inp = t :: r ∧ t.f0 ≠ 1) :
 Calls Try.prog 65 #[.pointer (some ⟨g, 0, none⟩)] w fun e w' => e = .returned (.tuple #[.string ⟨#[]⟩, .int .i64 0, .int .i64 15]) ∧ Below base w w' := by
 have hw : Calls Try.prog 64 #[.pointer (some ⟨g, 0, none⟩)] w fun e w' => e = .returned (.tuple #[.string ⟨#[]⟩, .int .i64 15]) ∧ w' = w := by
  rcases hm with hm | ⟨t, r, hm, ht⟩
  ·exact Yaf h hm
  ·exact Ybn h hm ht
 go_enter Try.func65, Try.ntmps65
 go_wp2_with fail
 refine hw.mono ?_
 rintro e w1 ⟨rfl, rfl⟩
 go_wp2_with fail
 exact bodyPost_ret (v := .tuple #[.string ⟨#[]⟩, .int .i64 0, .int .i64 15]) Z1j rfl ⟨rfl, Below.refl _ _⟩
end
end Go.Proofs.Ytehmhgpogpbjiaa.Fcc
namespace Go.Proofs.Ytehmhgpogpbjiaa.Fcc
open Go.RowKit Go.Proofs.YtehmhgpogpbjiaaW.PrintWords Go.Proofs.YtehmhgpogpbjiaaW.PrintLast Go.Proofs.YtehmhgpogpbjiaaW.PrintMore Go.Proofs.Ytehmhgpogpbjiaa.PFccTokens
open Go.Maps (string_keyed)
section
variable {w : World} {base g : Nat} {prims : List (ByteArray × Int)} {o : Nat → Nat} {vs : List Value} {m : Mk} {named : ByteArray → Bool}
def FPost (base g : Nat) (prims : List (ByteArray × Int)) (r : (ByteArray × Int × Mk) ⊕ Int) (w : World) (e : Ending) (w' : World) : Prop :=
 Below base w w' ∧ match r with
  | .inl (s, c, m) => e = .returned (.tuple #[.string s, .int .i64 c, .int .i64 0]) ∧ ∃ o vs, Mx w' base g prims o vs m
  | .inr c => e = .returned (.tuple #[.string ⟨#[]⟩, .int .i64 0, .int .i64 c])
theorem YaF (hN : UR named) (h : Mx w base g prims o vs m) (hsz : ∀ t ∈ m.inp, t.f1.size ≤ maxLen) (hx : 0 ≤ m.next) :
 Calls Try.prog 65 #[.pointer (some ⟨g, 0, none⟩)] w (FPost base g prims (Vf named m) w) := by
 cases hm : m.inp with
 | nil =>
   have hr : Vf named m = .inr 15 := by unfold Vf Vl; rw [hm]
   rw [hr]
   exact (Ych h (.inl hm)).mono fun e w' ⟨he, hb⟩ => ⟨hb, he⟩
 | cons t r =>
   have hz := hsz t Z1J
   by_cases ht : t.f0 = 1
   ·by_cases hs : named t.f1 = true
    ·by_cases hn : m.next ≤ 4095
     ·have hr : Vf named m = .inl (t.f1, m.next, { m with inp := r, next := m.next + 1 }) := by unfold Vf Vl; rw [hm]; simp only [ht, if_true, hs]; rw [if_neg Z3, if_neg Z0]
      rw [hr]
      exact (YcQ hN h hm ht hz hs ⟨hx, hn⟩).mono fun e w' ⟨he, hb, hq⟩ => ⟨hb, he, hq⟩
     ·have hr : Vf named m = .inr 22 := by unfold Vf Vl; rw [hm]; simp only [ht, if_true, hs]; rw [if_neg Z3, if_pos Z0]
      rw [hr]
      exact (Yd1 hN h hm ht hz hs Z0).mono fun e w' ⟨he, hb⟩ => ⟨hb, he⟩
    ·have hs' : named t.f1 = false := by simpa using hs
     have hr : Vf named m = .inr 15 := by unfold Vf Vl; rw [hm]; simp only [ht, if_true, hs']
     rw [hr]
     exact (fresh_odd hN h hm ht hz hs').mono fun e w' ⟨he, hb⟩ => ⟨hb, he⟩
   ·have hr : Vf named m = .inr 15 := by unfold Vf Vl; rw [hm]; simp only [ht, if_false]
    rw [hr]
    exact (Ych h (.inr ⟨t, r, hm, ht⟩)).mono fun e w' ⟨he, hb⟩ => ⟨hb, he⟩
theorem JK {s : ByteArray} {c : Int} {m1 : Mk} (h : Vf named m = .inl (s, c, m1)) : c = m.next ∧ m.next ≤ 4095 ∧ m1.out = m.out ∧ m1.names = m.names ∧ ∃ t ∈ m.inp, t.f1 = s := by
 unfold Vf Vl at h
 cases hm : m.inp with
 | nil => rw [hm] at h; simp at h
 | cons t r =>
   rw [hm] at h
   by_cases ht : t.f0 = 1
   ·simp only [ht, if_true] at h
    split at h
    ·cases h
    ·split at h
     ·cases h
     ·cases h
      exact ⟨rfl, Z0, rfl, rfl, t, List.mem_cons_self, rfl⟩
   ·simp only [ht, if_false] at h
    cases h
theorem freshP_err {c : Int} (h : Vf named m = .inr c) : c = 15 ∨ c = 22 := by
 unfold Vf at h
 split at h
 ·cases h; exact .inl rfl
 ·split at h
  ·cases h; exact .inl rfl
  ·split at h
   ·cases h; exact .inr rfl
   ·cases h
def XN (named : ByteArray → Bool) (w : ByteArray) (m1 : Mk) : Res := match Vf named m1 with
 | .inr e => .inr e
 | .inl (s, c, m2) => if w.toList = ([58] : List UInt8) then .inl { ((m2.add 182 c s).add (YT w)) with opn := true, name := s, code := c } else .inl { ((m2.add 182 c s).add (YT w)) with names := (s, c) :: ((m2.add 182 c s).add (YT w)).names }
theorem def_colon (hN : UR named) (h : Mx w base g prims o vs m) (hb : m.out.length < 1099511627700) (hpl : (m.names ++ prims).length < 1000000000000) (hsz : ∀ t ∈ m.inp, t.f1.size ≤ maxLen) (hx : 0 ≤ m.next) :
 Calls Try.prog 38 #[.pointer (some ⟨g, 0, none⟩), .string ⟨#[58]⟩] w (XQ base g prims (XN named ⟨#[58]⟩ m) w) := by
 have hk : YT ⟨#[58]⟩ = 183 := by kernel_rfl
 have hfr := Aside0.mk (YaF hN h hsz hx)
 obtain ⟨r0, hR0⟩ : ∃ r0, Vf named m = r0 := ⟨_, rfl⟩
 have hR := Aside0.mk hR0
 unfold XN
 rw [hR0]
 have hsz2 := Aside0.mk hsz
 have hpl2 := Aside0.mk hpl
 clear hR0 h hsz hpl
 go_enter Try.func38, Try.ntmps38
 go_wp2_with fail
 refine hfr.out.mono ?_
 rw [hR.out]
 rcases r0 with ⟨sn, cn, m2⟩ | c
 ·obtain ⟨hc1, hc2, hc3, hc4, t', ht', hts⟩ := JK hR.out
  have hcn : 0 ≤ cn ∧ cn ≤ 4095 := by rw [hc1]; exact ⟨hx, hc2⟩
  have hsn := Aside0.mk (show sn.size ≤ maxLen by rw [← hts]; exact hsz2.out t' ht')
  have hb2 : m2.out.length < 1099511627720 := by rw [hc3]; omega
  have hpl3 := Aside0.mk (show (m2.names ++ prims).length < 1000000000000 by rw [hc4]; exact hpl2.out)
  clear hc1 hc2 hc3 hc4 ht' hts
  rintro e w2 ⟨hB2, rfl, o2, vs2, h2⟩
  obtain ⟨m4, hm4⟩ : ∃ m4, (m2.add 182 cn sn).add 183 = m4 := ⟨_, rfl⟩
  have hM4 := Aside0.mk hm4
  have hpl4 := Aside0.mk (show (m4.names ++ prims).length < 1000000000000 by rw [← hm4]; exact hpl3.out)
  have hu : cn % 4294967296 = cn := Int.emod_eq_of_lt hcn.1 Z0
  clear hm4
  replace h2 := Aside0.mk h2
  go_wp2_with fail
  refine (YW h2.out 182 cn sn Z0).mono ?_
  rintro e w3 ⟨rfl, hB3, o3, vs3, h3⟩
  replace h3 := Aside0.mk h3
  go_wp2_with fail
  refine (Xn ⟨#[58]⟩ w3).mono ?_
  rintro e w3' ⟨rfl, rfl⟩
  rw [hk]
  go_wp2_with fail
  refine (YW h3.out 183 0 ⟨#[]⟩ Z18).mono ?_
  rintro e w4 ⟨rfl, hB4, o4, vs4, h4⟩
  rw [show (m2.add 182 cn sn).add 183 0 ⟨#[]⟩ = m4 from hM4.out] at h4
  obtain ⟨v0, A1, c1, b, A7, c7, A8, c8, A9, c9, A10, c10, A11, c11, rfl⟩ := h4.cells
  have hB5 := hB2.trans (hB3.trans hB4)
  have p4 := h4.st.cell 4 rfl
  have q4 := h4.st.free 4
  have h5 : Mx (w4.setCell ⟨g, 4, none⟩ (.bool true)) base g prims o4 _ { m4 with opn := true } := ⟨h4.st.put 4 (loc_val base (.bool true)) rfl, rfl⟩
  have p5 := h5.st.cell 5 rfl
  have q5 := h5.st.free 5
  have h6 : Mx ((w4.setCell ⟨g, 4, none⟩ (.bool true)).setCell ⟨g, 5, none⟩ (.string sn)) base g prims o4 _ { m4 with opn := true, name := sn } := ⟨h5.st.put 5 (loc_val base (.string sn)) rfl, rfl⟩
  have p6 := h6.st.cell 6 rfl
  have q6 := h6.st.free 6
  have h7 : Mx (((w4.setCell ⟨g, 4, none⟩ (.bool true)).setCell ⟨g, 5, none⟩ (.string sn)).setCell ⟨g, 6, none⟩ (.int .i64 cn)) base g prims o4 _ { m4 with opn := true, name := sn, code := cn } := ⟨h6.st.put 6 (loc_val base (.int .i64 cn)) rfl, rfl⟩
  have hB7 := ((hB5.setCell (p := ⟨g, 4, none⟩) h4.st.hb (.bool true)).setCell (p := ⟨g, 5, none⟩) h4.st.hb (.string sn)).setCell (p := ⟨g, 6, none⟩) h4.st.hb (.int .i64 cn)
  replace h7 := Aside0.mk h7
  replace hB7 := Aside0.mk hB7
  clear h5 h6 h4
  go_wp2_with fail
  refine bodyPost_ret (v := .int .i64 0) Zz rfl ⟨hB7.out, ?_⟩
  rw [hM4.out]
  exact ⟨rfl, _, _, h7.out⟩
 ·rintro e w2 ⟨hB2, rfl⟩
  have hc0 : c = 15 ∨ c = 22 := freshP_err hR.out
  rcases hc0 with rfl | rfl
  ·go_wp2_with fail
   exact Z1R
  ·go_wp2_with fail
   exact Z1S
theorem def_other (hN : UR named) (h : Mx w base g prims o vs m) (s : ByteArray) (hs1 : s.toList ≠ ([58] : List UInt8)) (hs2 : s.toList ≠ ([105, 110, 115, 116, 97, 110, 99, 101] : List UInt8)) (hb : m.out.length < 1099511627700) (hpl : (m.names ++ prims).length < 1000000000000) (hsz : ∀ t ∈ m.inp, t.f1.size ≤ maxLen) (hx : 0 ≤ m.next) :
 Calls Try.prog 38 #[.pointer (some ⟨g, 0, none⟩), .string s] w (XQ base g prims (XN named s m) w) := by
 have b1 : (s.toList == ([58] : List UInt8)) = false := beq_eq_false_iff_ne.mpr hs1
 have b2 : (s.toList == ([105, 110, 115, 116, 97, 110, 99, 101] : List UInt8)) = false := beq_eq_false_iff_ne.mpr hs2
 have hn1 := Aside0.mk hs1
 have hfr := Aside0.mk (YaF hN h hsz hx)
 obtain ⟨r0, hR0⟩ : ∃ r0, Vf named m = r0 := ⟨_, rfl⟩
 have hR := Aside0.mk hR0
 unfold XN
 rw [hR0]
 have hsz2 := Aside0.mk hsz
 have hpl2 := Aside0.mk hpl
 clear hR0 h hsz hpl hs1 hs2
 go_enter Try.func38, Try.ntmps38
 go_wp2_with fail
 refine hfr.out.mono ?_
 rw [hR.out]
 rcases r0 with ⟨sn, cn, m2⟩ | c
 ·obtain ⟨hc1, hc2, hc3, hc4, t', ht', hts⟩ := JK hR.out
  have hcn : 0 ≤ cn ∧ cn ≤ 4095 := by rw [hc1]; exact ⟨hx, hc2⟩
  have hsn := Aside0.mk (show sn.size ≤ maxLen by rw [← hts]; exact hsz2.out t' ht')
  have hb2 : m2.out.length < 1099511627720 := by rw [hc3]; omega
  have hpl3 := Aside0.mk (show (m2.names ++ prims).length < 1000000000000 by rw [hc4]; exact hpl2.out)
  clear hc1 hc2 hc3 hc4 ht' hts
  rintro e w2 ⟨hB2, rfl, o2, vs2, h2⟩
  obtain ⟨m4, hm4⟩ : ∃ m4, (m2.add 182 cn sn).add (YT s) = m4 := ⟨_, rfl⟩
  have hM4 := Aside0.mk hm4
  have hpl4 := Aside0.mk (show (m4.names ++ prims).length < 1000000000000 by rw [← hm4]; exact hpl3.out)
  have hu : cn % 4294967296 = cn := Int.emod_eq_of_lt hcn.1 Z0
  clear hm4
  replace h2 := Aside0.mk h2
  go_wp2_with fail
  refine (YW h2.out 182 cn sn Z0).mono ?_
  rintro e w3 ⟨rfl, hB3, o3, vs3, h3⟩
  replace h3 := Aside0.mk h3
  go_wp2_with fail
  refine (Xn s w3).mono ?_
  rintro e w3' ⟨rfl, rfl⟩
  go_wp2_with fail
  refine (YW h3.out (YT s) 0 ⟨#[]⟩ Z18).mono ?_
  rintro e w4 ⟨rfl, hB4, o4, vs4, h4⟩
  rw [show (m2.add 182 cn sn).add (YT s) 0 ⟨#[]⟩ = m4 from hM4.out] at h4
  obtain ⟨v0, A1, c1, b, A7, c7, A8, c8, A9, c9, A10, c10, A11, c11, rfl⟩ := h4.cells
  have hB5 := hB2.trans (hB3.trans hB4)
  have p2 := h4.st.cell 2 rfl
  obtain ⟨b', n, D, hv, hob, hbb, hn, hA, hD⟩ := h4.map
  cases hv
  have hmx : maxLen = 9223372036854775807 := rfl
  have hcw : (Lit.int .i64 cn).wf = true := WalkArith.wf_i64 Z0
  have hlt : n < maxLen := by have := hpl4.out; have h9 : n ≤ (m4.names ++ prims).length := hn; omega
  have hpe := plainElem_int (P := Try.prog) (e := 3) (q := .i64) (H := Unit) Try.underlying3 hcw
  replace h4 := Aside0.mk h4
  replace hA := Aside0.mk hA
  replace hpe := Aside0.mk hpe
  clear hmx hcw
  go_wp2_with (at_mapUpdate; refine wpList_mapUpdate_own _ rfl _ _ _ 52 rfl 9 3 (string_keyed Try.underlying9) Try.underlying52 (plainElem Try.prog 3) b n D rfl hD hlt _ _ _ rfl rfl (key9 hsn.out) _ _ hpe.out ?_)
  intro w7 hown1 hg1
  have h7 := h4.out.named1 rfl hob hbb hn hA.out hD sn cn hg1 hown1
  have hB7 := Below.grown hB5 hg1 h4.out.st.base_le (fun k e => by cases e; exact hbb)
  replace h7 := Aside0.mk h7
  have n1 := eq_false hn1.out
  go_wp2_with fail
  refine bodyPost_ret (v := .int .i64 0) Zz rfl ⟨hB7, ?_⟩
  rw [hM4.out]
  exact ⟨rfl, _, _, h7.out⟩
 ·rintro e w2 ⟨hB2, rfl⟩
  have hc0 : c = 15 ∨ c = 22 := freshP_err hR.out
  rcases hc0 with rfl | rfl
  ·go_wp2_with fail
   exact Z1R
  ·go_wp2_with fail
   exact Z1S
theorem def_inst (hN : UR named) (h : Mx w base g prims o vs m) (hb : m.out.length < 1099511627700) (hpl : (m.names ++ prims).length < 1000000000000) (hsz : ∀ t ∈ m.inp, t.f1.size ≤ maxLen) (hx : 0 ≤ m.next) :
 Calls Try.prog 38 #[.pointer (some ⟨g, 0, none⟩), .string ⟨#[105, 110, 115, 116, 97, 110, 99, 101]⟩] w (XQ base g prims (match (match Vl m with
  | .inl (s, m1) => if s.toList = ([118, 97, 108, 117, 101] : List UInt8) then .inl (m1.add 192) else .inr 15
  | .inr _ => .inr 15 : Res) with
 | .inr e => .inr e
 | .inl m1 => XN named ⟨#[105, 110, 115, 116, 97, 110, 99, 101]⟩ m1) w) := by
 have hk : YT ⟨#[105, 110, 115, 116, 97, 110, 99, 101]⟩ = 184 := by kernel_rfl
 cases hm : m.inp with
 | nil =>
   have hr : Vl m = .inr 15 := by unfold Vl; rw [hm]
   rw [hr]
   have hw := Yaf h hm
   clear hk hr hm h
   go_enter Try.func38, Try.ntmps38
   go_wp2_with fail
   refine hw.mono ?_
   rintro e w1 ⟨rfl, rfl⟩
   go_wp2_with fail
   exact Z2o
 | cons t r =>
   by_cases ht : t.f0 = 1
   ·have hr : Vl m = .inl (t.f1, { m with inp := r }) := by unfold Vl; rw [hm]; simp only [ht, if_true]
    rw [hr]
    have hw := VZ h hm ht
    have hsz1 : ∀ t ∈ ({ m with inp := r } : Mk).inp, t.f1.size ≤ maxLen := fun t' ht' => hsz t' (by rw [hm]; exact List.mem_cons_of_mem _ ht')
    by_cases hv : t.f1.toList = ([118, 97, 108, 117, 101] : List UInt8)
    ·simp only [hv, if_true]
     have bv : (t.f1.toList == ([118, 97, 108, 117, 101] : List UInt8)) = true := beq_iff_eq.mpr hv
     have bv2 : (t.f1.toList != ([118, 97, 108, 117, 101] : List UInt8)) = false := by simp [hv]
     obtain ⟨m1, hm1⟩ : ∃ m1, ({ m with inp := r } : Mk).add 192 = m1 := ⟨_, rfl⟩
     have hb1 : m1.out.length < 1099511627710 := by rw [← hm1]; simp [Mk.add]; omega
     have hpl1 := Aside0.mk (show (m1.names ++ prims).length < 1000000000000 by rw [← hm1]; exact hpl)
     have hsz2 := Aside0.mk (show ∀ t ∈ m1.inp, t.f1.size ≤ maxLen by rw [← hm1]; exact hsz1)
     have hx1 : 0 ≤ m1.next := by rw [← hm1]; exact hx
     rw [hm1]
     have hM1 := Aside0.mk hm1
     obtain ⟨r0, hR0⟩ : ∃ r0, Vf named m1 = r0 := ⟨_, rfl⟩
     have hR := Aside0.mk hR0
     have hdr : XN named ⟨#[105, 110, 115, 116, 97, 110, 99, 101]⟩ m1 = _ := rfl
     unfold XN
     rw [hR0]
     have hfr := Aside0.mk (fun (W : World) o2 vs2 (h2 : Mx W base g prims o2 vs2 m1) => YaF hN h2 hsz2.out hx1)
     clear hr hm1 hR0 hdr hsz1 hm hv h hsz
     go_enter Try.func38, Try.ntmps38
     go_wp2_with fail
     refine hw.mono ?_
     rintro e w1 ⟨rfl, hB1, o1, vs1, h1⟩
     replace h1 := Aside0.mk h1
     go_wp2_with fail
     refine (YW h1.out 192 0 ⟨#[]⟩ Z17).mono ?_
     rintro e w1' ⟨rfl, hB1', o1', vs1', h1'⟩
     rw [show ({ m with inp := r } : Mk).add 192 0 ⟨#[]⟩ = m1 from hM1.out] at h1'
     replace hB1 := hB1.trans hB1'
     replace h1' := Aside0.mk h1'
     go_wp2_with fail
     refine (hfr.out _ _ _ h1'.out).mono ?_
     rw [hR.out]
     rcases r0 with ⟨sn, cn, m2⟩ | c
     ·obtain ⟨hc1, hc2, hc3, hc4, t', ht', hts⟩ := JK hR.out
      have hcn : 0 ≤ cn ∧ cn ≤ 4095 := by rw [hc1]; exact ⟨hx1, hc2⟩
      have hsn := Aside0.mk (show sn.size ≤ maxLen by rw [← hts]; exact hsz2.out t' ht')
      have hb2 : m2.out.length < 1099511627720 := by rw [hc3]; omega
      have hpl3 := Aside0.mk (show (m2.names ++ prims).length < 1000000000000 by rw [hc4]; exact hpl1.out)
      clear hc1 hc2 hc3 hc4 ht' hts
      rintro e w2 ⟨hB2, rfl, o2, vs2, h2⟩
      replace hB2 := hB1.trans hB2
      obtain ⟨m4, hm4⟩ : ∃ m4, (m2.add 182 cn sn).add 184 = m4 := ⟨_, rfl⟩
      have hM4 := Aside0.mk hm4
      have hpl4 := Aside0.mk (show (m4.names ++ prims).length < 1000000000000 by rw [← hm4]; exact hpl3.out)
      have hu : cn % 4294967296 = cn := Int.emod_eq_of_lt hcn.1 Z0
      clear hm4
      replace h2 := Aside0.mk h2
      go_wp2_with fail
      refine (YW h2.out 182 cn sn Z0).mono ?_
      rintro e w3 ⟨rfl, hB3, o3, vs3, h3⟩
      replace h3 := Aside0.mk h3
      go_wp2_with fail
      refine (Xn ⟨#[105, 110, 115, 116, 97, 110, 99, 101]⟩ w3).mono ?_
      rintro e w3' ⟨rfl, rfl⟩
      rw [hk]
      go_wp2_with fail
      refine (YW h3.out 184 0 ⟨#[]⟩ Z18).mono ?_
      rintro e w4 ⟨rfl, hB4, o4, vs4, h4⟩
      rw [show (m2.add 182 cn sn).add 184 0 ⟨#[]⟩ = m4 from hM4.out] at h4
      obtain ⟨v0, A1, c1, b, A7, c7, A8, c8, A9, c9, A10, c10, A11, c11, rfl⟩ := h4.cells
      have hB5 := hB2.trans (hB3.trans hB4)
      have p2 := h4.st.cell 2 rfl
      obtain ⟨b', n, D, hv, hob, hbb, hn, hA, hD⟩ := h4.map
      cases hv
      have hmx : maxLen = 9223372036854775807 := rfl
      have hcw : (Lit.int .i64 cn).wf = true := WalkArith.wf_i64 Z0
      have hlt : n < maxLen := by have := hpl4.out; have h9 : n ≤ (m4.names ++ prims).length := hn; omega
      have hpe := plainElem_int (P := Try.prog) (e := 3) (q := .i64) (H := Unit) Try.underlying3 hcw
      replace h4 := Aside0.mk h4
      replace hA := Aside0.mk hA
      replace hpe := Aside0.mk hpe
      clear hmx hcw
      go_wp2_with (at_mapUpdate; refine wpList_mapUpdate_own _ rfl _ _ _ 52 rfl 9 3 (string_keyed Try.underlying9) Try.underlying52 (plainElem Try.prog 3) b n D rfl hD hlt _ _ _ rfl rfl (key9 hsn.out) _ _ hpe.out ?_)
      intro w7 hown1 hg1
      have h7 := h4.out.named1 rfl hob hbb hn hA.out hD sn cn hg1 hown1
      have hB7 := Below.grown hB5 hg1 h4.out.st.base_le (fun k e => by cases e; exact hbb)
      replace h7 := Aside0.mk h7
      go_wp2_with fail
      refine bodyPost_ret (v := .int .i64 0) Zz rfl ⟨hB7, ?_⟩
      rw [hM4.out]
      exact ⟨rfl, _, _, h7.out⟩
     ·rintro e w2 ⟨hB2, rfl⟩
      replace hB2 := hB1.trans hB2
      have hc0 : c = 15 ∨ c = 22 := freshP_err hR.out
      rcases hc0 with rfl | rfl
      ·go_wp2_with fail
       exact Z1R
      ·go_wp2_with fail
       exact Z1S
    ·simp only [hv, if_false]
     have bv : (t.f1.toList == ([118, 97, 108, 117, 101] : List UInt8)) = false := beq_eq_false_iff_ne.mpr hv
     have bv2 : (t.f1.toList != ([118, 97, 108, 117, 101] : List UInt8)) = true := by simp [hv]
     clear hr hsz1 hm hv h hsz
     go_enter Try.func38, Try.ntmps38
     go_wp2_with fail
     refine hw.mono ?_
     rintro e w1 ⟨rfl, hB1, o1, vs1, h1⟩
     replace h1 := Aside0.mk h1
     go_wp2_with fail
     exact bodyPost_ret (v := .int .i64 15) Zz rfl ⟨hB1, rfl⟩
   ·have hr : Vl m = .inr 15 := by unfold Vl; rw [hm]; simp only [ht, if_false]
    rw [hr]
    have hw := Ybn h hm ht
    clear hk hr hm h
    go_enter Try.func38, Try.ntmps38
    go_wp2_with fail
    refine hw.mono ?_
    rintro e w1 ⟨rfl, rfl⟩
    go_wp2_with fail
    exact Z2o
end
end Go.Proofs.Ytehmhgpogpbjiaa.Fcc
