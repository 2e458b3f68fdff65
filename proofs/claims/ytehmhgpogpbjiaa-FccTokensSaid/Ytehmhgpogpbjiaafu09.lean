import Derived.Test.Ytehmhgpogpbjiaafu08
set_option linter.unusedVariables false
set_option linter.unusedSimpArgs false
set_option maxRecDepth 100000
set_option maxHeartbeats 8000000
namespace Go.Proofs.Ytehmhgpogpbjiaa.Fcc
open Go.RowKit Go.Proofs.YtehmhgpogpbjiaaW.PrintWords Go.Proofs.YtehmhgpogpbjiaaW.PrintLast Go.Proofs.YtehmhgpogpbjiaaW.PrintMore Go.Proofs.Ytehmhgpogpbjiaa.PFccTokens
open Go.Maps (string_keyed)
section
variable {w : World} {base g : Nat} {prims : List (ByteArray × Int)} {o : Nat → Nat} {vs : List Value} {m : Mk} {named : ByteArray → Bool}
def FPost (base g : Nat) (prims : List (ByteArray × Int)) (r : (ByteArray × Int × Mk) ⊕ Int) (w : World) (e : Ending) (w' : World) : Prop :=
 Below base w w' ∧ match r with
  | .inl (s, c, m) => e = .returned (.tuple #[.string s, .int .i64 c, .int .i64 0]) ∧ ∃ o vs, Mx w' base g prims o vs m
  | .inr c => e = .returned (.tuple #[.string ⟨#[]⟩, .int .i64 0, .int .i64 c])
theorem YaQ (hN : UZ named) (h : Mx w base g prims o vs m) (hsz : ∀ t ∈ m.inp, t.f1.size ≤ maxLen) (hx : 0 ≤ m.next) :
 Calls Try.prog 65 #[.pointer (some ⟨g, 0, none⟩)] w (FPost base g prims (XO named m) w) := by
 cases hm : m.inp with
 | nil =>
   have hr : XO named m = .inr 15 := by unfold XO XY; rw [hm]
   rw [hr]
   exact (YcQ h (.inl hm)).mono fun e w' ⟨he, hb⟩ => ⟨hb, he⟩
 | cons t r =>
   have hz := hsz t Z1y
   by_cases ht : t.f0 = 1
   ·by_cases hs : named t.f1 = true
    ·by_cases hn : m.next ≤ 4095
     ·have hr : XO named m = .inl (t.f1, m.next, { m with inp := r, next := m.next + 1 }) := by unfold XO XY; rw [hm]; simp only [ht, if_true, hs]; rw [if_neg Z6, if_neg Z0]
      rw [hr]
      exact (YdA hN h hm ht hz hs ⟨hx, hn⟩).mono fun e w' ⟨he, hb, hq⟩ => ⟨hb, he, hq⟩
     ·have hr : XO named m = .inr 22 := by unfold XO XY; rw [hm]; simp only [ht, if_true, hs]; rw [if_neg Z6, if_pos Z0]
      rw [hr]
      exact (Ye1 hN h hm ht hz hs Z0).mono fun e w' ⟨he, hb⟩ => ⟨hb, he⟩
    ·have hs' : named t.f1 = false := by simpa using hs
     have hr : XO named m = .inr 15 := by unfold XO XY; rw [hm]; simp only [ht, if_true, hs']
     rw [hr]
     exact (fresh_odd hN h hm ht hz hs').mono fun e w' ⟨he, hb⟩ => ⟨hb, he⟩
   ·have hr : XO named m = .inr 15 := by unfold XO XY; rw [hm]; simp only [ht, if_false]
    rw [hr]
    exact (YcQ h (.inr ⟨t, r, hm, ht⟩)).mono fun e w' ⟨he, hb⟩ => ⟨hb, he⟩
theorem JR {s : ByteArray} {c : Int} {m1 : Mk} (h : XO named m = .inl (s, c, m1)) : c = m.next ∧ m.next ≤ 4095 ∧ m1.out = m.out ∧ m1.names = m.names ∧ ∃ t ∈ m.inp, t.f1 = s := by
 unfold XO XY at h
 cases hm : m.inp with
 | nil => rw [hm] at h; simp at h
 | cons t r =>
   rw [hm] at h
   by_cases ht : t.f0 = 1
   ·simp only [ht, if_true] at h
    split at h
    ·cases h
    ·split at h
     ·cases h
     ·cases h
      exact ⟨rfl, Z0, rfl, rfl, t, List.mem_cons_self, rfl⟩
   ·simp only [ht, if_false] at h
    cases h
theorem freshP_err {c : Int} (h : XO named m = .inr c) : c = 15 ∨ c = 22 := by
 unfold XO at h
 split at h
 ·cases h; exact .inl rfl
 ·split at h
  ·cases h; exact .inl rfl
  ·split at h
   ·cases h; exact .inr rfl
   ·cases h
def Xr (named : ByteArray → Bool) (w : ByteArray) (m1 : Mk) : Res := match XO named m1 with
 | .inr e => .inr e
 | .inl (s, c, m2) => if w.toList = ([58] : List UInt8) then .inl { ((m2.add 182 c s).add (YJ w)) with opn := true, name := s, code := c } else .inl { ((m2.add 182 c s).add (YJ w)) with names := (s, c) :: ((m2.add 182 c s).add (YJ w)).names }
theorem def_colon (hN : UZ named) (h : Mx w base g prims o vs m) (hb : m.out.length < 1099511627700) (hpl : (m.names ++ prims).length < 1000000000000) (hsz : ∀ t ∈ m.inp, t.f1.size ≤ maxLen) (hx : 0 ≤ m.next) :
 Calls Try.prog 38 #[.pointer (some ⟨g, 0, none⟩), .string ⟨#[58]⟩] w (XT base g prims (Xr named ⟨#[58]⟩ m) w) := by
 have hk : YJ ⟨#[58]⟩ = 183 := by kernel_rfl
 have hfr := Aside0.mk (YaQ hN h hsz hx)
 obtain ⟨r0, hR0⟩ : ∃ r0, XO named m = r0 := ⟨_, rfl⟩
 have hR := Aside0.mk hR0
 unfold Xr
 rw [hR0]
 have hsz2 := Aside0.mk hsz
 have hpl2 := Aside0.mk hpl
 clear hR0 h hsz hpl
 go_enter Try.func38, Try.ntmps38
 go_wp2_with fail
 refine hfr.out.mono ?_
 rw [hR.out]
 rcases r0 with ⟨sn, cn, m2⟩ | c
 ·obtain ⟨hc1, hc2, hc3, hc4, t', ht', hts⟩ := JR hR.out
  have hcn : 0 ≤ cn ∧ cn ≤ 4095 := by rw [hc1]; exact ⟨hx, hc2⟩
  have hsn := Aside0.mk (show sn.size ≤ maxLen by rw [← hts]; exact hsz2.out t' ht')
  have hb2 : m2.out.length < 1099511627720 := by rw [hc3]; omega
  have hpl3 := Aside0.mk (show (m2.names ++ prims).length < 1000000000000 by rw [hc4]; exact hpl2.out)
  clear hc1 hc2 hc3 hc4 ht' hts
  rintro e w2 ⟨hB2, rfl, o2, vs2, h2⟩
  obtain ⟨m4, hm4⟩ : ∃ m4, (m2.add 182 cn sn).add 183 = m4 := ⟨_, rfl⟩
  have hM4 := Aside0.mk hm4
  have hpl4 := Aside0.mk (show (m4.names ++ prims).length < 1000000000000 by rw [← hm4]; exact hpl3.out)
  have hu : cn % 4294967296 = cn := Int.emod_eq_of_lt hcn.1 Z0
  clear hm4
  replace h2 := Aside0.mk h2
  go_wp2_with fail
  refine (YW h2.out 182 cn sn Z0).mono ?_
  rintro e w3 ⟨rfl, hB3, o3, vs3, h3⟩
  replace h3 := Aside0.mk h3
  go_wp2_with fail
  refine (Xk ⟨#[58]⟩ w3).mono ?_
  rintro e w3' ⟨rfl, rfl⟩
  rw [hk]
  go_wp2_with fail
  refine (YW h3.out 183 0 ⟨#[]⟩ Z1f).mono ?_
  rintro e w4 ⟨rfl, hB4, o4, vs4, h4⟩
  rw [show (m2.add 182 cn sn).add 183 0 ⟨#[]⟩ = m4 from hM4.out] at h4
  obtain ⟨v0, A1, c1, b, A7, c7, A8, c8, A9, c9, A10, c10, A11, c11, rfl⟩ := h4.cells
  have hB5 := hB2.trans (hB3.trans hB4)
  have p4 := h4.st.cell 4 rfl
  have q4 := h4.st.free 4
  have h5 : Mx (w4.setCell ⟨g, 4, none⟩ (.bool true)) base g prims o4 _ { m4 with opn := true } := ⟨h4.st.put 4 (loc_val base (.bool true)) rfl, rfl⟩
  have p5 := h5.st.cell 5 rfl
  have q5 := h5.st.free 5
  have h6 : Mx ((w4.setCell ⟨g, 4, none⟩ (.bool true)).setCell ⟨g, 5, none⟩ (.string sn)) base g prims o4 _ { m4 with opn := true, name := sn } := ⟨h5.st.put 5 (loc_val base (.string sn)) rfl, rfl⟩
  have p6 := h6.st.cell 6 rfl
  have q6 := h6.st.free 6
  have h7 : Mx (((w4.setCell ⟨g, 4, none⟩ (.bool true)).setCell ⟨g, 5, none⟩ (.string sn)).setCell ⟨g, 6, none⟩ (.int .i64 cn)) base g prims o4 _ { m4 with opn := true, name := sn, code := cn } := ⟨h6.st.put 6 (loc_val base (.int .i64 cn)) rfl, rfl⟩
  have hB7 := ((hB5.setCell (p := ⟨g, 4, none⟩) h4.st.hb (.bool true)).setCell (p := ⟨g, 5, none⟩) h4.st.hb (.string sn)).setCell (p := ⟨g, 6, none⟩) h4.st.hb (.int .i64 cn)
  replace h7 := Aside0.mk h7
  replace hB7 := Aside0.mk hB7
  clear h5 h6 h4
  go_wp2_with fail
  refine bodyPost_ret (v := .int .i64 0) ZB rfl ⟨hB7.out, ?_⟩
  rw [hM4.out]
  exact ⟨rfl, _, _, h7.out⟩
 ·rintro e w2 ⟨hB2, rfl⟩
  have hc0 : c = 15 ∨ c = 22 := freshP_err hR.out
  rcases hc0 with rfl | rfl
  ·go_wp2_with fail
   exact Z23
  ·go_wp2_with fail
   exact Z24
theorem def_other (hN : UZ named) (h : Mx w base g prims o vs m) (s : ByteArray) (hs1 : s.toList ≠ ([58] : List UInt8)) (hs2 : s.toList ≠ ([105, 110, 115, 116, 97, 110, 99, 101] : List UInt8)) (hb : m.out.length < 1099511627700) (hpl : (m.names ++ prims).length < 1000000000000) (hsz : ∀ t ∈ m.inp, t.f1.size ≤ maxLen) (hx : 0 ≤ m.next) :
 Calls Try.prog 38 #[.pointer (some ⟨g, 0, none⟩), .string s] w (XT base g prims (Xr named s m) w) := by
 have b1 : (s.toList == ([58] : List UInt8)) = false := beq_eq_false_iff_ne.mpr hs1
 have b2 : (s.toList == ([105, 110, 115, 116, 97, 110, 99, 101] : List UInt8)) = false := beq_eq_false_iff_ne.mpr hs2
 have hn1 := Aside0.mk hs1
 have hfr := Aside0.mk (YaQ hN h hsz hx)
 obtain ⟨r0, hR0⟩ : ∃ r0, XO named m = r0 := ⟨_, rfl⟩
 have hR := Aside0.mk hR0
 unfold Xr
 rw [hR0]
 have hsz2 := Aside0.mk hsz
 have hpl2 := Aside0.mk hpl
 clear hR0 h hsz hpl hs1 hs2
 go_enter Try.func38, Try.ntmps38
 go_wp2_with fail
 refine hfr.out.mono ?_
 rw [hR.out]
 rcases r0 with ⟨sn, cn, m2⟩ | c
 ·obtain ⟨hc1, hc2, hc3, hc4, t', ht', hts⟩ := JR hR.out
  have hcn : 0 ≤ cn ∧ cn ≤ 4095 := by rw [hc1]; exact ⟨hx, hc2⟩
  have hsn := Aside0.mk (show sn.size ≤ maxLen by rw [← hts]; exact hsz2.out t' ht')
  have hb2 : m2.out.length < 1099511627720 := by rw [hc3]; omega
  have hpl3 := Aside0.mk (show (m2.names ++ prims).length < 1000000000000 by rw [hc4]; exact hpl2.out)
  clear hc1 hc2 hc3 hc4 ht' hts
  rintro e w2 ⟨hB2, rfl, o2, vs2, h2⟩
  obtain ⟨m4, hm4⟩ : ∃ m4, (m2.add 182 cn sn).add (YJ s) = m4 := ⟨_, rfl⟩
  have hM4 := Aside0.mk hm4
  have hpl4 := Aside0.mk (show (m4.names ++ prims).length < 1000000000000 by rw [← hm4]; exact hpl3.out)
  have hu : cn % 4294967296 = cn := Int.emod_eq_of_lt hcn.1 Z0
  clear hm4
  replace h2 := Aside0.mk h2
  go_wp2_with fail
  refine (YW h2.out 182 cn sn Z0).mono ?_
  rintro e w3 ⟨rfl, hB3, o3, vs3, h3⟩
  replace h3 := Aside0.mk h3
  go_wp2_with fail
  refine (Xk s w3).mono ?_
  rintro e w3' ⟨rfl, rfl⟩
  go_wp2_with fail
  refine (YW h3.out (YJ s) 0 ⟨#[]⟩ Z1f).mono ?_
  rintro e w4 ⟨rfl, hB4, o4, vs4, h4⟩
  rw [show (m2.add 182 cn sn).add (YJ s) 0 ⟨#[]⟩ = m4 from hM4.out] at h4
  obtain ⟨v0, A1, c1, b, A7, c7, A8, c8, A9, c9, A10, c10, A11, c11, rfl⟩ := h4.cells
  have hB5 := hB2.trans (hB3.trans hB4)
  have p2 := h4.st.cell 2 rfl
  obtain ⟨b', n, D, hv, hob, hbb, hn, hA, hD⟩ := h4.map
  cases hv
  have hmx : maxLen = 9223372036854775807 := rfl
  have hcw : (Lit.int .i64 cn).wf = true := WalkArith.wf_i64 Z0
  have hlt : n < maxLen := by have := hpl4.out; have h9 : n ≤ (m4.names ++ prims).length := hn; omega
  have hpe := plainElem_int (P := Try.prog) (e := 3) (q := .i64) (H := Unit) Try.underlying3 hcw
  replace h4 := Aside0.mk h4
  replace hA := Aside0.mk hA
  replace hpe := Aside0.mk hpe
  clear hmx hcw
  go_wp2_with (at_mapUpdate; refine wpList_mapUpdate_own _ rfl _ _ _ 52 rfl 9 3 (string_keyed Try.underlying9) Try.underlying52 (plainElem Try.prog 3) b n D rfl hD hlt _ _ _ rfl rfl (key9 hsn.out) _ _ hpe.out ?_)
  intro w7 hown1 hg1
  have h7 := h4.out.named1 rfl hob hbb hn hA.out hD sn cn hg1 hown1
  have hB7 := Below.grown hB5 hg1 h4.out.st.base_le (fun k e => by cases e; exact hbb)
  replace h7 := Aside0.mk h7
  have n1 := eq_false hn1.out
  go_wp2_with fail
  refine bodyPost_ret (v := .int .i64 0) ZB rfl ⟨hB7, ?_⟩
  rw [hM4.out]
  exact ⟨rfl, _, _, h7.out⟩
 ·rintro e w2 ⟨hB2, rfl⟩
  have hc0 : c = 15 ∨ c = 22 := freshP_err hR.out
  rcases hc0 with rfl | rfl
  ·go_wp2_with fail
   exact Z23
  ·go_wp2_with fail
   exact Z24
theorem def_inst (hN : UZ named) (h : Mx w base g prims o vs m) (hb : m.out.length < 1099511627700) (hpl : (m.names ++ prims).length < 1000000000000) (hsz : ∀ t ∈ m.inp, t.f1.size ≤ maxLen) (hx : 0 ≤ m.next) :
 Calls Try.prog 38 #[.pointer (some ⟨g, 0, none⟩), .string ⟨#[105, 110, 115, 116, 97, 110, 99, 101]⟩] w (XT base g prims (match (match XY m with
  | .inl (s, m1) => if s.toList = ([118, 97, 108, 117, 101] : List UInt8) then .inl (m1.add 192) else .inr 15
  | .inr _ => .inr 15 : Res) with
 | .inr e => .inr e
 | .inl m1 => Xr named ⟨#[105, 110, 115, 116, 97, 110, 99, 101]⟩ m1) w) := by
 have hk : YJ ⟨#[105, 110, 115, 116, 97, 110, 99, 101]⟩ = 184 := by kernel_rfl
 cases hm : m.inp with
 | nil =>
   have hr : XY m = .inr 15 := by unfold XY; rw [hm]
   rw [hr]
   have hw := Yam h hm
   clear hk hr hm h
   go_enter Try.func38, Try.ntmps38
   go_wp2_with fail
   refine hw.mono ?_
   rintro e w1 ⟨rfl, rfl⟩
   go_wp2_with fail
   exact Z2z
 | cons t r =>
   by_cases ht : t.f0 = 1
   ·have hr : XY m = .inl (t.f1, { m with inp := r }) := by unfold XY; rw [hm]; simp only [ht, if_true]
    rw [hr]
    have hw := Ug h hm ht
    have hsz1 : ∀ t ∈ ({ m with inp := r } : Mk).inp, t.f1.size ≤ maxLen := fun t' ht' => hsz t' (by rw [hm]; exact List.mem_cons_of_mem _ ht')
    by_cases hv : t.f1.toList = ([118, 97, 108, 117, 101] : List UInt8)
    ·simp only [hv, if_true]
     have bv : (t.f1.toList == ([118, 97, 108, 117, 101] : List UInt8)) = true := beq_iff_eq.mpr hv
     have bv2 : (t.f1.toList != ([118, 97, 108, 117, 101] : List UInt8)) = false := by simp [hv]
     obtain ⟨m1, hm1⟩ : ∃ m1, ({ m with inp := r } : Mk).add 192 = m1 := ⟨_, rfl⟩
     have hb1 : m1.out.length < 1099511627710 := by rw [← hm1]; simp [Mk.add]; omega
     have hpl1 := Aside0.mk (show (m1.names ++ prims).length < 1000000000000 by rw [← hm1]; exact hpl)
     have hsz2 := Aside0.mk (show ∀ t ∈ m1.inp, t.f1.size ≤ maxLen by rw [← hm1]; exact hsz1)
     have hx1 : 0 ≤ m1.next := by rw [← hm1]; exact hx
     rw [hm1]
     have hM1 := Aside0.mk hm1
     obtain ⟨r0, hR0⟩ : ∃ r0, XO named m1 = r0 := ⟨_, rfl⟩
     have hR := Aside0.mk hR0
     have hdr : Xr named ⟨#[105, 110, 115, 116, 97, 110, 99, 101]⟩ m1 = _ := rfl
     unfold Xr
     rw [hR0]
     have hfr := Aside0.mk (fun (W : World) o2 vs2 (h2 : Mx W base g prims o2 vs2 m1) => YaQ hN h2 hsz2.out hx1)
     clear hr hm1 hR0 hdr hsz1 hm hv h hsz
     go_enter Try.func38, Try.ntmps38
     go_wp2_with fail
     refine hw.mono ?_
     rintro e w1 ⟨rfl, hB1, o1, vs1, h1⟩
     replace h1 := Aside0.mk h1
     go_wp2_with fail
     refine (YW h1.out 192 0 ⟨#[]⟩ Z1e).mono ?_
     rintro e w1' ⟨rfl, hB1', o1', vs1', h1'⟩
     rw [show ({ m with inp := r } : Mk).add 192 0 ⟨#[]⟩ = m1 from hM1.out] at h1'
     replace hB1 := hB1.trans hB1'
     replace h1' := Aside0.mk h1'
     go_wp2_with fail
     refine (hfr.out _ _ _ h1'.out).mono ?_
     rw [hR.out]
     rcases r0 with ⟨sn, cn, m2⟩ | c
     ·obtain ⟨hc1, hc2, hc3, hc4, t', ht', hts⟩ := JR hR.out
      have hcn : 0 ≤ cn ∧ cn ≤ 4095 := by rw [hc1]; exact ⟨hx1, hc2⟩
      have hsn := Aside0.mk (show sn.size ≤ maxLen by rw [← hts]; exact hsz2.out t' ht')
      have hb2 : m2.out.length < 1099511627720 := by rw [hc3]; omega
      have hpl3 := Aside0.mk (show (m2.names ++ prims).length < 1000000000000 by rw [hc4]; exact hpl1.out)
      clear hc1 hc2 hc3 hc4 ht' hts
      rintro e w2 ⟨hB2, rfl, o2, vs2, h2⟩
      replace hB2 := hB1.trans hB2
      obtain ⟨m4, hm4⟩ : ∃ m4, (m2.add 182 cn sn).add 184 = m4 := ⟨_, rfl⟩
      have hM4 := Aside0.mk hm4
      have hpl4 := Aside0.mk (show (m4.names ++ prims).length < 1000000000000 by rw [← hm4]; exact hpl3.out)
      have hu : cn % 4294967296 = cn := Int.emod_eq_of_lt hcn.1 Z0
      clear hm4
      replace h2 := Aside0.mk h2
      go_wp2_with fail
      refine (YW h2.out 182 cn sn Z0).mono ?_
      rintro e w3 ⟨rfl, hB3, o3, vs3, h3⟩
      replace h3 := Aside0.mk h3
      go_wp2_with fail
      refine (Xk ⟨#[105, 110, 115, 116, 97, 110, 99, 101]⟩ w3).mono ?_
      rintro e w3' ⟨rfl, rfl⟩
      rw [hk]
      go_wp2_with fail
      refine (YW h3.out 184 0 ⟨#[]⟩ Z1f).mono ?_
      rintro e w4 ⟨rfl, hB4, o4, vs4, h4⟩
      rw [show (m2.add 182 cn sn).add 184 0 ⟨#[]⟩ = m4 from hM4.out] at h4
      obtain ⟨v0, A1, c1, b, A7, c7, A8, c8, A9, c9, A10, c10, A11, c11, rfl⟩ := h4.cells
      have hB5 := hB2.trans (hB3.trans hB4)
      have p2 := h4.st.cell 2 rfl
      obtain ⟨b', n, D, hv, hob, hbb, hn, hA, hD⟩ := h4.map
      cases hv
      have hmx : maxLen = 9223372036854775807 := rfl
      have hcw : (Lit.int .i64 cn).wf = true := WalkArith.wf_i64 Z0
      have hlt : n < maxLen := by have := hpl4.out; have h9 : n ≤ (m4.names ++ prims).length := hn; omega
      have hpe := plainElem_int (P := Try.prog) (e := 3) (q := .i64) (H := Unit) Try.underlying3 hcw
      replace h4 := Aside0.mk h4
      replace hA := Aside0.mk hA
      replace hpe := Aside0.mk hpe
      clear hmx hcw
      go_wp2_with (at_mapUpdate; refine wpList_mapUpdate_own _ rfl _ _ _ 52 rfl 9 3 (string_keyed Try.underlying9) Try.underlying52 (plainElem Try.prog 3) b n D rfl hD hlt _ _ _ rfl rfl (key9 hsn.out) _ _ hpe.out ?_)
      intro w7 hown1 hg1
      have h7 := h4.out.named1 rfl hob hbb hn hA.out hD sn cn hg1 hown1
      have hB7 := Below.grown hB5 hg1 h4.out.st.base_le (fun k e => by cases e; exact hbb)
      replace h7 := Aside0.mk h7
      go_wp2_with fail
      refine bodyPost_ret (v := .int .i64 0) ZB rfl ⟨hB7, ?_⟩
      rw [hM4.out]
      exact ⟨rfl, _, _, h7.out⟩
     ·rintro e w2 ⟨hB2, rfl⟩
      replace hB2 := hB1.trans hB2
      have hc0 : c = 15 ∨ c = 22 := freshP_err hR.out
      rcases hc0 with rfl | rfl
      ·go_wp2_with fail
       exact Z23
      ·go_wp2_with fail
       exact Z24
    ·simp only [hv, if_false]
     have bv : (t.f1.toList == ([118, 97, 108, 117, 101] : List UInt8)) = false := beq_eq_false_iff_ne.mpr hv
     have bv2 : (t.f1.toList != ([118, 97, 108, 117, 101] : List UInt8)) = true := by simp [hv]
     clear hr hsz1 hm hv h hsz
     go_enter Try.func38, Try.ntmps38
     go_wp2_with fail
     refine hw.mono ?_
     rintro e w1 ⟨rfl, hB1, o1, vs1, h1⟩
     replace h1 := Aside0.mk h1
     go_wp2_with fail
     exact bodyPost_ret (v := .int .i64 15) ZB rfl ⟨hB1, rfl⟩
   ·have hr : XY m = .inr 15 := by unfold XY; rw [hm]; simp only [ht, if_false]
    rw [hr]
    have hw := Yby h hm ht
    clear hk hr hm h
    go_enter Try.func38, Try.ntmps38
    go_wp2_with fail
    refine hw.mono ?_
    rintro e w1 ⟨rfl, rfl⟩
    go_wp2_with fail
    exact Z2z
end
abbrev Jn : Prop := ∀ (s : ByteArray) (W : World), Calls Try.prog 34 #[.string s] W fun e W' => ∃ (A : Option Addr) (n c : Nat), e = .returned (.slice A n c) ∧ (if YS s = true then 0 < n else n = 0) ∧ Below W.heap.size W W'
abbrev LitC (lit : ByteArray → Option Int) : Prop := ∀ (s : ByteArray) (W : World), s.size ≤ maxLen → Calls Try.prog 39 #[.string s] W fun e W' => (∃ z : Int, e = .returned (.tuple #[.int .u32 ((lit s).getD z), .bool (lit s).isSome])) ∧ Below W.heap.size W W'
theorem Yeg {s : ByteArray} (hA : Jn) (h : YS s = true) (W : World) : Calls Try.prog 34 #[.string s] W fun e W' => ∃ (A : Option Addr) (n c : Nat), e = .returned (.slice A (n + 1) c) ∧ Below W.heap.size W W' :=
 (hA s W).mono fun e W' ⟨A, n, c, he, hn, hB⟩ => by
  rw [if_pos h] at hn
  obtain ⟨k, rfl⟩ : ∃ k, n = k + 1 := ⟨n - 1, Z0⟩
  exact ⟨A, k, c, he, hB⟩
theorem UX {s : ByteArray} (hA : Jn) (h : YS s = false) (W : World) : Calls Try.prog 34 #[.string s] W fun e W' => ∃ (A : Option Addr) (c : Nat), e = .returned (.slice A 0 c) ∧ Below W.heap.size W W' :=
 (hA s W).mono fun e W' ⟨A, n, c, he, hn, hB⟩ => by
  rw [if_neg (by rw [h]; simp)] at hn
  subst hn
  exact ⟨A, c, he, hB⟩
section
variable {w : World} {base g : Nat} {prims : List (ByteArray × Int)} {o : Nat → Nat} {vs : List Value} {m : Mk} {named : ByteArray → Bool} {lit : ByteArray → Option Int}
theorem YbU (h : Mx w base g prims o vs m) (ho : m.opn = false) : Calls Try.prog 18 #[.pointer (some ⟨g, 0, none⟩), .string ⟨#[59]⟩] w (XT base g prims (.inr 13) w) := by
 have hmk := Aside0.mk (show YJ ⟨#[59]⟩ = 0 by kernel_rfl)
 have k4 : w.cell? ⟨g, 4, none⟩ = some (.bool m.opn) := by
  obtain ⟨v0, A1, c1, b, A7, c7, A8, c8, A9, c9, A10, c10, A11, c11, rfl⟩ := h.cells
  exact h.st.cell 4 rfl
 rw [ho] at k4
 clear h ho
 go_enter Try.func18, Try.ntmps18
 go_wp2_with fail
 refine (Xk _ w).mono ?_
 rintro e w' ⟨rfl, rfl⟩
 rw [hmk.out]
 go_wp2_with fail
 exact Z25
theorem YbV {r : Res} (h : Mx w base g prims o vs m) (ho : m.opn = true) (hW : Calls Try.prog 36 #[.pointer (some ⟨g, 0, none⟩), .string ⟨#[59]⟩] w (XT base g prims r w)) : Calls Try.prog 18 #[.pointer (some ⟨g, 0, none⟩), .string ⟨#[59]⟩] w (XT base g prims r w) := by
 have hmk := Aside0.mk (show YJ ⟨#[59]⟩ = 0 by kernel_rfl)
 have k4 : w.cell? ⟨g, 4, none⟩ = some (.bool m.opn) := by
  obtain ⟨v0, A1, c1, b, A7, c7, A8, c8, A9, c9, A10, c10, A11, c11, rfl⟩ := h.cells
  exact h.st.cell 4 rfl
 rw [ho] at k4
 have hC := Aside0.mk hW
 clear h ho hW
 go_enter Try.func18, Try.ntmps18
 go_wp2_with fail
 refine (Xk _ w).mono ?_
 rintro e w' ⟨rfl, rfl⟩
 rw [hmk.out]
 go_wp2_with fail
 refine hC.out.mono ?_
 rcases r with m1 | c
 ·rintro e w4 ⟨hB4, rfl, o4, vs4, h4⟩
  go_wp2_with fail
  exact Z26
 ·rintro e w4 ⟨hB4, rfl⟩
  go_wp2_with fail
  exact Z27
theorem YbW (h : Mx w base g prims o vs m) (ho : m.opn = false) : Calls Try.prog 18 #[.pointer (some ⟨g, 0, none⟩), .string ⟨#[101, 120, 105, 116]⟩] w (XT base g prims (.inr 13) w) := by
 have hmk := Aside0.mk (show YJ ⟨#[101, 120, 105, 116]⟩ = 0 by kernel_rfl)
 have k4 : w.cell? ⟨g, 4, none⟩ = some (.bool m.opn) := by
  obtain ⟨v0, A1, c1, b, A7, c7, A8, c8, A9, c9, A10, c10, A11, c11, rfl⟩ := h.cells
  exact h.st.cell 4 rfl
 rw [ho] at k4
 clear h ho
 go_enter Try.func18, Try.ntmps18
 go_wp2_with fail
 refine (Xk _ w).mono ?_
 rintro e w' ⟨rfl, rfl⟩
 rw [hmk.out]
 go_wp2_with fail
 exact Z25
theorem YbX {r : Res} (h : Mx w base g prims o vs m) (ho : m.opn = true) (hW : Calls Try.prog 36 #[.pointer (some ⟨g, 0, none⟩), .string ⟨#[101, 120, 105, 116]⟩] w (XT base g prims r w)) : Calls Try.prog 18 #[.pointer (some ⟨g, 0, none⟩), .string ⟨#[101, 120, 105, 116]⟩] w (XT base g prims r w) := by
 have hmk := Aside0.mk (show YJ ⟨#[101, 120, 105, 116]⟩ = 0 by kernel_rfl)
 have k4 : w.cell? ⟨g, 4, none⟩ = some (.bool m.opn) := by
  obtain ⟨v0, A1, c1, b, A7, c7, A8, c8, A9, c9, A10, c10, A11, c11, rfl⟩ := h.cells
  exact h.st.cell 4 rfl
 rw [ho] at k4
 have hC := Aside0.mk hW
 clear h ho hW
 go_enter Try.func18, Try.ntmps18
 go_wp2_with fail
 refine (Xk _ w).mono ?_
 rintro e w' ⟨rfl, rfl⟩
 rw [hmk.out]
 go_wp2_with fail
 refine hC.out.mono ?_
 rcases r with m1 | c
 ·rintro e w4 ⟨hB4, rfl, o4, vs4, h4⟩
  go_wp2_with fail
  exact Z26
 ·rintro e w4 ⟨hB4, rfl⟩
  go_wp2_with fail
  exact Z27
theorem YbS (h : Mx w base g prims o vs m) (ho : m.opn = false) : Calls Try.prog 18 #[.pointer (some ⟨g, 0, none⟩), .string ⟨#[91, 39, 93]⟩] w (XT base g prims (.inr 13) w) := by
 have hmk := Aside0.mk (show YJ ⟨#[91, 39, 93]⟩ = 0 by kernel_rfl)
 have k4 : w.cell? ⟨g, 4, none⟩ = some (.bool m.opn) := by
  obtain ⟨v0, A1, c1, b, A7, c7, A8, c8, A9, c9, A10, c10, A11, c11, rfl⟩ := h.cells
  exact h.st.cell 4 rfl
 rw [ho] at k4
 clear h ho
 go_enter Try.func18, Try.ntmps18
 go_wp2_with fail
 refine (Xk _ w).mono ?_
 rintro e w' ⟨rfl, rfl⟩
 rw [hmk.out]
 go_wp2_with fail
 exact Z25
theorem YbT {r : Res} (h : Mx w base g prims o vs m) (ho : m.opn = true) (hW : Calls Try.prog 36 #[.pointer (some ⟨g, 0, none⟩), .string ⟨#[91, 39, 93]⟩] w (XT base g prims r w)) : Calls Try.prog 18 #[.pointer (some ⟨g, 0, none⟩), .string ⟨#[91, 39, 93]⟩] w (XT base g prims r w) := by
 have hmk := Aside0.mk (show YJ ⟨#[91, 39, 93]⟩ = 0 by kernel_rfl)
 have k4 : w.cell? ⟨g, 4, none⟩ = some (.bool m.opn) := by
  obtain ⟨v0, A1, c1, b, A7, c7, A8, c8, A9, c9, A10, c10, A11, c11, rfl⟩ := h.cells
  exact h.st.cell 4 rfl
 rw [ho] at k4
 have hC := Aside0.mk hW
 clear h ho hW
 go_enter Try.func18, Try.ntmps18
 go_wp2_with fail
 refine (Xk _ w).mono ?_
 rintro e w' ⟨rfl, rfl⟩
 rw [hmk.out]
 go_wp2_with fail
 refine hC.out.mono ?_
 rcases r with m1 | c
 ·rintro e w4 ⟨hB4, rfl, o4, vs4, h4⟩
  go_wp2_with fail
  exact Z26
 ·rintro e w4 ⟨hB4, rfl⟩
  go_wp2_with fail
  exact Z27
theorem Ybb (hA : Jn) (h : Mx w base g prims o vs m) (ho : m.opn = false) (s : ByteArray) (n0 : s.toList ≠ ([59] : List UInt8)) (n1 : s.toList ≠ ([101, 120, 105, 116] : List UInt8)) (n2 : s.toList ≠ ([91, 39, 93] : List UInt8)) (n3 : s.toList ≠ ([39] : List UInt8)) (ht : YS s = true) (hm : YJ s = 0) : Calls Try.prog 18 #[.pointer (some ⟨g, 0, none⟩), .string s] w (XT base g prims (.inr 13) w) := by
 have b0 : (s.toList == ([59] : List UInt8)) = false := beq_eq_false_iff_ne.mpr n0
 have b1 : (s.toList == ([101, 120, 105, 116] : List UInt8)) = false := beq_eq_false_iff_ne.mpr n1
 have b2 : (s.toList == ([91, 39, 93] : List UInt8)) = false := beq_eq_false_iff_ne.mpr n2
 have b3 : (s.toList == ([39] : List UInt8)) = false := beq_eq_false_iff_ne.mpr n3
 have k4 : w.cell? ⟨g, 4, none⟩ = some (.bool m.opn) := by
  obtain ⟨v0, A1, c1, b, A7, c7, A8, c8, A9, c9, A10, c10, A11, c11, rfl⟩ := h.cells
  exact h.st.cell 4 rfl
 rw [ho] at k4
 have hbb := h.st.base_le
 have hX := Aside0.mk h
 have hmk := Aside0.mk hm
 have hac := Aside0.mk (Yeg hA ht)
 clear h ho hm ht n0 n1 n2 n3
 go_enter Try.func18, Try.ntmps18
 go_wp2_with fail
 refine (hac.out w).mono ?_
 rintro e w1 ⟨A, n, c, rfl, hB1⟩
 have k4' := (hB1.cell (p := ⟨g, 4, none⟩) hX.out.st.lt).trans k4
 clear k4
 have hB := Below.mono hB1 hbb
 have d0 : decide ((0 : Int) < ((n + 1 : Nat) : Int)) = true := by simp
 have d1 : decide ((0 : Int) < (n : Int) + 1) = true := by simp
 go_wp2_with fail
 refine (Xk _ _).mono ?_
 rintro e w' ⟨rfl, rfl⟩
 rw [hmk.out]
 go_wp2_with fail
 exact Z28
theorem Ybc {r : Res} (hA : Jn) (h : Mx w base g prims o vs m) (ho : m.opn = true) (s : ByteArray) (n0 : s.toList ≠ ([59] : List UInt8)) (n1 : s.toList ≠ ([101, 120, 105, 116] : List UInt8)) (n2 : s.toList ≠ ([91, 39, 93] : List UInt8)) (n3 : s.toList ≠ ([39] : List UInt8)) (ht : YS s = true) (hm : YJ s = 0) (hW : ∀ W, Below w.heap.size w W → Calls Try.prog 36 #[.pointer (some ⟨g, 0, none⟩), .string s] W (XT base g prims r W)) : Calls Try.prog 18 #[.pointer (some ⟨g, 0, none⟩), .string s] w (XT base g prims r w) := by
 have b0 : (s.toList == ([59] : List UInt8)) = false := beq_eq_false_iff_ne.mpr n0
 have b1 : (s.toList == ([101, 120, 105, 116] : List UInt8)) = false := beq_eq_false_iff_ne.mpr n1
 have b2 : (s.toList == ([91, 39, 93] : List UInt8)) = false := beq_eq_false_iff_ne.mpr n2
 have b3 : (s.toList == ([39] : List UInt8)) = false := beq_eq_false_iff_ne.mpr n3
 have k4 : w.cell? ⟨g, 4, none⟩ = some (.bool m.opn) := by
  obtain ⟨v0, A1, c1, b, A7, c7, A8, c8, A9, c9, A10, c10, A11, c11, rfl⟩ := h.cells
  exact h.st.cell 4 rfl
 rw [ho] at k4
 have hbb := h.st.base_le
 have hX := Aside0.mk h
 have hmk := Aside0.mk hm
 have hac := Aside0.mk (Yeg hA ht)
 have hC := Aside0.mk hW
 clear h ho hm ht n0 n1 n2 n3 hW
 go_enter Try.func18, Try.ntmps18
 go_wp2_with fail
 refine (hac.out w).mono ?_
 rintro e w1 ⟨A, n, c, rfl, hB1⟩
 have k4' := (hB1.cell (p := ⟨g, 4, none⟩) hX.out.st.lt).trans k4
 clear k4
 have hB := Below.mono hB1 hbb
 have d0 : decide ((0 : Int) < ((n + 1 : Nat) : Int)) = true := by simp
 have d1 : decide ((0 : Int) < (n : Int) + 1) = true := by simp
 go_wp2_with fail
 refine (Xk _ _).mono ?_
 rintro e w' ⟨rfl, rfl⟩
 rw [hmk.out]
 go_wp2_with fail
 refine (hC.out _ hB1).mono ?_
 rcases r with m1 | c
 ·rintro e w4 ⟨hB4, rfl, o4, vs4, h4⟩
  go_wp2_with fail
  exact Z1j
 ·rintro e w4 ⟨hB4, rfl⟩
  go_wp2_with fail
  exact Z1G
theorem Ybe (hA : Jn) (h : Mx w base g prims o vs m) (ho : m.opn = true) : Calls Try.prog 18 #[.pointer (some ⟨g, 0, none⟩), .string ⟨#[39]⟩] w (XT base g prims (.inr 13) w) := by
 have ht : YS ⟨#[39]⟩ = false := by kernel_rfl
 have k4 : w.cell? ⟨g, 4, none⟩ = some (.bool m.opn) := by
  obtain ⟨v0, A1, c1, b, A7, c7, A8, c8, A9, c9, A10, c10, A11, c11, rfl⟩ := h.cells
  exact h.st.cell 4 rfl
 rw [ho] at k4
 have hbb := h.st.base_le
 have hX := Aside0.mk h
 have hac := Aside0.mk (UX hA ht)
 clear h ho ht
 go_enter Try.func18, Try.ntmps18
 go_wp2_with fail
 refine (hac.out w).mono ?_
 rintro e w1 ⟨A, c, rfl, hB1⟩
 have k4' := (hB1.cell (p := ⟨g, 4, none⟩) hX.out.st.lt).trans k4
 clear k4
 have hB := Below.mono hB1 hbb
 go_wp2_with fail
 exact Z28
theorem Ybd {r : Res} (hA : Jn) (h : Mx w base g prims o vs m) (ho : m.opn = false) (hW : ∀ W, Below w.heap.size w W → Calls Try.prog 37 #[.pointer (some ⟨g, 0, none⟩), .int .i64 17] W (XT base g prims r W)) : Calls Try.prog 18 #[.pointer (some ⟨g, 0, none⟩), .string ⟨#[39]⟩] w (XT base g prims r w) := by
 have ht : YS ⟨#[39]⟩ = false := by kernel_rfl
 have k4 : w.cell? ⟨g, 4, none⟩ = some (.bool m.opn) := by
  obtain ⟨v0, A1, c1, b, A7, c7, A8, c8, A9, c9, A10, c10, A11, c11, rfl⟩ := h.cells
  exact h.st.cell 4 rfl
 rw [ho] at k4
 have hbb := h.st.base_le
 have hX := Aside0.mk h
 have hac := Aside0.mk (UX hA ht)
 have hC := Aside0.mk hW
 clear h ho ht hW
 go_enter Try.func18, Try.ntmps18
 go_wp2_with fail
 refine (hac.out w).mono ?_
 rintro e w1 ⟨A, c, rfl, hB1⟩
 have k4' := (hB1.cell (p := ⟨g, 4, none⟩) hX.out.st.lt).trans k4
 clear k4
 have hB := Below.mono hB1 hbb
 go_wp2_with fail
 refine (hC.out _ hB1).mono ?_
 rcases r with m1 | c
 ·rintro e w4 ⟨hB4, rfl, o4, vs4, h4⟩
  go_wp2_with fail
  exact Z1j
 ·rintro e w4 ⟨hB4, rfl⟩
  go_wp2_with fail
  exact Z1G
theorem YcG (hA : Jn) (h : Mx w base g prims o vs m) (ho : m.opn = true) (s : ByteArray) (n0 : s.toList ≠ ([59] : List UInt8)) (n1 : s.toList ≠ ([101, 120, 105, 116] : List UInt8)) (n2 : s.toList ≠ ([91, 39, 93] : List UInt8)) (n3 : s.toList ≠ ([39] : List UInt8)) (ht : YS s = false) (hm : YJ s ≠ 0) : Calls Try.prog 18 #[.pointer (some ⟨g, 0, none⟩), .string s] w (XT base g prims (.inr 13) w) := by
 have b0 : (s.toList == ([59] : List UInt8)) = false := beq_eq_false_iff_ne.mpr n0
 have b1 : (s.toList == ([101, 120, 105, 116] : List UInt8)) = false := beq_eq_false_iff_ne.mpr n1
 have b2 : (s.toList == ([91, 39, 93] : List UInt8)) = false := beq_eq_false_iff_ne.mpr n2
 have b3 : (s.toList == ([39] : List UInt8)) = false := beq_eq_false_iff_ne.mpr n3
 have d3 : (YJ s == 0) = false := beq_eq_false_iff_ne.mpr hm
 have d4 : (YJ s != 0) = true := bne_iff_ne.mpr hm
 have k4 : w.cell? ⟨g, 4, none⟩ = some (.bool m.opn) := by
  obtain ⟨v0, A1, c1, b, A7, c7, A8, c8, A9, c9, A10, c10, A11, c11, rfl⟩ := h.cells
  exact h.st.cell 4 rfl
 rw [ho] at k4
 have hbb := h.st.base_le
 have hX := Aside0.mk h
 have hac := Aside0.mk (UX hA ht)
 clear h ho ht hm n0 n1 n2 n3
 go_enter Try.func18, Try.ntmps18
 go_wp2_with fail
 refine (hac.out w).mono ?_
 rintro e w1 ⟨A, c, rfl, hB1⟩
 have k4' := (hB1.cell (p := ⟨g, 4, none⟩) hX.out.st.lt).trans k4
 clear k4
 have hB := Below.mono hB1 hbb
 go_wp2_with fail
 refine (Xk _ _).mono ?_
 rintro e w' ⟨rfl, rfl⟩
 go_wp2_with fail
 exact Z28
theorem YcF {r : Res} (hA : Jn) (h : Mx w base g prims o vs m) (ho : m.opn = false) (s : ByteArray) (n0 : s.toList ≠ ([59] : List UInt8)) (n1 : s.toList ≠ ([101, 120, 105, 116] : List UInt8)) (n2 : s.toList ≠ ([91, 39, 93] : List UInt8)) (n3 : s.toList ≠ ([39] : List UInt8)) (ht : YS s = false) (hm : YJ s ≠ 0) (hW : ∀ W, Below w.heap.size w W → Calls Try.prog 38 #[.pointer (some ⟨g, 0, none⟩), .string s] W (XT base g prims r W)) : Calls Try.prog 18 #[.pointer (some ⟨g, 0, none⟩), .string s] w (XT base g prims r w) := by
 have b0 : (s.toList == ([59] : List UInt8)) = false := beq_eq_false_iff_ne.mpr n0
 have b1 : (s.toList == ([101, 120, 105, 116] : List UInt8)) = false := beq_eq_false_iff_ne.mpr n1
 have b2 : (s.toList == ([91, 39, 93] : List UInt8)) = false := beq_eq_false_iff_ne.mpr n2
 have b3 : (s.toList == ([39] : List UInt8)) = false := beq_eq_false_iff_ne.mpr n3
 have d3 : (YJ s == 0) = false := beq_eq_false_iff_ne.mpr hm
 have d4 : (YJ s != 0) = true := bne_iff_ne.mpr hm
 have k4 : w.cell? ⟨g, 4, none⟩ = some (.bool m.opn) := by
  obtain ⟨v0, A1, c1, b, A7, c7, A8, c8, A9, c9, A10, c10, A11, c11, rfl⟩ := h.cells
  exact h.st.cell 4 rfl
 rw [ho] at k4
 have hbb := h.st.base_le
 have hX := Aside0.mk h
 have hac := Aside0.mk (UX hA ht)
 have hC := Aside0.mk hW
 clear h ho ht hm n0 n1 n2 n3 hW
 go_enter Try.func18, Try.ntmps18
 go_wp2_with fail
 refine (hac.out w).mono ?_
 rintro e w1 ⟨A, c, rfl, hB1⟩
 have k4' := (hB1.cell (p := ⟨g, 4, none⟩) hX.out.st.lt).trans k4
 clear k4
 have hB := Below.mono hB1 hbb
 go_wp2_with fail
 refine (Xk _ _).mono ?_
 rintro e w' ⟨rfl, rfl⟩
 go_wp2_with fail
 refine (hC.out _ hB1).mono ?_
 rcases r with m1 | c
 ·rintro e w4 ⟨hB4, rfl, o4, vs4, h4⟩
  go_wp2_with fail
  exact Z1j
 ·rintro e w4 ⟨hB4, rfl⟩
  go_wp2_with fail
  exact Z1G
theorem one_to {r : Res} (hA : Jn) (h : Mx w base g prims o vs m) (hW : ∀ W, Below w.heap.size w W → Calls Try.prog 37 #[.pointer (some ⟨g, 0, none⟩), .int .i64 195] W (XT base g prims r W)) : Calls Try.prog 18 #[.pointer (some ⟨g, 0, none⟩), .string ⟨#[116, 111]⟩] w (XT base g prims r w) := by
 have ht : YS ⟨#[116, 111]⟩ = false := by kernel_rfl
 have hmk := Aside0.mk (show YJ ⟨#[116, 111]⟩ = 0 by kernel_rfl)
 have hbb := h.st.base_le
 have hac := Aside0.mk (UX hA ht)
 have hC := Aside0.mk hW
 clear h ht hW
 go_enter Try.func18, Try.ntmps18
 go_wp2_with fail
 refine (hac.out w).mono ?_
 rintro e w1 ⟨A, c, rfl, hB1⟩
 have hB := Below.mono hB1 hbb
 go_wp2_with fail
 refine (Xk _ _).mono ?_
 rintro e w' ⟨rfl, rfl⟩
 rw [hmk.out]
 go_wp2_with fail
 refine (hC.out _ hB1).mono ?_
 rcases r with m1 | c
 ·rintro e w4 ⟨hB4, rfl, o4, vs4, h4⟩
  go_wp2_with fail
  exact Z1j
 ·rintro e w4 ⟨hB4, rfl⟩
  go_wp2_with fail
  exact Z1G
theorem one_name (hA : Jn) (hL : LitC lit) (h : Mx w base g prims o vs m) (hb : m.out.length < 1099511627700) (s : ByteArray) (n0 : s.toList ≠ ([59] : List UInt8)) (n1 : s.toList ≠ ([101, 120, 105, 116] : List UInt8)) (n2 : s.toList ≠ ([91, 39, 93] : List UInt8)) (n3 : s.toList ≠ ([39] : List UInt8)) (n4 : s.toList ≠ ([116, 111] : List UInt8)) (ht : YS s = false) (hm : YJ s = 0) (hsz : s.size ≤ maxLen) {n : Int} (hf : Vz prims m s = some n) : Calls Try.prog 18 #[.pointer (some ⟨g, 0, none⟩), .string s] w (XT base g prims (.inl (m.add n)) w) := by
 have b0 : (s.toList == ([59] : List UInt8)) = false := beq_eq_false_iff_ne.mpr n0
 have b1 : (s.toList == ([101, 120, 105, 116] : List UInt8)) = false := beq_eq_false_iff_ne.mpr n1
 have b2 : (s.toList == ([91, 39, 93] : List UInt8)) = false := beq_eq_false_iff_ne.mpr n2
 have b3 : (s.toList == ([39] : List UInt8)) = false := beq_eq_false_iff_ne.mpr n3
 have b4 : (s.toList == ([116, 111] : List UInt8)) = false := beq_eq_false_iff_ne.mpr n4
 have hbb := h.st.base_le
 have hX := Aside0.mk h
 have hmk := Aside0.mk hm
 have hac := Aside0.mk (UX hA ht)
 have hf' := Aside0.mk hf
 clear h hm ht n0 n1 n2 n3 n4 hf
 go_enter Try.func18, Try.ntmps18
 go_wp2_with fail
 refine (hac.out w).mono ?_
 rintro e w1 ⟨A, c, rfl, hB1⟩
 have h1 := hX.out.below hB1
 have hB := Below.mono hB1 hbb
 go_wp2_with fail
 refine (Xk _ _).mono ?_
 rintro e w' ⟨rfl, rfl⟩
 rw [hmk.out]
 obtain ⟨v0, A1, c1, b, A7, c7, A8, c8, A9, c9, A10, c10, A11, c11, rfl⟩ := h1.cells
 obtain ⟨n1, D, hn1, hag, b', hb', -, -, hown⟩ := (h1.st.row 2 _ _ rfl rfl : Jg base (m.names ++ prims) w' _ (.map (some b)))
 cases hb'
 have hc2 := h1.st.cell 2 rfl
 have hlk : look (m.names ++ prims) s = some n := by rw [Ul]; exact hf'.out
 have ha := hag s
 rw [hlk] at ha
 have hat0 := Aside0.mk (ha.2 n rfl)
 have hhas : Maps.has D (.string s.data.toList) = true := ha.1
 clear ha hlk hag
 replace h1 := Aside0.mk h1
 go_wp2_with (at_lookup; refine wpList_lookup_own_ok_int _ rfl _ _ 52 rfl 9 3 .i64 (string_keyed Try.underlying9) Try.underlying52 Try.underlying3 (Yei _) b n1 D rfl hown _ _ rfl (key9 hsz) ?_; intro c hat hwc)
 have hcn : c = n := by
  have := hat.symm.trans hat0.out
  simpa using this
 subst hcn
 refine (YW h1.out c 0 ⟨#[]⟩ Z0).mono ?_
 rintro e w4 ⟨rfl, hB4, o4, vs4, h4⟩
 go_wp2_with fail
 exact Z1j
theorem one_lit (hA : Jn) (hL : LitC lit) (h : Mx w base g prims o vs m) (hb : m.out.length < 1099511627700) (s : ByteArray) (n0 : s.toList ≠ ([59] : List UInt8)) (n1 : s.toList ≠ ([101, 120, 105, 116] : List UInt8)) (n2 : s.toList ≠ ([91, 39, 93] : List UInt8)) (n3 : s.toList ≠ ([39] : List UInt8)) (n4 : s.toList ≠ ([116, 111] : List UInt8)) (ht : YS s = false) (hm : YJ s = 0) (hsz : s.size ≤ maxLen) (hf : Vz prims m s = none) {v : Int} (hl : lit s = some v) : Calls Try.prog 18 #[.pointer (some ⟨g, 0, none⟩), .string s] w (XT base g prims (.inl (m.add 16 v)) w) := by
 have b0 : (s.toList == ([59] : List UInt8)) = false := beq_eq_false_iff_ne.mpr n0
 have b1 : (s.toList == ([101, 120, 105, 116] : List UInt8)) = false := beq_eq_false_iff_ne.mpr n1
 have b2 : (s.toList == ([91, 39, 93] : List UInt8)) = false := beq_eq_false_iff_ne.mpr n2
 have b3 : (s.toList == ([39] : List UInt8)) = false := beq_eq_false_iff_ne.mpr n3
 have b4 : (s.toList == ([116, 111] : List UInt8)) = false := beq_eq_false_iff_ne.mpr n4
 have hbb := h.st.base_le
 have hX := Aside0.mk h
 have hmk := Aside0.mk hm
 have hac := Aside0.mk (UX hA ht)
 have hlc := Aside0.mk (hL s)
 rw [hl] at hlc
 have hf' := Aside0.mk hf
 clear h hm ht n0 n1 n2 n3 n4 hf hl
 go_enter Try.func18, Try.ntmps18
 go_wp2_with fail
 refine (hac.out w).mono ?_
 rintro e w1 ⟨A, c, rfl, hB1⟩
 have h1 := hX.out.below hB1
 have hB := Below.mono hB1 hbb
 go_wp2_with fail
 refine (Xk _ _).mono ?_
 rintro e w' ⟨rfl, rfl⟩
 rw [hmk.out]
 obtain ⟨v0, A1, c1, b, A7, c7, A8, c8, A9, c9, A10, c10, A11, c11, rfl⟩ := h1.cells
 obtain ⟨n1, D, hn1, hag, b', hb', -, -, hown⟩ := (h1.st.row 2 _ _ rfl rfl : Jg base (m.names ++ prims) w' _ (.map (some b)))
 cases hb'
 have hc2 := h1.st.cell 2 rfl
 have hlk : look (m.names ++ prims) s = none := by rw [Ul]; exact hf'.out
 have ha := hag s
 rw [hlk] at ha
 have hhas : Maps.has D (.string s.data.toList) = false := ha.1
 clear ha hlk hag
 replace h1 := Aside0.mk h1
 go_wp2_with (at_lookup; refine wpList_lookup_own_ok_int _ rfl _ _ 52 rfl 9 3 .i64 (string_keyed Try.underlying9) Try.underlying52 Try.underlying3 (Yei _) b n1 D rfl hown _ _ rfl (key9 hsz) ?_; intro c hat hwc)
 refine (hlc.out _ hsz).mono ?_
 rintro e w2 ⟨⟨z, rfl⟩, hB2⟩
 have hBB := hB.trans (Below.mono hB2 h1.out.st.base_le)
 have h2 := Aside0.mk (h1.out.below hB2)
 simp only [Option.getD_some, Option.isSome_some]
 go_wp2_with fail
 refine (YW h2.out 16 v ⟨#[]⟩ Z0).mono ?_
 rintro e w4 ⟨rfl, hB4, o4, vs4, h4⟩
 go_wp2_with fail
 exact bodyPost_ret (v := .int .i64 0) Zj rfl ⟨hBB.trans hB4, rfl, o4, vs4, h4⟩
theorem one_none (hA : Jn) (hL : LitC lit) (h : Mx w base g prims o vs m) (hb : m.out.length < 1099511627700) (s : ByteArray) (n0 : s.toList ≠ ([59] : List UInt8)) (n1 : s.toList ≠ ([101, 120, 105, 116] : List UInt8)) (n2 : s.toList ≠ ([91, 39, 93] : List UInt8)) (n3 : s.toList ≠ ([39] : List UInt8)) (n4 : s.toList ≠ ([116, 111] : List UInt8)) (ht : YS s = false) (hm : YJ s = 0) (hsz : s.size ≤ maxLen) (hf : Vz prims m s = none) (hl : lit s = none) : Calls Try.prog 18 #[.pointer (some ⟨g, 0, none⟩), .string s] w (XT base g prims (.inr 14) w) := by
 have b0 : (s.toList == ([59] : List UInt8)) = false := beq_eq_false_iff_ne.mpr n0
 have b1 : (s.toList == ([101, 120, 105, 116] : List UInt8)) = false := beq_eq_false_iff_ne.mpr n1
 have b2 : (s.toList == ([91, 39, 93] : List UInt8)) = false := beq_eq_false_iff_ne.mpr n2
 have b3 : (s.toList == ([39] : List UInt8)) = false := beq_eq_false_iff_ne.mpr n3
 have b4 : (s.toList == ([116, 111] : List UInt8)) = false := beq_eq_false_iff_ne.mpr n4
 have hbb := h.st.base_le
 have hX := Aside0.mk h
 have hmk := Aside0.mk hm
 have hac := Aside0.mk (UX hA ht)
 have hlc := Aside0.mk (hL s)
 rw [hl] at hlc
 have hf' := Aside0.mk hf
 clear h hm ht n0 n1 n2 n3 n4 hf hl
 go_enter Try.func18, Try.ntmps18
 go_wp2_with fail
 refine (hac.out w).mono ?_
 rintro e w1 ⟨A, c, rfl, hB1⟩
 have h1 := hX.out.below hB1
 have hB := Below.mono hB1 hbb
 go_wp2_with fail
 refine (Xk _ _).mono ?_
 rintro e w' ⟨rfl, rfl⟩
 rw [hmk.out]
 obtain ⟨v0, A1, c1, b, A7, c7, A8, c8, A9, c9, A10, c10, A11, c11, rfl⟩ := h1.cells
 obtain ⟨n1, D, hn1, hag, b', hb', -, -, hown⟩ := (h1.st.row 2 _ _ rfl rfl : Jg base (m.names ++ prims) w' _ (.map (some b)))
 cases hb'
 have hc2 := h1.st.cell 2 rfl
 have hlk : look (m.names ++ prims) s = none := by rw [Ul]; exact hf'.out
 have ha := hag s
 rw [hlk] at ha
 have hhas : Maps.has D (.string s.data.toList) = false := ha.1
 clear ha hlk hag
 replace h1 := Aside0.mk h1
 go_wp2_with (at_lookup; refine wpList_lookup_own_ok_int _ rfl _ _ 52 rfl 9 3 .i64 (string_keyed Try.underlying9) Try.underlying52 Try.underlying3 (Yei _) b n1 D rfl hown _ _ rfl (key9 hsz) ?_; intro c hat hwc)
 refine (hlc.out _ hsz).mono ?_
 rintro e w2 ⟨⟨z, rfl⟩, hB2⟩
 have hBB := hB.trans (Below.mono hB2 h1.out.st.base_le)
 simp only [Option.getD_none, Option.isSome_none]
 go_wp2_with fail
 exact bodyPost_ret (v := .int .i64 14) Zj rfl ⟨hBB, rfl⟩
end
end Go.Proofs.Ytehmhgpogpbjiaa.Fcc
namespace Go.Proofs.Ytehmhgpogpbjiaa.Fcc
open Go.RowKit Go.Proofs.YtehmhgpogpbjiaaW.PrintWords Go.Proofs.YtehmhgpogpbjiaaW.PrintLast Go.Proofs.YtehmhgpogpbjiaaW.PrintMore Go.Proofs.Ytehmhgpogpbjiaa.PFccTokens
structure Ok (prims : List (ByteArray × Int)) (m : Mk) : Prop where
 wt : wt m ≤ 1000000000000
 nl : (m.names ++ prims).length < 1000000000000
 inp : ∀ t ∈ m.inp, t.f1.size ≤ maxLen
 next : 0 ≤ m.next ∧ m.next ≤ 4096
 name : m.name.size ≤ maxLen
 code : 0 ≤ m.code ∧ m.code ≤ 4095
 codes : ∀ p ∈ m.names ++ prims, 0 ≤ p.2 ∧ p.2 ≤ 4095
section
variable {w : World} {base g : Nat} {prims : List (ByteArray × Int)} {o : Nat → Nat} {vs : List Value} {m : Mk} {named : ByteArray → Bool} {lit : ByteArray → Option Int}
theorem Ok.out (hk : Ok prims m) : m.out.length ≤ 1000000000000 := (Xf hk.wt).1
theorem Ok.find (hk : Ok prims m) {s : ByteArray} {n : Int} (h : Vz prims m s = some n) : 0 ≤ n ∧ n ≤ 4095 := by
 rw [← Ul] at h
 unfold look at h
 obtain ⟨p, hp, rfl⟩ := Option.map_eq_some_iff.1 h
 exact hk.codes p (List.mem_of_find?_eq_some hp)
theorem YaI (code : Int) (h : Mx w base g prims o vs m) (hk : Ok prims m) : Calls Try.prog 37 #[.pointer (some ⟨g, 0, none⟩), .int .i64 code] w (XT base g prims (XE prims m code) w) := by
 have ho := hk.out
 cases hm : m.inp with
 | nil =>
   have hr : XE prims m code = .inr 15 := by unfold XE XY; rw [hm]
   rw [hr]
   exact YcI code h (.inl hm)
 | cons t r =>
   have hz := hk.inp t Z1y
   by_cases ht : t.f0 = 1
   ·have hw : XY m = .inl (t.f1, { m with inp := r }) := by unfold XY; rw [hm]; simp only [ht, if_true]
    cases hf : Vz prims m t.f1 with
    | none =>
      have hr : XE prims m code = .inr 14 := by
       unfold XE
       rw [hw]
       show (match Vz prims m t.f1 with | none => _ | some n => _) = _
       rw [hf]
      rw [hr]
      exact YeN code h hm ht hf hz
    | some n =>
      have hr : XE prims m code = .inl ({ m with inp := r }.add code n) := by
       unfold XE
       rw [hw]
       show (match Vz prims m t.f1 with | none => _ | some n => _) = _
       rw [hf]
      rw [hr]
      have := hk.find hf
      exact Ydu code h Z0 hm ht hf Z0 hz
   ·have hr : XE prims m code = .inr 15 := by unfold XE XY; rw [hm]; simp only [ht, if_false]
    rw [hr]
    exact YcI code h (.inr ⟨t, r, hm, ht⟩)
theorem Ye8 (hN : UZ named) (h : Mx w base g prims o vs m) (hk : Ok prims m) (s : ByteArray) : Calls Try.prog 38 #[.pointer (some ⟨g, 0, none⟩), .string s] w (XT base g prims (YV named m s) w) := by
 have ho := hk.out
 by_cases h1 : s.toList = ([105, 110, 115, 116, 97, 110, 99, 101] : List UInt8)
 ·have hr : YV named m s = (match (match XY m with
   | .inl (s, m1) => if s.toList = ([118, 97, 108, 117, 101] : List UInt8) then .inl (m1.add 192) else .inr 15
   | .inr _ => .inr 15 : Res) with
  | .inr e => .inr e
  | .inl m1 => Xr named s m1) := by unfold YV; rw [if_pos h1]; rfl
  rw [hr]
  obtain rfl := Xd h1
  exact def_inst hN h Z0 hk.nl hk.inp hk.next.1
 ·have hr : YV named m s = Xr named s m := by unfold YV; rw [if_neg h1]; rfl
  rw [hr]
  by_cases h2 : s.toList = ([58] : List UInt8)
  ·obtain rfl := Xd h2
   exact def_colon hN h Z0 hk.nl hk.inp hk.next.1
  ·exact def_other hN h s h2 h1 Z0 hk.nl hk.inp hk.next.1
theorem Yar {s : ByteArray} (h : YS s = true) : YJ s = 0 ∧ s.toList ≠ ([39] : List UInt8) ∧ s.toList ≠ ([59] : List UInt8) ∧ s.toList ≠ ([101, 120, 105, 116] : List UInt8) ∧ s.toList ≠ ([91, 39, 93] : List UInt8) := by
 unfold YS at h
 unfold YJ
 generalize s.toList = l at h ⊢
 revert h
 simp only [decide_eq_true_eq, List.mem_cons, List.not_mem_nil, or_false]
 intro h
 rcases h with rfl | rfl | rfl | rfl | rfl | rfl | rfl | rfl | rfl | rfl | rfl | rfl | rfl | rfl | rfl | rfl | rfl <;> exact ⟨rfl, Z1, Z1, Z1, Z1⟩
theorem Ybh (h : Mx w base g prims o vs m) (hk : Ok prims m) (s : ByteArray) (hi : XJ s = true) : Calls Try.prog 36 #[.pointer (some ⟨g, 0, none⟩), .string s] w (XT base g prims (YF prims m s) w) := by
 have ho := hk.out
 unfold YF
 by_cases h0 : s.toList = ([59] : List UInt8)
 ·rw [if_pos h0]
  obtain rfl := Xd h0
  exact Yez h hk.wt hk.name hk.nl ⟨(by have := hk.code; omega), (by have := hk.code; omega)⟩
 ·rw [if_neg h0]
  by_cases h1 : s.toList = ([101, 120, 105, 116] : List UInt8)
  ·rw [if_pos h1]
   obtain rfl := Xd h1
   exact Ye2 h Z0
  ·rw [if_neg h1]
   by_cases h2 : s.toList = ([91, 39, 93] : List UInt8)
   ·rw [if_pos h2]
    obtain rfl := Xd h2
    exact Yel (YaI 17 h hk)
   ·rw [if_neg h2]
    refine Yc7 h hk.wt s ?_
    unfold XJ at hi
    simpa [h0, h1, h2] using hi
theorem one_any (hA : Jn) (hL : LitC lit) (hN : UZ named) (h : Mx w base g prims o vs m) (hk : Ok prims m) (s : ByteArray) (hsz : s.size ≤ maxLen) : Calls Try.prog 18 #[.pointer (some ⟨g, 0, none⟩), .string s] w (XT base g prims (oneP named prims lit m s) w) := by
 have ho := hk.out
 have hW := fun hi => Ybh h hk s hi
 unfold oneP
 by_cases h0 : s.toList = ([59] : List UInt8)
 ·have hi : XJ s = true := by unfold XJ; simp [h0]
  have hx : Xm s = false := by obtain rfl := Xd h0; kernel_rfl
  have hW := hW hi
  rw [hi, hx]
  obtain rfl := Xd h0
  cases hop : m.opn with
  | false => exact YbU h hop
  | true => exact YbV h hop hW
 by_cases h1 : s.toList = ([101, 120, 105, 116] : List UInt8)
 ·have hi : XJ s = true := by unfold XJ; simp [h1]
  have hx : Xm s = false := by obtain rfl := Xd h1; kernel_rfl
  have hW := hW hi
  rw [hi, hx]
  obtain rfl := Xd h1
  cases hop : m.opn with
  | false => exact YbW h hop
  | true => exact YbX h hop hW
 by_cases h2 : s.toList = ([91, 39, 93] : List UInt8)
 ·have hi : XJ s = true := by unfold XJ; simp [h2]
  have hx : Xm s = false := by obtain rfl := Xd h2; kernel_rfl
  have hW := hW hi
  rw [hi, hx]
  obtain rfl := Xd h2
  cases hop : m.opn with
  | false => exact YbS h hop
  | true => exact YbT h hop hW
 cases ht : YS s with
 | true =>
   have hi : XJ s = true := by unfold XJ; rw [ht]; simp
   obtain ⟨hm, h3, -⟩ := Yar ht
   have hx : Xm s = false := by unfold Xm; simp [h3, hm]
   rw [hi, hx]
   cases hop : m.opn with
   | false => exact Ybb hA h hop s h0 h1 h2 h3 ht hm
   | true => exact Ybc hA h hop s h0 h1 h2 h3 ht hm (fun W hB => (Ybh (h.below hB) hk s hi).mono fun e w' hh => hh)
 | false =>
   have hi : XJ s = false := by unfold XJ; rw [ht]; simp [h0, h1, h2]
   by_cases h3 : s.toList = ([39] : List UInt8)
   ·have hx : Xm s = true := by unfold Xm; simp [h3]
    rw [hi, hx]
    obtain rfl := Xd h3
    cases hop : m.opn with
    | true => exact Ybe hA h hop
    | false =>
      simp only [h3, if_true, Bool.false_and, Bool.true_and, Bool.or_self, if_false, Bool.false_eq_true]
      exact Ybd hA h hop (fun W hB => YaI 17 (h.below hB) hk)
   by_cases hm : YJ s = 0
   ·have hx : Xm s = false := by unfold Xm; simp [h3, hm]
    rw [hi, hx]
    simp only [h3, if_false, Bool.false_and, Bool.or_self, Bool.false_eq_true]
    by_cases h4 : s.toList = ([116, 111] : List UInt8)
    ·rw [if_pos h4]
     obtain rfl := Xd h4
     exact one_to hA h (fun W hB => YaI 195 (h.below hB) hk)
    ·rw [if_neg h4]
     cases hf : Vz prims m s with
     | some n => exact one_name hA hL h Z0 s h0 h1 h2 h3 h4 ht hm hsz hf
     | none =>
       cases hl : lit s with
       | some v => exact one_lit hA hL h Z0 s h0 h1 h2 h3 h4 ht hm hsz hf hl
       | none => exact one_none hA hL h Z0 s h0 h1 h2 h3 h4 ht hm hsz hf hl
   ·have hx : Xm s = true := by unfold Xm; simp [hm]
    rw [hi, hx]
    cases hop : m.opn with
    | true => exact YcG hA h hop s h0 h1 h2 h3 ht hm
    | false =>
      simp only [h3, if_true, Bool.false_and, Bool.true_and, Bool.or_self, if_false, Bool.false_eq_true]
      exact YcF hA h hop s h0 h1 h2 h3 ht hm (fun W hB => Ye8 hN (h.below hB) hk s)
end
end Go.Proofs.Ytehmhgpogpbjiaa.Fcc
