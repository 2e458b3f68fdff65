import Derived.Test.Ytehmhgpogpbjiaafu27
set_option linter.unusedVariables false
set_option linter.unusedSimpArgs false
set_option maxRecDepth 100000
set_option maxHeartbeats 8000000
namespace Go.Proofs.Ytehmhgpogpbjiaa.Fcc
open Go.RowKit Go.Proofs.YtehmhgpogpbjiaaW.PrintWords Go.Proofs.YtehmhgpogpbjiaaW.PrintLast Go.Proofs.YtehmhgpogpbjiaaW.PrintMore Go.Proofs.Ytehmhgpogpbjiaa.PFccTokens
section
variable {w : World} {base gk gf : Nat} {L : List S59 × Option (Nat × Array Value × Nat)} {o : Nat → Nat} {vk vf : List Value} {m : Mk} {s : ByteArray} {W0 L0 : Nat}
theorem Rx.setK {T : Tx} {i : Nat} {v' : Value} {P' : Fld} (h : Rx w base gk gf T o vk vf m) (m' : Mk) (hl : Loc base P') (hn : P' w (fun k => o k = 0 + 1 + i) v') (hm : (rF base T m).set i P' = rF base T m') (hf : fF base m = fF base m') (hi : m.inp = m'.inp) :
 Rx (w.setCell ⟨gk, i, none⟩ v') base gk gf T o (vk.set i v') vf m' := by
 have hk := h.k.put i hl hn
 have h2 := St.besideP (g := gk) (u := v') (i := i) h.k h.f (.inr Z1)
 rw [hm] at hk
 rw [hf] at h2
 exact ⟨hk, h2, Z1W, h.lf, Z15, Z17⟩
structure OutW (s : ByteArray) : Prop where
 t58 : (s.toList == ([58] : List UInt8)) = false
 t39 : (s.toList == ([39] : List UInt8)) = false
 t59 : (s.toList == ([59] : List UInt8)) = false
 tex : (s.toList == ([101, 120, 105, 116] : List UInt8)) = false
 tbr : (s.toList == ([91, 39, 93] : List UInt8)) = false
 tto : (s.toList == ([116, 111] : List UInt8)) = false
 tab : YS s = false
theorem YbC (h : Rx w base gk gf (bare L) o vk vf m) (ho : m.opn = true) : Calls Try.prog 46 #[.pointer (some ⟨gk, 0, none⟩), .pointer (some ⟨gf, 0, none⟩), .string ⟨#[58]⟩] w (Vk base gk gf (bare L) m (some (.inr 13)) w) := by
 have hA := Aside0.mk (fun W => VJ (s := ⟨#[58]⟩) Z2 W)
 have hX := Aside0.mk h
 have hgb := h.k.hb
 clear h
 go_enter Try.func46, Try.ntmps46
 go_wp2_with fail
 refine (hA.out _).mono ?_
 rintro e w1 ⟨A, c, rfl, hB1⟩
 have h2 := hX.out.below hB1
 have hB3 := Aside0.mk (Below.mono hB1 hX.out.k.base_le)
 clear hB1
 obtain ⟨A0, c0, A2, c2, A3, c3, A4, c4, u9, u10, u11, u12, u13, u14, u15, rfl⟩ := h2.kc
 have k6 := h2.k.cell 6 rfl
 rw [ho] at k6
 clear h2
 go_wp2_with fail
 exact ZW
theorem Yco (h : Rx w base gk gf (bare L) o vk vf m) (ho : m.opn = true) : Calls Try.prog 46 #[.pointer (some ⟨gk, 0, none⟩), .pointer (some ⟨gf, 0, none⟩), .string ⟨#[39]⟩] w (Vk base gk gf (bare L) m (some (.inr 13)) w) := by
 have hA := Aside0.mk (fun W => VJ (s := ⟨#[39]⟩) Z2 W)
 have hX := Aside0.mk h
 have hgb := h.k.hb
 clear h
 go_enter Try.func46, Try.ntmps46
 go_wp2_with fail
 refine (hA.out _).mono ?_
 rintro e w1 ⟨A, c, rfl, hB1⟩
 have h2 := hX.out.below hB1
 have hB3 := Aside0.mk (Below.mono hB1 hX.out.k.base_le)
 clear hB1
 obtain ⟨A0, c0, A2, c2, A3, c3, A4, c4, u9, u10, u11, u12, u13, u14, u15, rfl⟩ := h2.kc
 have k6 := h2.k.cell 6 rfl
 rw [ho] at k6
 clear h2
 go_wp2_with fail
 exact ZW
theorem Yex (h : Rx w base gk gf (bare L) o vk vf m) (ho : m.opn = true) (hs : OutW s) (hm : YJ s ≠ 0) : Calls Try.prog 46 #[.pointer (some ⟨gk, 0, none⟩), .pointer (some ⟨gf, 0, none⟩), .string s] w (Vk base gk gf (bare L) m (some (.inr 13)) w) := by
 have hm1 : (YJ s == 0) = false := beq_eq_false_iff_ne.2 hm
 have hm2 : (YJ s != 0) = true := bne_iff_ne.2 hm
 have hA := Aside0.mk (fun W => VJ hs.tab W)
 have hY := Aside0.mk (fun W => Ve s (beq_eq_false_iff_ne.1 hs.t58) W)
 obtain ⟨t58, t39, t59, tex, tbr, tto, -⟩ := hs
 have hX := Aside0.mk h
 have hgb := h.k.hb
 clear h
 go_enter Try.func46, Try.ntmps46
 go_wp2_with fail
 refine (hA.out _).mono ?_
 rintro e w1 ⟨A, c, rfl, hB1⟩
 go_wp2_with fail
 refine (hY.out _).mono ?_
 rintro e w2 ⟨rfl, hB2⟩
 have h2 := (hX.out.below hB1).below hB2
 have hB3 := Aside0.mk (Below.mono (hB1.trans (hB2.mono hB1.size)) hX.out.k.base_le)
 clear hB1 hB2
 obtain ⟨A0, c0, A2, c2, A3, c3, A4, c4, u9, u10, u11, u12, u13, u14, u15, rfl⟩ := h2.kc
 have k6 := h2.k.cell 6 rfl
 rw [ho] at k6
 clear h2
 go_wp2_with fail
 exact ZW
theorem Ycp (h : Rx w base gk gf (bare L) o vk vf m) (ho : m.opn = false) : Calls Try.prog 46 #[.pointer (some ⟨gk, 0, none⟩), .pointer (some ⟨gf, 0, none⟩), .string ⟨#[59]⟩] w (Vk base gk gf (bare L) m (some (.inr 13)) w) := by
 have hA := Aside0.mk (fun W => VJ (s := ⟨#[59]⟩) Z2 W)
 have hY := Aside0.mk (fun W => Ve ⟨#[59]⟩ ZD W)
 rw [show YJ ⟨#[59]⟩ = 0 by kernel_rfl] at hY
 have hX := Aside0.mk h
 have hgb := h.k.hb
 clear h
 go_enter Try.func46, Try.ntmps46
 go_wp2_with fail
 refine (hA.out _).mono ?_
 rintro e w1 ⟨A, c, rfl, hB1⟩
 go_wp2_with fail
 refine (hY.out _).mono ?_
 rintro e w2 ⟨rfl, hB2⟩
 have h2 := (hX.out.below hB1).below hB2
 have hB3 := Aside0.mk (Below.mono (hB1.trans (hB2.mono hB1.size)) hX.out.k.base_le)
 clear hB1 hB2
 obtain ⟨A0, c0, A2, c2, A3, c3, A4, c4, u9, u10, u11, u12, u13, u14, u15, rfl⟩ := h2.kc
 have k6 := h2.k.cell 6 rfl
 rw [ho] at k6
 clear h2
 go_wp2_with fail
 exact ZW
theorem Ycr (h : Rx w base gk gf (bare L) o vk vf m) (ho : m.opn = false) : Calls Try.prog 46 #[.pointer (some ⟨gk, 0, none⟩), .pointer (some ⟨gf, 0, none⟩), .string ⟨#[101, 120, 105, 116]⟩] w (Vk base gk gf (bare L) m (some (.inr 13)) w) := by
 have hA := Aside0.mk (fun W => VJ (s := ⟨#[101, 120, 105, 116]⟩) Z2 W)
 have hY := Aside0.mk (fun W => Ve ⟨#[101, 120, 105, 116]⟩ ZD W)
 rw [show YJ ⟨#[101, 120, 105, 116]⟩ = 0 by kernel_rfl] at hY
 have hX := Aside0.mk h
 have hgb := h.k.hb
 clear h
 go_enter Try.func46, Try.ntmps46
 go_wp2_with fail
 refine (hA.out _).mono ?_
 rintro e w1 ⟨A, c, rfl, hB1⟩
 go_wp2_with fail
 refine (hY.out _).mono ?_
 rintro e w2 ⟨rfl, hB2⟩
 have h2 := (hX.out.below hB1).below hB2
 have hB3 := Aside0.mk (Below.mono (hB1.trans (hB2.mono hB1.size)) hX.out.k.base_le)
 clear hB1 hB2
 obtain ⟨A0, c0, A2, c2, A3, c3, A4, c4, u9, u10, u11, u12, u13, u14, u15, rfl⟩ := h2.kc
 have k6 := h2.k.cell 6 rfl
 rw [ho] at k6
 clear h2
 go_wp2_with fail
 exact ZW
theorem YbD (h : Rx w base gk gf (bare L) o vk vf m) (ho : m.opn = false) : Calls Try.prog 46 #[.pointer (some ⟨gk, 0, none⟩), .pointer (some ⟨gf, 0, none⟩), .string ⟨#[91, 39, 93]⟩] w (Vk base gk gf (bare L) m (some (.inr 13)) w) := by
 have hA := Aside0.mk (fun W => VJ (s := ⟨#[91, 39, 93]⟩) Z2 W)
 have hY := Aside0.mk (fun W => Ve ⟨#[91, 39, 93]⟩ ZD W)
 rw [show YJ ⟨#[91, 39, 93]⟩ = 0 by kernel_rfl] at hY
 have hX := Aside0.mk h
 have hgb := h.k.hb
 clear h
 go_enter Try.func46, Try.ntmps46
 go_wp2_with fail
 refine (hA.out _).mono ?_
 rintro e w1 ⟨A, c, rfl, hB1⟩
 go_wp2_with fail
 refine (hY.out _).mono ?_
 rintro e w2 ⟨rfl, hB2⟩
 have h2 := (hX.out.below hB1).below hB2
 have hB3 := Aside0.mk (Below.mono (hB1.trans (hB2.mono hB1.size)) hX.out.k.base_le)
 clear hB1 hB2
 obtain ⟨A0, c0, A2, c2, A3, c3, A4, c4, u9, u10, u11, u12, u13, u14, u15, rfl⟩ := h2.kc
 have k6 := h2.k.cell 6 rfl
 rw [ho] at k6
 clear h2
 go_wp2_with fail
 exact ZW
theorem sp_none (h : Rx w base gk gf (bare L) o vk vf m) (hs : OutW s) (hm : YJ s = 0) : Calls Try.prog 46 #[.pointer (some ⟨gk, 0, none⟩), .pointer (some ⟨gf, 0, none⟩), .string s] w (Vk base gk gf (bare L) m none w) := by
 have hm1 : (YJ s == 0) = true := beq_iff_eq.2 hm
 have hm2 : (YJ s != 0) = false := by simp [hm]
 have hA := Aside0.mk (fun W => VJ hs.tab W)
 have hY := Aside0.mk (fun W => Ve s (beq_eq_false_iff_ne.1 hs.t58) W)
 obtain ⟨t58, t39, t59, tex, tbr, tto, -⟩ := hs
 have hX := Aside0.mk h
 have hgb := h.k.hb
 clear h
 go_enter Try.func46, Try.ntmps46
 go_wp2_with fail
 refine (hA.out _).mono ?_
 rintro e w1 ⟨A, c, rfl, hB1⟩
 go_wp2_with fail
 refine (hY.out _).mono ?_
 rintro e w2 ⟨rfl, hB2⟩
 have h2 := (hX.out.below hB1).below hB2
 have hB3 := Aside0.mk (Below.mono (hB1.trans (hB2.mono hB1.size)) hX.out.k.base_le)
 clear hB1 hB2
 obtain ⟨A0, c0, A2, c2, A3, c3, A4, c4, u9, u10, u11, u12, u13, u14, u15, rfl⟩ := h2.kc
 have k6 := h2.k.cell 6 rfl
 replace h2 := Aside0.mk h2
 go_wp2_with fail
 exact bodyPost_ret (v := .tuple #[.int .i64 0, .bool false]) Zg rfl ⟨hB3.out, rfl, _, _, _, h2.out⟩
theorem Ycs (h : Rx w base gk gf (bare L) o vk vf m) (ho : m.opn = true) (hl : m.out.length ≤ 1000000000) : Calls Try.prog 46 #[.pointer (some ⟨gk, 0, none⟩), .pointer (some ⟨gf, 0, none⟩), .string ⟨#[101, 120, 105, 116]⟩] w (Vk base gk gf (bare L) m (some (.inl (m.add 51))) w) := by
 have hA := Aside0.mk (fun W => VJ (s := ⟨#[101, 120, 105, 116]⟩) Z2 W)
 have hY := Aside0.mk (fun W => Ve ⟨#[101, 120, 105, 116]⟩ ZD W)
 rw [show YJ ⟨#[101, 120, 105, 116]⟩ = 0 by kernel_rfl] at hY
 have hX := Aside0.mk h
 have hgb := h.k.hb
 clear h
 go_enter Try.func46, Try.ntmps46
 go_wp2_with fail
 refine (hA.out _).mono ?_
 rintro e w1 ⟨A, c, rfl, hB1⟩
 go_wp2_with fail
 refine (hY.out _).mono ?_
 rintro e w2 ⟨rfl, hB2⟩
 have h2 := (hX.out.below hB1).below hB2
 have hB3 := Aside0.mk (Below.mono (hB1.trans (hB2.mono hB1.size)) hX.out.k.base_le)
 clear hB1 hB2
 obtain ⟨A0, c0, A2, c2, A3, c3, A4, c4, u9, u10, u11, u12, u13, u14, u15, rfl⟩ := h2.kc
 have k6 := h2.k.cell 6 rfl
 rw [ho] at k6
 replace h2 := Aside0.mk h2
 go_wp2_with fail
 refine (Xl h2.out 51 0 ⟨#[]⟩ Z0).mono ?_
 rintro e w4 ⟨rfl, hB4, o4, vk4, vf4, h4⟩
 replace h4 := Aside0.mk h4
 have hB5 := Aside0.mk (hB3.out.trans hB4)
 clear hB4
 go_wp2_with fail
 exact bodyPost_ret (v := .tuple #[.int .i64 0, .bool true]) Zg rfl ⟨hB5.out, rfl, _, _, _, h4.out⟩
theorem Yaj {c : Int} (h : XY m = .inr c) : c = 15 := by
 unfold XY at h
 cases hm : m.inp with
 | nil => rw [hm] at h; cases h; rfl
 | cons t r =>
   rw [hm] at h
   dsimp only at h
   split at h
   ·cases h
   ·cases h; rfl
theorem sp_tick (h : Rx w base gk gf (bare L) o vk vf m) (ho : m.opn = false) (hI : Inv PL W0 L0 m) (hW : W0 ≤ 800000000) (hL : L0 ≤ 1000000000) : Calls Try.prog 46 #[.pointer (some ⟨gk, 0, none⟩), .pointer (some ⟨gf, 0, none⟩), .string ⟨#[39]⟩] w (Vk base gk gf (bare L) m (some (XE PL m 17)) w) := by
 have hn := fun (W : World) (o1 : Nat → Nat) (vk1 vf1 : List Value) (h1 : Rx W base gk gf (bare L) o1 vk1 vf1 m) => UM h1
 replace hn := Aside0.mk hn
 have hI' := Aside0.mk hI
 clear hI
 have hA := Aside0.mk (fun W => VJ (s := ⟨#[39]⟩) Z2 W)
 have hX := Aside0.mk h
 have hgb := h.k.hb
 clear h
 go_enter Try.func46, Try.ntmps46
 go_wp2_with fail
 refine (hA.out _).mono ?_
 rintro e w1 ⟨A, c, rfl, hB1⟩
 have h2 := hX.out.below hB1
 have hB3 := Aside0.mk (Below.mono hB1 hX.out.k.base_le)
 clear hB1
 obtain ⟨A0, c0, A2, c2, A3, c3, A4, c4, u9, u10, u11, u12, u13, u14, u15, rfl⟩ := h2.kc
 have k6 := h2.k.cell 6 rfl
 rw [ho] at k6
 replace h2 := Aside0.mk h2
 go_wp2_with fail
 refine (hn.out _ _ _ _ h2.out).mono ?_
 rintro e w4 ⟨hB4, hN⟩
 have hB5 := Aside0.mk (hB3.out.trans hB4)
 clear hB4 hn k6
 cases hq : XY m with
 | inr c =>
   rw [hq] at hN
   obtain ⟨s1, rfl⟩ := hN
   have hc : c = 15 := Yaj hq
   subst hc
   have hres := Aside0.mk (show XE PL m 17 = .inr 15 by unfold XE; rw [hq])
   clear hq
   go_wp2_with fail
   exact Z2c
 | inl p =>
   obtain ⟨s1, m1⟩ := p
   rw [hq] at hN
   obtain ⟨rfl, o5, vk5, vf5, h5⟩ := hN
   have hi1 := Uo hI'.out hq
   have hw1 := Xf hi1.1.wt
   have hnl := hi1.1.nl
   have hfr : ∀ n, Vz PL m1 s1 = some n → 0 ≤ n ∧ n ≤ 4095 := fun n hf => Jd hi1.1 hf
   have hres := Aside0.mk (show XE PL m 17 = (match Vz PL m1 s1 with | none => .inr 14 | some n => .inl (m1.add 17 n)) by unfold XE; rw [hq]; rfl)
   replace hfr := Aside0.mk hfr
   clear hq hi1
   replace h5 := Aside0.mk h5
   go_wp2_with fail
   refine (UA h5.out Z0 s1).mono ?_
   rintro e w6 ⟨c, b, rfl, hf, hB6⟩
   have h6 := Aside0.mk (h5.out.below hB6)
   have hB7 := Aside0.mk (hB5.out.trans (Below.mono hB6 h5.out.k.base_le))
   clear hB6
   cases b with
   | false =>
     have hf2 : Vz PL m1 s1 = none := hf
     rw [hf2] at hres
     clear hf hf2
     go_wp2_with fail
     exact Z2d
   | true =>
     have hf2 : Vz PL m1 s1 = some c := hf
     have hcr := hfr.out c hf2
     rw [hf2] at hres
     clear hf hf2
     go_wp2_with fail
     refine (Xl h6.out 17 c ⟨#[]⟩ Z0).mono ?_
     rintro e w8 ⟨rfl, hB8, o8, vk8, vf8, h8⟩
     replace h8 := Aside0.mk h8
     have hB9 := Aside0.mk (hB7.out.trans hB8)
     clear hB8
     go_wp2_with fail
     exact Z2e
theorem sp_btick (h : Rx w base gk gf (bare L) o vk vf m) (ho : m.opn = true) (hI : Inv PL W0 L0 m) (hW : W0 ≤ 800000000) (hL : L0 ≤ 1000000000) : Calls Try.prog 46 #[.pointer (some ⟨gk, 0, none⟩), .pointer (some ⟨gf, 0, none⟩), .string ⟨#[91, 39, 93]⟩] w (Vk base gk gf (bare L) m (some (XE PL m 17)) w) := by
 have hn := fun (W : World) (o1 : Nat → Nat) (vk1 vf1 : List Value) (h1 : Rx W base gk gf (bare L) o1 vk1 vf1 m) => UM h1
 replace hn := Aside0.mk hn
 have hI' := Aside0.mk hI
 clear hI
 have hA := Aside0.mk (fun W => VJ (s := ⟨#[91, 39, 93]⟩) Z2 W)
 have hY := Aside0.mk (fun W => Ve ⟨#[91, 39, 93]⟩ ZD W)
 rw [show YJ ⟨#[91, 39, 93]⟩ = 0 by kernel_rfl] at hY
 have hX := Aside0.mk h
 have hgb := h.k.hb
 clear h
 go_enter Try.func46, Try.ntmps46
 go_wp2_with fail
 refine (hA.out _).mono ?_
 rintro e w1 ⟨A, c, rfl, hB1⟩
 go_wp2_with fail
 refine (hY.out _).mono ?_
 rintro e w2 ⟨rfl, hB2⟩
 have h2 := (hX.out.below hB1).below hB2
 have hB3 := Aside0.mk (Below.mono (hB1.trans (hB2.mono hB1.size)) hX.out.k.base_le)
 clear hB1 hB2
 obtain ⟨A0, c0, A2, c2, A3, c3, A4, c4, u9, u10, u11, u12, u13, u14, u15, rfl⟩ := h2.kc
 have k6 := h2.k.cell 6 rfl
 rw [ho] at k6
 replace h2 := Aside0.mk h2
 go_wp2_with fail
 refine (hn.out _ _ _ _ h2.out).mono ?_
 rintro e w4 ⟨hB4, hN⟩
 have hB5 := Aside0.mk (hB3.out.trans hB4)
 clear hB4 hn k6
 cases hq : XY m with
 | inr c =>
   rw [hq] at hN
   obtain ⟨s1, rfl⟩ := hN
   have hc : c = 15 := Yaj hq
   subst hc
   have hres := Aside0.mk (show XE PL m 17 = .inr 15 by unfold XE; rw [hq])
   clear hq
   go_wp2_with fail
   exact Z2c
 | inl p =>
   obtain ⟨s1, m1⟩ := p
   rw [hq] at hN
   obtain ⟨rfl, o5, vk5, vf5, h5⟩ := hN
   have hi1 := Uo hI'.out hq
   have hw1 := Xf hi1.1.wt
   have hnl := hi1.1.nl
   have hfr : ∀ n, Vz PL m1 s1 = some n → 0 ≤ n ∧ n ≤ 4095 := fun n hf => Jd hi1.1 hf
   have hres := Aside0.mk (show XE PL m 17 = (match Vz PL m1 s1 with | none => .inr 14 | some n => .inl (m1.add 17 n)) by unfold XE; rw [hq]; rfl)
   replace hfr := Aside0.mk hfr
   clear hq hi1
   replace h5 := Aside0.mk h5
   go_wp2_with fail
   refine (UA h5.out Z0 s1).mono ?_
   rintro e w6 ⟨c, b, rfl, hf, hB6⟩
   have h6 := Aside0.mk (h5.out.below hB6)
   have hB7 := Aside0.mk (hB5.out.trans (Below.mono hB6 h5.out.k.base_le))
   clear hB6
   cases b with
   | false =>
     have hf2 : Vz PL m1 s1 = none := hf
     rw [hf2] at hres
     clear hf hf2
     go_wp2_with fail
     exact Z2d
   | true =>
     have hf2 : Vz PL m1 s1 = some c := hf
     have hcr := hfr.out c hf2
     rw [hf2] at hres
     clear hf hf2
     go_wp2_with fail
     refine (Xl h6.out 17 c ⟨#[]⟩ Z0).mono ?_
     rintro e w8 ⟨rfl, hB8, o8, vk8, vf8, h8⟩
     replace h8 := Aside0.mk h8
     have hB9 := Aside0.mk (hB7.out.trans hB8)
     clear hB8
     go_wp2_with fail
     exact Z2e
theorem sp_to (h : Rx w base gk gf (bare L) o vk vf m) (hI : Inv PL W0 L0 m) (hW : W0 ≤ 800000000) (hL : L0 ≤ 1000000000) : Calls Try.prog 46 #[.pointer (some ⟨gk, 0, none⟩), .pointer (some ⟨gf, 0, none⟩), .string ⟨#[116, 111]⟩] w (Vk base gk gf (bare L) m (some (XE PL m 195)) w) := by
 have hn := fun (W : World) (o1 : Nat → Nat) (vk1 vf1 : List Value) (h1 : Rx W base gk gf (bare L) o1 vk1 vf1 m) => UM h1
 replace hn := Aside0.mk hn
 have hI' := Aside0.mk hI
 clear hI
 have hA := Aside0.mk (fun W => VJ (s := ⟨#[116, 111]⟩) Z2 W)
 have hY := Aside0.mk (fun W => Ve ⟨#[116, 111]⟩ ZD W)
 rw [show YJ ⟨#[116, 111]⟩ = 0 by kernel_rfl] at hY
 have hX := Aside0.mk h
 have hgb := h.k.hb
 clear h
 go_enter Try.func46, Try.ntmps46
 go_wp2_with fail
 refine (hA.out _).mono ?_
 rintro e w1 ⟨A, c, rfl, hB1⟩
 go_wp2_with fail
 refine (hY.out _).mono ?_
 rintro e w2 ⟨rfl, hB2⟩
 have h2 := (hX.out.below hB1).below hB2
 have hB3 := Aside0.mk (Below.mono (hB1.trans (hB2.mono hB1.size)) hX.out.k.base_le)
 clear hB1 hB2
 obtain ⟨A0, c0, A2, c2, A3, c3, A4, c4, u9, u10, u11, u12, u13, u14, u15, rfl⟩ := h2.kc
 have k6 := h2.k.cell 6 rfl
 replace h2 := Aside0.mk h2
 go_wp2_with fail
 refine (hn.out _ _ _ _ h2.out).mono ?_
 rintro e w4 ⟨hB4, hN⟩
 have hB5 := Aside0.mk (hB3.out.trans hB4)
 clear hB4 hn k6
 cases hq : XY m with
 | inr c =>
   rw [hq] at hN
   obtain ⟨s1, rfl⟩ := hN
   have hc : c = 15 := Yaj hq
   subst hc
   have hres := Aside0.mk (show XE PL m 195 = .inr 15 by unfold XE; rw [hq])
   clear hq
   go_wp2_with fail
   exact Z2c
 | inl p =>
   obtain ⟨s1, m1⟩ := p
   rw [hq] at hN
   obtain ⟨rfl, o5, vk5, vf5, h5⟩ := hN
   have hi1 := Uo hI'.out hq
   have hw1 := Xf hi1.1.wt
   have hnl := hi1.1.nl
   have hfr : ∀ n, Vz PL m1 s1 = some n → 0 ≤ n ∧ n ≤ 4095 := fun n hf => Jd hi1.1 hf
   have hres := Aside0.mk (show XE PL m 195 = (match Vz PL m1 s1 with | none => .inr 14 | some n => .inl (m1.add 195 n)) by unfold XE; rw [hq]; rfl)
   replace hfr := Aside0.mk hfr
   clear hq hi1
   replace h5 := Aside0.mk h5
   go_wp2_with fail
   refine (UA h5.out Z0 s1).mono ?_
   rintro e w6 ⟨c, b, rfl, hf, hB6⟩
   have h6 := Aside0.mk (h5.out.below hB6)
   have hB7 := Aside0.mk (hB5.out.trans (Below.mono hB6 h5.out.k.base_le))
   clear hB6
   cases b with
   | false =>
     have hf2 : Vz PL m1 s1 = none := hf
     rw [hf2] at hres
     clear hf hf2
     go_wp2_with fail
     exact Z2d
   | true =>
     have hf2 : Vz PL m1 s1 = some c := hf
     have hcr := hfr.out c hf2
     rw [hf2] at hres
     clear hf hf2
     go_wp2_with fail
     refine (Xl h6.out 195 c ⟨#[]⟩ Z0).mono ?_
     rintro e w8 ⟨rfl, hB8, o8, vk8, vf8, h8⟩
     replace h8 := Aside0.mk h8
     have hB9 := Aside0.mk (hB7.out.trans hB8)
     clear hB8
     go_wp2_with fail
     exact Z2e
end
section
variable {w : World} {base gk gf : Nat} {L : List S59 × Option (Nat × Array Value × Nat)} {o : Nat → Nat} {vk vf : List Value} {m : Mk} {s : ByteArray} {W0 L0 : Nat}
theorem Ycq (h : Rx w base gk gf (bare L) o vk vf m) (ho : m.opn = true) (hI : Inv PL W0 L0 m) (hW : W0 ≤ 800000000) (hL : L0 ≤ 1000000000) : Calls Try.prog 46 #[.pointer (some ⟨gk, 0, none⟩), .pointer (some ⟨gf, 0, none⟩), .string ⟨#[59]⟩] w (Vk base gk gf (bare L) m (some (YF PL m ⟨#[59]⟩)) w) := by
 have hwt := hI.wt
 have hw1 := Xf hI.wt
 have hnl := hI.nl
 have hcode := hI.code
 clear hI
 have hA := Aside0.mk (fun W => VJ (s := ⟨#[59]⟩) Z2 W)
 have hY := Aside0.mk (fun W => Ve ⟨#[59]⟩ ZD W)
 rw [show YJ ⟨#[59]⟩ = 0 by kernel_rfl] at hY
 have hX := Aside0.mk h
 have hgb := h.k.hb
 clear h
 go_enter Try.func46, Try.ntmps46
 go_wp2_with fail
 refine (hA.out _).mono ?_
 rintro e w1 ⟨A, c, rfl, hB1⟩
 go_wp2_with fail
 refine (hY.out _).mono ?_
 rintro e w2 ⟨rfl, hB2⟩
 have h2 := (hX.out.below hB1).below hB2
 have hB3 := Aside0.mk (Below.mono (hB1.trans (hB2.mono hB1.size)) hX.out.k.base_le)
 clear hB1 hB2
 obtain ⟨A0, c0, A2, c2, A3, c3, A4, c4, u9, u10, u11, u12, u13, u14, u15, rfl⟩ := h2.kc
 have k6 := h2.k.cell 6 rfl
 rw [ho] at k6
 replace h2 := Aside0.mk h2
 by_cases hp : m.origs.length + m.dests.length + m.loops.length + m.cases.length > 0
 ·have hres := Aside0.mk (show YF PL m ⟨#[59]⟩ = .inr 13 by unfold YF; rw [if_pos Z14, if_pos hp])
  have hop := ropen_yes h2.out (Nat.le_trans hwt Z0) hp
  replace hop := Aside0.mk hop
  go_wp2_with fail
  refine hop.out.mono ?_
  rintro e w4 ⟨rfl, hB4⟩
  have hB5 := Aside0.mk (hB3.out.trans (Below.mono hB4 h2.out.k.base_le))
  clear hB4
  go_wp2_with fail
  exact bodyPost_ret (v := .tuple #[.int .i64 13, .bool true]) Zg rfl Z1x
 ·obtain ⟨m', hm'⟩ : ∃ m', ({ m.add 194 with opn := false, names := (m.name, m.code) :: m.names } : Mk) = m' := ⟨_, rfl⟩
  have hres := Aside0.mk (show YF PL m ⟨#[59]⟩ = .inl m' by unfold YF; rw [if_pos Z14, if_neg hp, ← hm']; rfl)
  have hop := ropen_no h2.out hp
  replace hop := Aside0.mk hop
  replace hm' := Aside0.mk hm'
  go_wp2_with fail
  refine hop.out.mono ?_
  rintro e w4 ⟨rfl, hB4⟩
  have h4 := Aside0.mk (h2.out.below hB4)
  have hB5 := Aside0.mk (hB3.out.trans (Below.mono hB4 h2.out.k.base_le))
  clear hB4
  go_wp2_with fail
  refine (Xl h4.out 194 0 ⟨#[]⟩ Z0).mono ?_
  rintro e w6 ⟨rfl, hB6, o6, vk6, vf6, h6⟩
  have hB7 := hB5.out.trans hB6
  clear hB6
  have hgb6 := h6.k.hb
  have h7 := h6.setK (i := 6) (v' := .bool false) (P' := valF (.bool false)) { m.add 194 with opn := false } (loc_val _ _) rfl rfl rfl rfl
  obtain ⟨B0, b0, B2, b2, B3, b3, B4, b4, y9, y10, y11, y12, y13, y14, y15, rfl⟩ := h6.kc
  have f6 := h6.k.free 6
  have c6 := h6.k.cell 6 rfl
  have hB8 := Aside0.mk (hB7.setCell (p := ⟨gk, 6, none⟩) hgb6 (.bool false))
  have k7 := h7.k.cell 7 rfl
  have k8 := h7.k.cell 8 rfl
  replace h7 := Aside0.mk h7
  clear h6 hB7
  go_wp2_with fail
  generalize w6.setCell ⟨gk, 6, none⟩ (.bool false) = w7 at h7 hB8 k7 k8 ⊢
  have hBd : Below w7.heap.size w7 w7.drew := YM (Below.refl _ _)
  have h8 := h7.out.below hBd
  have hB9 := Aside0.mk (hB8.out.trans (Below.mono hBd h7.out.k.base_le))
  refine VS (ds := [9]) (S := fun w' => w'.cell? ⟨gk, 7, none⟩ = some (.string m.name) ∧ w'.cell? ⟨gk, 8, none⟩ = some (.int .i64 m.code)) Z2 rfl rfl ⟨k7, k8⟩ (fun tb hS => ?_)
  generalize w7.drew = wd at h8 hB9 hS ⊢
  replace h8 := Aside0.mk h8
  clear k7 k8 h7 hB8 hBd
  refine seg_ [(0, 73), (1, 74), (2, 75), (3, 76), (4, 77), (5, 78), (6, 79), (7, 80), (8, 81)] tb hS Z2 (fun _ _ _ _ h => h) (a' := ?_) ?_ ?_
  rotate_left
  ·repeat (first | exact Seg.nil | (refine Seg.on (v := ?_) (a1 := ?_) rfl rfl Z4 ?_ ?_ ?_; rotate_left 2; (rintro w' hS; go_split_ands; go_simp; with_reducible rfl); (simp only [Act.put, List.setIfInBounds_toArray, List.set_cons_zero, List.set_cons_succ, Yy, YA]; rfl)))
  refine UI 9 tb rfl Z2 ?_
  go_wp2_with fail
  refine (UN h8.out m.name m.code (by show m.names.length < _; omega)).mono ?_
  rintro e w9 ⟨rfl, hB10, o9, vk9, vf9, h9⟩
  have hB11 := Aside0.mk (hB9.out.trans hB10)
  have h10 : Rx w9 base gk gf (bare L) o9 vk9 vf9 m' := by rw [← hm'.out]; exact h9
  replace h10 := Aside0.mk h10
  clear hB10 h9 hS hB9
  go_wp2_with fail
  refine ql_ (end_ tb Z2 ?_)
  go_wp2_with fail
  exact bodyPost_ret (v := .tuple #[.int .i64 0, .bool true]) Zg rfl (by rw [hres.out]; exact ⟨hB11.out, rfl, _, _, _, h10.out⟩)
end
section
variable {w : World} {base gk gf : Nat} {L : List S59 × Option (Nat × Array Value × Nat)} {o : Nat → Nat} {vk vf : List Value} {m : Mk} {s : ByteArray} {W0 L0 : Nat}
theorem fresh_err {c : Int} (h : XO YU m = .inr c) : c = 15 ∨ c = 22 := by
 unfold XO at h
 split at h
 ·cases h; exact .inl rfl
 ·split at h
  ·cases h; exact .inl rfl
  split at h
  ·cases h; exact .inr rfl
  ·cases h
theorem Yb3 (h : Inv PL W0 L0 m) {n : ByteArray} {c : Int} {m2 : Mk} (hf : XO YU m = .inl (n, c, m2)) : Inv PL W0 L0 m2 ∧ n.size ≤ 4096 ∧ 0 ≤ c ∧ c ≤ 4095 := by
 unfold XO at hf
 split at hf
 ·cases hf
 ·rename_i s' m3 hw
  obtain ⟨h3, hs, hx⟩ := Uo h hw
  split at hf
  ·cases hf
  split at hf
  ·cases hf
  ·rename_i hle
   cases hf
   have := h3.next
   exact Z2F
theorem YaP {T : Tx} {m1 : Mk} (hI : Inv PL W0 L0 m1) (h : Rx w base gk gf T o vk vf m1) : Calls Try.prog 77 #[.pointer (some ⟨gk, 0, none⟩)] w (Ya1 base gk gf T (XO YU m1) w) :=
 YeF h (fun t ht => by have := hI.inp t ht; have hm : maxLen = 9223372036854775807 := rfl; omega) (by have := hI.next; omega)
theorem sp_colon (h : Rx w base gk gf (bare L) o vk vf m) (ho : m.opn = false) (hI : Inv PL W0 L0 m) (hW : W0 ≤ 800000000) (hL : L0 ≤ 1000000000) : Calls Try.prog 46 #[.pointer (some ⟨gk, 0, none⟩), .pointer (some ⟨gf, 0, none⟩), .string ⟨#[58]⟩] w (Vk base gk gf (bare L) m (some (YV YU m ⟨#[58]⟩)) w) := by
 have hI' := Aside0.mk hI
 clear hI
 have hA := Aside0.mk (fun W => VJ (s := ⟨#[58]⟩) Z2 W)
 have hX := Aside0.mk h
 have hgb := h.k.hb
 clear h
 go_enter Try.func46, Try.ntmps46
 go_wp2_with fail
 refine (hA.out _).mono ?_
 rintro e w1 ⟨A, c, rfl, hB1⟩
 have h2 := hX.out.below hB1
 have hB3 := Aside0.mk (Below.mono hB1 hX.out.k.base_le)
 clear hB1
 obtain ⟨A0, c0, A2, c2, A3, c3, A4, c4, u9, u10, u11, u12, u13, u14, u15, rfl⟩ := h2.kc
 have k6 := h2.k.cell 6 rfl
 rw [ho] at k6
 replace h2 := Aside0.mk h2
 have hfr := Aside0.mk (YaP hI'.out h2.out)
 go_wp2_with fail
 refine hfr.out.mono ?_
 rintro e w5 ⟨hB5, hF⟩
 have hB6 := Aside0.mk (hB3.out.trans hB5)
 clear hB5 hfr
 cases hq : XO YU m with
 | inr c =>
   rw [hq] at hF
   obtain ⟨s1, n1, rfl⟩ := hF
   have hres : YV YU m ⟨#[58]⟩ = .inr c := by rw [show YV YU m ⟨#[58]⟩ = Xr YU ⟨#[58]⟩ m from by unfold YV; rw [if_neg ZD]; rfl]; unfold Xr; rw [hq]
   rcases fresh_err hq with rfl | rfl
   all_goals
    replace hres := Aside0.mk hres
    clear hq
    go_wp2_with fail
   ·exact Z2f
   ·exact Z2g
 | inl p =>
   obtain ⟨s1, c, m2⟩ := p
   rw [hq] at hF
   obtain ⟨rfl, o6, vk6, vf6, h6⟩ := hF
   have hin := Yb3 hI'.out hq
   have hw2 := Xf hin.1.wt
   have hnl := hin.1.nl
   have hcr := hin.2.2
   obtain ⟨mf, hmf⟩ : ∃ mf, ({ (m2.add 182 c s1).add 183 with opn := true, name := s1, code := c } : Mk) = mf := ⟨_, rfl⟩
   have hres := Aside0.mk (show YV YU m ⟨#[58]⟩ = .inl mf by rw [show YV YU m ⟨#[58]⟩ = Xr YU ⟨#[58]⟩ m from by unfold YV; rw [if_neg ZD]; rfl]; unfold Xr; rw [hq]; dsimp only; rw [if_pos Z14, show YJ ⟨#[58]⟩ = 183 by kernel_rfl, ← hmf])
   replace hmf := Aside0.mk hmf
   clear hq hin
   replace h6 := Aside0.mk h6
   go_wp2_with fail
   refine (Xl h6.out 182 c s1 Z0).mono ?_
   rintro e w7 ⟨rfl, hB7, o7, vk7, vf7, h7⟩
   have hB8 := Aside0.mk (hB6.out.trans hB7)
   have hol : (m2.add 182 c s1).out.length < 1099511627776 := by rw [show (m2.add 182 c s1).out.length = m2.out.length + 1 by simp [Mk.add]]; omega
   replace hol := Aside0.mk hol
   replace h7 := Aside0.mk h7
   clear hB7
   go_wp2_with fail
   have h8 := h7
   have hB10 := hB8
   refine (Xl h8.out 183 0 ⟨#[]⟩ hol.out).mono ?_
   rintro e w9 ⟨rfl, hB11, o9, vk9, vf9, h9⟩
   have hB12 := hB10.out.trans hB11
   clear hB11
   have hgk9 := h9.k.hb
   have h10 := h9.setK (i := 6) (v' := .bool true) (P' := valF (.bool true)) { (m2.add 182 c s1).add 183 with opn := true } (loc_val _ _) rfl rfl rfl rfl
   have h11 := h10.setK (i := 7) (v' := .string s1) (P' := valF (.string s1)) { (m2.add 182 c s1).add 183 with opn := true, name := s1 } (loc_val _ _) rfl rfl rfl rfl
   have h12 := h11.setK (i := 8) (v' := .int .i64 c) (P' := valF (.int .i64 c)) { (m2.add 182 c s1).add 183 with opn := true, name := s1, code := c } (loc_val _ _) rfl rfl rfl rfl
   rw [hmf.out] at h12
   obtain ⟨B0, b0, B2, b2, B3, b3, B4, b4, y9, y10, y11, y12, y13, y14, y15, rfl⟩ := h9.kc
   have c6 := h9.k.cell 6 rfl
   have f6 := h9.k.free 6
   have c7 := h10.k.cell 7 rfl
   have f7 := h10.k.free 7
   have c8 := h11.k.cell 8 rfl
   have f8 := h11.k.free 8
   have hB14 := Aside0.mk (((hB12.setCell (p := ⟨gk, 6, none⟩) hgk9 (.bool true)).setCell (p := ⟨gk, 7, none⟩) hgk9 (.string s1)).setCell (p := ⟨gk, 8, none⟩) hgk9 (.int .i64 c))
   replace h12 := Aside0.mk h12
   clear h9 h10 h11 hB12
   go_wp2_with fail
   exact bodyPost_ret (v := .tuple #[.int .i64 0, .bool true]) Zg rfl (by rw [hres.out]; exact ⟨hB14.out, rfl, _, _, _, h12.out⟩)
theorem sp_by (h : Rx w base gk gf (bare L) o vk vf m) (ho : m.opn = false) (hs : OutW s) (hm : YJ s ≠ 0) (ti : (s.toList == ([105, 110, 115, 116, 97, 110, 99, 101] : List UInt8)) = false) (hI : Inv PL W0 L0 m) (hW : W0 ≤ 800000000) (hL : L0 ≤ 1000000000) : Calls Try.prog 46 #[.pointer (some ⟨gk, 0, none⟩), .pointer (some ⟨gf, 0, none⟩), .string s] w (Vk base gk gf (bare L) m (some (YV YU m s)) w) := by
 have hI' := Aside0.mk hI
 clear hI
 have hm1 : (YJ s == 0) = false := beq_eq_false_iff_ne.2 hm
 have hm2 : (YJ s != 0) = true := bne_iff_ne.2 hm
 have n58 := Aside0.mk (beq_eq_false_iff_ne.1 hs.t58)
 have nin := Aside0.mk (beq_eq_false_iff_ne.1 ti)
 have hA := Aside0.mk (fun W => VJ hs.tab W)
 have hY := Aside0.mk (fun W => Ve s (beq_eq_false_iff_ne.1 hs.t58) W)
 obtain ⟨t58, t39, t59, tex, tbr, tto, -⟩ := hs
 have hX := Aside0.mk h
 have hgb := h.k.hb
 clear h
 go_enter Try.func46, Try.ntmps46
 go_wp2_with fail
 refine (hA.out _).mono ?_
 rintro e w1 ⟨A, c, rfl, hB1⟩
 go_wp2_with fail
 refine (hY.out _).mono ?_
 rintro e w2 ⟨rfl, hB2⟩
 have h2 := (hX.out.below hB1).below hB2
 have hB3 := Aside0.mk (Below.mono (hB1.trans (hB2.mono hB1.size)) hX.out.k.base_le)
 clear hB1 hB2
 obtain ⟨A0, c0, A2, c2, A3, c3, A4, c4, u9, u10, u11, u12, u13, u14, u15, rfl⟩ := h2.kc
 have k6 := h2.k.cell 6 rfl
 rw [ho] at k6
 replace h2 := Aside0.mk h2
 have hfr := Aside0.mk (YaP hI'.out h2.out)
 go_wp2_with fail
 refine hfr.out.mono ?_
 rintro e w5 ⟨hB5, hF⟩
 have hB6 := Aside0.mk (hB3.out.trans hB5)
 clear hB5 hfr
 cases hq : XO YU m with
 | inr c =>
   rw [hq] at hF
   obtain ⟨s1, n1, rfl⟩ := hF
   have hres : YV YU m s = .inr c := by rw [show YV YU m s = Xr YU s m from by unfold YV; rw [if_neg nin.out]; rfl]; unfold Xr; rw [hq]
   rcases fresh_err hq with rfl | rfl
   all_goals
    replace hres := Aside0.mk hres
    clear hq
    go_wp2_with fail
   ·exact Z2f
   ·exact Z2g
 | inl p =>
   obtain ⟨s1, c, m2⟩ := p
   rw [hq] at hF
   obtain ⟨rfl, o6, vk6, vf6, h6⟩ := hF
   have hin := Yb3 hI'.out hq
   have hw2 := Xf hin.1.wt
   have hnl := hin.1.nl
   have hcr := hin.2.2
   obtain ⟨mf, hmf⟩ : ∃ mf, ({ (m2.add 182 c s1).add (YJ s) with names := (s1, c) :: ((m2.add 182 c s1).add (YJ s)).names } : Mk) = mf := ⟨_, rfl⟩
   have hres := Aside0.mk (show YV YU m s = .inl mf by rw [show YV YU m s = Xr YU s m from by unfold YV; rw [if_neg nin.out]; rfl]; unfold Xr; rw [hq]; dsimp only; rw [if_neg n58.out, ← hmf])
   replace hmf := Aside0.mk hmf
   clear hq hin
   replace h6 := Aside0.mk h6
   go_wp2_with fail
   refine (Xl h6.out 182 c s1 Z0).mono ?_
   rintro e w7 ⟨rfl, hB7, o7, vk7, vf7, h7⟩
   have hB8 := Aside0.mk (hB6.out.trans hB7)
   have hol : (m2.add 182 c s1).out.length < 1099511627776 := by rw [show (m2.add 182 c s1).out.length = m2.out.length + 1 by simp [Mk.add]]; omega
   replace hol := Aside0.mk hol
   replace h7 := Aside0.mk h7
   clear hB7
   go_wp2_with fail
   refine (hY.out _).mono ?_
   rintro e w8 ⟨rfl, hB9⟩
   have h8 := Aside0.mk (h7.out.below hB9)
   have hB10 := Aside0.mk (hB8.out.trans (Below.mono hB9 h7.out.k.base_le))
   clear hB9
   go_wp2_with fail
   refine (Xl h8.out (YJ s) 0 ⟨#[]⟩ hol.out).mono ?_
   rintro e w9 ⟨rfl, hB11, o9, vk9, vf9, h9⟩
   have hB12 := hB10.out.trans hB11
   clear hB11
   replace h9 := Aside0.mk h9
   replace hB12 := Aside0.mk hB12
   go_wp2_with fail
   refine (UN h9.out s1 c (by show m2.names.length < _; omega)).mono ?_
   rintro e w10 ⟨rfl, hB13, o10, vk10, vf10, h10⟩
   have hB14 := Aside0.mk (hB12.out.trans hB13)
   have h11 : Rx w10 base gk gf (bare L) o10 vk10 vf10 mf := by rw [← hmf.out]; exact h10
   replace h11 := Aside0.mk h11
   clear hB13 h10
   go_wp2_with fail
   exact Z2N
theorem sp_inst (h : Rx w base gk gf (bare L) o vk vf m) (ho : m.opn = false) (hI : Inv PL W0 L0 m) (hW : W0 ≤ 800000000) (hL : L0 ≤ 1000000000) : Calls Try.prog 46 #[.pointer (some ⟨gk, 0, none⟩), .pointer (some ⟨gf, 0, none⟩), .string ⟨#[105, 110, 115, 116, 97, 110, 99, 101]⟩] w (Vk base gk gf (bare L) m (some (YV YU m ⟨#[105, 110, 115, 116, 97, 110, 99, 101]⟩)) w) := by
 have hI' := Aside0.mk hI
 clear hI
 have hA := Aside0.mk (fun W => VJ (s := ⟨#[105, 110, 115, 116, 97, 110, 99, 101]⟩) Z2 W)
 have hY := Aside0.mk (fun W => Ve ⟨#[105, 110, 115, 116, 97, 110, 99, 101]⟩ ZD W)
 rw [show YJ ⟨#[105, 110, 115, 116, 97, 110, 99, 101]⟩ = 184 by kernel_rfl] at hY
 have hX := Aside0.mk h
 have hgb := h.k.hb
 clear h
 go_enter Try.func46, Try.ntmps46
 go_wp2_with fail
 refine (hA.out _).mono ?_
 rintro e w1 ⟨A, c, rfl, hB1⟩
 go_wp2_with fail
 refine (hY.out _).mono ?_
 rintro e w2 ⟨rfl, hB2⟩
 have h2 := (hX.out.below hB1).below hB2
 have hB3 := Aside0.mk (Below.mono (hB1.trans (hB2.mono hB1.size)) hX.out.k.base_le)
 clear hB1 hB2
 obtain ⟨A0, c0, A2, c2, A3, c3, A4, c4, u9, u10, u11, u12, u13, u14, u15, rfl⟩ := h2.kc
 have k6 := h2.k.cell 6 rfl
 rw [ho] at k6
 replace h2 := Aside0.mk h2
 go_wp2_with fail
 refine (UM h2.out).mono ?_
 rintro e w3 ⟨hB4, hN⟩
 have hB5' := Aside0.mk (hB3.out.trans hB4)
 clear hB4 k6
 cases hw : XY m with
 | inr c =>
   rw [hw] at hN
   obtain ⟨s1, rfl⟩ := hN
   have hc : c = 15 := Yaj hw
   subst hc
   have hres := Aside0.mk (show YV YU m ⟨#[105, 110, 115, 116, 97, 110, 99, 101]⟩ = .inr 15 by unfold YV; rw [if_pos Z14, hw])
   clear hw
   go_wp2_with fail
   exact Z2O
 | inl p =>
   obtain ⟨s0, m0⟩ := p
   rw [hw] at hN
   obtain ⟨rfl, o3, vk3, vf3, h3⟩ := hN
   have hi0 := (Uo hI'.out hw).1
   have hw0 := Xf hi0.wt
   replace h3 := Aside0.mk h3
   by_cases hv : s0.toList = ([118, 97, 108, 117, 101] : List UInt8)
   rotate_left
   ·have hres := Aside0.mk (show YV YU m ⟨#[105, 110, 115, 116, 97, 110, 99, 101]⟩ = .inr 15 by unfold YV; rw [if_pos Z14, hw]; dsimp only; rw [if_neg hv])
    have hv1 : (s0.toList == ([118, 97, 108, 117, 101] : List UInt8)) = false := beq_eq_false_iff_ne.2 hv
    have hv2 : (s0.toList != ([118, 97, 108, 117, 101] : List UInt8)) = true := bne_iff_ne.2 hv
    clear hw hv hi0 hw0
    go_wp2_with fail
    exact Z2O
   have hdq := Aside0.mk (show YV YU m ⟨#[105, 110, 115, 116, 97, 110, 99, 101]⟩ = Xr YU ⟨#[105, 110, 115, 116, 97, 110, 99, 101]⟩ (m0.add 192) by unfold YV; rw [if_pos Z14, hw]; dsimp only; rw [if_pos hv]; rfl)
   have hv1 : (s0.toList == ([118, 97, 108, 117, 101] : List UInt8)) = true := beq_iff_eq.2 hv
   have hv2 : (s0.toList != ([118, 97, 108, 117, 101] : List UInt8)) = false := by simp [hv]
   have hi1 := Aside0.mk (hi0.add 192 0 emp Z0 Z0 XH)
   clear hw hv hi0
   go_wp2_with fail
   refine (Xl h3.out 192 0 ⟨#[]⟩ Z0).mono ?_
   rintro e w4 ⟨rfl, hB6', o4, vk4, vf4, h4⟩
   have hB7' := Aside0.mk (hB5'.out.trans hB6')
   have h4' : Rx w4 base gk gf (bare L) o4 vk4 vf4 (m0.add 192) := h4
   replace h4' := Aside0.mk h4'
   clear hB6' h4
   obtain ⟨mi, hmi⟩ : ∃ mi, m0.add 192 = mi := ⟨_, rfl⟩
   rw [hmi] at h4' hi1 hdq
   clear hmi hw0
   have hfr := Aside0.mk (YaP hi1.out h4'.out)
   go_wp2_with fail
   refine hfr.out.mono ?_
   rintro e w5 ⟨hB5, hF⟩
   have hB6 := Aside0.mk (hB7'.out.trans hB5)
   clear hB5 hfr
   cases hq : XO YU mi with
   | inr c =>
     rw [hq] at hF
     obtain ⟨s1, n1, rfl⟩ := hF
     have hres : YV YU m ⟨#[105, 110, 115, 116, 97, 110, 99, 101]⟩ = .inr c := by rw [hdq.out]; unfold Xr; rw [hq]
     rcases fresh_err hq with rfl | rfl
     all_goals
      replace hres := Aside0.mk hres
      clear hq
      go_wp2_with fail
     ·exact Z2f
     ·exact Z2g
   | inl p =>
     obtain ⟨s1, c, m2⟩ := p
     rw [hq] at hF
     obtain ⟨rfl, o6, vk6, vf6, h6⟩ := hF
     have hin := Yb3 hi1.out hq
     have hw2 := Xf hin.1.wt
     have hnl := hin.1.nl
     have hcr := hin.2.2
     obtain ⟨mf, hmf⟩ : ∃ mf, ({ (m2.add 182 c s1).add 184 with names := (s1, c) :: ((m2.add 182 c s1).add 184).names } : Mk) = mf := ⟨_, rfl⟩
     have hres := Aside0.mk (show YV YU m ⟨#[105, 110, 115, 116, 97, 110, 99, 101]⟩ = .inl mf by rw [hdq.out]; unfold Xr; rw [hq]; dsimp only; rw [if_neg ZD, show YJ ⟨#[105, 110, 115, 116, 97, 110, 99, 101]⟩ = 184 by kernel_rfl, ← hmf])
     replace hmf := Aside0.mk hmf
     clear hq hin
     replace h6 := Aside0.mk h6
     go_wp2_with fail
     refine (Xl h6.out 182 c s1 Z0).mono ?_
     rintro e w7 ⟨rfl, hB7, o7, vk7, vf7, h7⟩
     have hB8 := Aside0.mk (hB6.out.trans hB7)
     have hol : (m2.add 182 c s1).out.length < 1099511627776 := by rw [show (m2.add 182 c s1).out.length = m2.out.length + 1 by simp [Mk.add]]; omega
     replace hol := Aside0.mk hol
     replace h7 := Aside0.mk h7
     clear hB7
     go_wp2_with fail
     refine (hY.out _).mono ?_
     rintro e w8 ⟨rfl, hB9⟩
     have h8 := Aside0.mk (h7.out.below hB9)
     have hB10 := Aside0.mk (hB8.out.trans (Below.mono hB9 h7.out.k.base_le))
     clear hB9
     go_wp2_with fail
     refine (Xl h8.out 184 0 ⟨#[]⟩ hol.out).mono ?_
     rintro e w9 ⟨rfl, hB11, o9, vk9, vf9, h9⟩
     have hB12 := hB10.out.trans hB11
     clear hB11
     replace h9 := Aside0.mk h9
     replace hB12 := Aside0.mk hB12
     go_wp2_with fail
     refine (UN h9.out s1 c (by show m2.names.length < _; omega)).mono ?_
     rintro e w10 ⟨rfl, hB13, o10, vk10, vf10, h10⟩
     have hB14 := Aside0.mk (hB12.out.trans hB13)
     have h11 : Rx w10 base gk gf (bare L) o10 vk10 vf10 mf := by rw [← hmf.out]; exact h10
     replace h11 := Aside0.mk h11
     clear hB13 h10
     go_wp2_with fail
     exact Z2N
end
end Go.Proofs.Ytehmhgpogpbjiaa.Fcc
