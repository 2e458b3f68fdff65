import Derived.Test.Ytehmhgpogpbjiaafu25
set_option linter.unusedVariables false
set_option linter.unusedSimpArgs false
set_option maxRecDepth 100000
set_option maxHeartbeats 8000000
namespace Go.Proofs.Ytehmhgpogpbjiaa.Fcc
open Go.RowKit Go.Proofs.YtehmhgpogpbjiaaW.PrintWords Go.Proofs.YtehmhgpogpbjiaaW.PrintLast Go.Proofs.YtehmhgpogpbjiaaW.PrintMore Go.Proofs.Ytehmhgpogpbjiaa.PFccTokens
section
variable {w : World} {base gk gf : Nat} {T : Tx} {o : Nat → Nat} {vk vf : List Value} {m : Mk}
theorem Rx.setF {i n cap ge j : Nat} {xs : List Int} {y : Int} (h : Rx w base gk gf T o vk vf m) (m' : Mk) (hv : vf[i]? = some (.slice (some ⟨ge, 0, none⟩) n cap)) (hF : (fF base m)[i]? = some (rowF (Kd.int .i64) 3 base xs))
 (hm : (fF base m).set i (rowF (Kd.int .i64) 3 base (xs.set j y)) = fF base m') (hk : rF base T m = rF base T m') (hi : m.inp = m'.inp) :
 Rx (w.setCell ⟨ge, j, none⟩ (.int .i64 y)) base gk gf T o vk vf m' := by
 have hr : Kd.R (Kd.int .i64) 3 w base (fun k => o k = 20 + 1 + i) (.slice (some ⟨ge, 0, none⟩) n cap) xs := h.f.row i _ _ hv hF
 have hog : o ge = 20 + 1 + i := hr.1 ge Zk
 have hp := Kd.R_putn hr (j : Int) y
 rw [Int.toNat_natCast] at hp
 have hst := h.f.turn (w1 := w.setCell ⟨ge, j, none⟩ (.int .i64 y)) (o1 := o) i (loc_row (Kd.int .i64) 3 base (xs.set j y)) (fun _ _ => rfl) (fun k _ _ hne => Below.heap_setCell _ _ _ _ (fun e => hne (by rw [show k = ge from e]; exact hog))) (fun v hv' => by
  rw [hv] at hv'
  cases hv'
  exact hp)
 have hkk := h.k.keep2 (w1 := w.setCell ⟨ge, j, none⟩ (.int .i64 y)) (o1 := o) (fun _ _ => rfl) (fun k _ _ _ h2 => Below.heap_setCell _ _ _ _ (fun e => by rw [show k = ge from e, hog] at h2; have : (rF base T m).length = 16 := rfl; omega))
 rw [hm] at hst
 rw [hk] at hkk
 exact ⟨hkk, hst, h.lk, h.lf, Z15, Z17⟩
theorem set_snoc (xs : List Int) (x n : Int) : (xs ++ [x]).set xs.length n = xs ++ [n] := by rw [List.set_append_right _ _ (Nat.le_refl _), Nat.sub_self]; rfl
theorem rdo_else (h : Rx w base gk gf T o vk vf m) (hw : wt m ≤ 1000000000) (n : Int) (xs : List Int) (x : Int) (hx : m.origs = xs ++ [x]) :
 Calls Try.prog 76 #[.pointer (some ⟨gf, 0, none⟩), .int .i64 19, .int .i64 n, .bool false] w (XI base gk gf T (some { m with origs := xs ++ [n, x] }) w) := by
 obtain ⟨m', hm'⟩ : ∃ m', ({ m with origs := xs ++ [n, x] } : Mk) = m' := ⟨_, rfl⟩
 rw [hm']
 replace hm' := Aside0.mk hm'
 obtain ⟨A0, c0, A1, c1, A2, c2, A3, c3, A4, c4, rfl⟩ := h.fc
 have hla := Xf hw
 have k0 := h.f.cell 0 rfl
 have k1 := h.f.cell 1 rfl
 have k2 := h.f.cell 2 rfl
 have k3 := h.f.cell 3 rfl
 have hX := Aside0.mk h
 clear h
 have hln := hla.2.1
 have hlen : m.origs.length = xs.length + 1 := by rw [hx]; simp
 rw [hlen] at k0 hX hln
 have hx' := Aside0.mk hx
 clear hx hla hlen
 go_enter Try.func76, Try.ntmps76
 go_wp2_with fail
 go_quiet (fail)
 have hB1 := Yn (Below.refl w.heap.size w) nq
 have h1 := hX.out.below hB1
 have hB2 := Aside0.mk (Below.mono hB1 hX.out.k.base_le)
 have hgb := hX.out.f.hb
 generalize w.drewN nq = w1 at h1 hB2 ⊢
 clear k0 k1 k2 k3 hB1 hX
 have hF : (fF base m)[0]? = some (rowF (Kd.int .i64) 3 base (xs ++ [x])) := by rw [← hx'.out]; rfl
 have hR : Kd.R (Kd.int .i64) 3 w1 base (fun k => o k = 20 + 1 + 0) (.slice A0 (xs.length + 1) c0) (xs ++ [x]) := h1.f.row 0 _ _ rfl hF
 obtain ⟨-, hcap, hC⟩ := Kd.R_reads' hR
 obtain ⟨ge, cap, hv, hge, -, cells, hbk⟩ := Kd.R_form hR ZA
 rw [List.length_append, List.length_singleton] at hv
 cases hv
 obtain ⟨ad, e, g0⟩ := Kd.at_int hC (xs.length : Int) Z0 ZA
 cases e
 have hrd : rd (xs ++ [x]) (xs.length : Int) = x := by simp [rd, List.getD_eq_getElem?_getD]
 rw [hrd, Int.toNat_natCast] at g0
 have hadd : (⟨ge, 0, none⟩ : Addr).add xs.length = ⟨ge, xs.length, none⟩ := by rw [Yaf, Nat.zero_add]
 rw [hadd] at g0
 have f0 : w1.frozen? ⟨ge, xs.length, none⟩ = false := Yf hbk _
 replace hF := Aside0.mk hF
 clear hR hC hrd hadd
 have k0 := h1.f.cell 0 rfl
 have k1 := h1.f.cell 1 rfl
 have k2 := h1.f.cell 2 rfl
 have k3 := h1.f.cell 3 rfl
 have k4 := h1.f.cell 4 rfl
 replace h1 := Aside0.mk h1
 have hp0 : (0 : Int) ≤ (xs.length : Int) := by omega
 have hp1 : (xs.length : Int) < (xs.length : Int) + 1 := by omega
 have h2 := h1.out.setF (i := 0) (j := xs.length) (y := n) { m with origs := xs ++ [n] } rfl hF.out (by rw [set_snoc]; rfl) rfl rfl
 have hB3 := Aside0.mk (hB2.out.setCell (p := ⟨ge, xs.length, none⟩) hge (.int .i64 n))
 have k5 := h2.f.cell 0 rfl
 replace h2 := Aside0.mk h2
 clear hF hbk
 go_upto_region 21 with (fail)
 generalize w1.setCell ⟨ge, xs.length, none⟩ (.int .i64 n) = w3 at h2 hB3 k5 ⊢
 clear k0 k1 k2 k3 k4 g0 f0 h1 hB2
 have hz : (xs ++ [n]).length = xs.length + 1 := by simp
 have hB2 := hB3
 go_wp2_with (at_builtin; refine h2.out.pushF (d := Kd.int .i64) (e := 3) (i := 0) m' rfl rfl x [.int .i64 x] (by rw [← hm'.out, List.append_assoc]; rfl) Zl ZG rfl Try.underlying53 YcP rfl Z1 Z1 rfl rfl rfl rfl rfl (by rw [hz]; omega) ?_)
 rintro v2 w2 ⟨⟨o2, hx2⟩, hB4, ⟨A5, n5, c5, rfl⟩, hb2, hkp⟩
 have hf2 := Yf hb2 0
 have k2' := (Yc hb2 0).trans rfl
 replace hx2 := Aside0.mk hx2
 replace hB4 := Aside0.mk (hB3.out.trans hB4)
 clear hb2 hkp hz
 go_wp2_with fail
 exact bodyPost_ret (v := .bool true) Zi rfl ⟨hB4.out, rfl, _, _, _, hx2.out⟩
end
theorem info149 : (Try.prog.info? 149).map (fun i => (i.zero, i.size, i.bytes)) = some (some (.agg #[.int .i64 0, .slice none 0 0]), 2, 32) := by kernel_rfl
section
variable {w w1 : World} {base gk gf : Nat} {T : Tx} {o o1 : Nat → Nat} {vk vf : List Value} {m : Mk} {pre : List Ch} {c : Ch}
theorem St.besideS {α : Type} {d : Kd α} {e g g2 T1 T2 z z2 i : Nat} {vs vs2 : List Value} {F F2 : List Fld} {v v' : Value} {xs ys : List α} {w2 : World} (hp : PushedS d e base g T1 z i w vs o F v ys v' w2) (h : St w base g T1 z vs o F) (hv : vs[i]? = some v) (hF : F[i]? = some (rowsF d e base xs)) (h2 : St w base g2 T2 z2 vs2 o F2)
 (hz : z2 + F2.length < z ∨ z + 1 + i < z2) : St (w2.setCell ⟨g, i, none⟩ v') base g2 T2 z2 vs2 (new_ w o (z + 1 + i)) F2 := by
 have hr : Kd.S d e w base (fun k => o k = z + 1 + i) v xs := h.row i v _ hv hF
 refine h2.keep2 (fun k hk => Uk hk) (fun k hk hb h1 h3 => ?_)
 have hg : k ≠ g := fun e => by rw [e, h.own] at h1 h3; omega
 rw [Below.heap_setCell _ _ _ _ hg]
 exact hp.2.2.2.2.block k hk (fun e => by have := (Kd.S_R hr).1 k e.symm; omega)
theorem Rx.backF {gc n cap : Nat} {okx okp : Nat → Prop} {cs : List Value} {x x' : Ch} (h : Rx w base gk gf T o vk vf m) (m' : Mk) (hn : m.cases = pre ++ [x]) (hv : vf[3]? = some (.slice (some ⟨gc, 0, none⟩) n cap)) (ho : ∀ k, k < w.heap.size → o1 k = o k) (hk : ∀ k, k < w.heap.size → base ≤ k → o k ≠ 20 + 1 + 3 → w1.heap[k]? = w.heap[k]?)
 (hH : Kd.H k149 149 w1 base (fun k => o1 k = 20 + 1 + 3) (.slice (some ⟨gc, 0, none⟩) n cap) (pre ++ [x]) pre.length okx cs) (hM : k149.M w1 base okp x' cs) (hokp : ∀ k, okp k → okx k)
 (hm : (fF base m).set 3 (rowsF k149 149 base (pre ++ [x'])) = fF base m') (hkk : rF base T m = rF base T m') (hi : m.inp = m'.inp) : Rx w1 base gk gf T o1 vk vf m' := by
 have hst := h.f.back (i := 3) (x := x) (x' := x') hv ho hk hH hM hokp
 have hk2 := h.k.keep2 (w1 := w1) (o1 := o1) ho (fun k hlt hb _ h2 => hk k hlt hb (fun e => by rw [e] at h2; have : (rF base T m).length = 16 := rfl; omega))
 rw [hm] at hst
 rw [hkk] at hk2
 exact ⟨hk2, hst, h.lk, h.lf, Z15, Z17⟩
theorem rdo_case (h : Rx w base gk gf T o vk vf m) (hw : wt m ≤ 1000000000) (n : Int) (back : Bool) :
 Calls Try.prog 76 #[.pointer (some ⟨gf, 0, none⟩), .int .i64 196, .int .i64 n, .bool back] w (XI base gk gf T (some { m with cases := m.cases ++ ([⟨-1, []⟩] : List Ch) }) w) := by
 obtain ⟨m', hm'⟩ : ∃ m', ({ m with cases := m.cases ++ ([⟨-1, []⟩] : List Ch) } : Mk) = m' := ⟨_, rfl⟩
 rw [hm']
 replace hm' := Aside0.mk hm'
 obtain ⟨A0, c0, A1, c1, A2, c2, A3, c3, A4, c4, rfl⟩ := h.fc
 have hla := Xf hw
 have k0 := h.f.cell 0 rfl
 have k1 := h.f.cell 1 rfl
 have k2 := h.f.cell 2 rfl
 have k3 := h.f.cell 3 rfl
 have hX := Aside0.mk h
 clear h
 go_enter Try.func76, Try.ntmps76
 go_wp2_with fail
 go_quiet (fail)
 have hB1 := Yn (Below.refl w.heap.size w) nq
 have h1 := hX.out.below hB1
 have hB2 := Aside0.mk (Below.mono hB1 hX.out.k.base_le)
 have hgb := hX.out.f.hb
 generalize w.drewN nq = w1 at h1 hB2 ⊢
 clear k0 k1 k2 k3 hB1 hX
 have k3 := h1.f.cell 3 rfl
 replace h1 := Aside0.mk h1
 go_wp2_with (at_builtin; refine St.pushS (d := k149) (e := 149) (i := 3) h1.out.f rfl rfl (⟨-1, []⟩ : Ch) [.int .i64 (-1), .slice none 0 0] rfl Try.underlying65 info149 rfl Z1 Z1 rfl rfl rfl rfl (k149_mkM _ _ _ (x := (⟨-1, []⟩ : S149)) (Kd.R_nil _ _ _ _ _)) Z0 ?_)
 intro v2 w2 hp
 have hkk := St.besideS hp h1.out.f rfl rfl h1.out.k (.inl (show 0 + 16 < 20 by decide))
 obtain ⟨hst, hB3, ⟨A5, c5, hv5⟩, hb2, hg2⟩ := hp
 obtain ⟨n5, hn5⟩ : ∃ n5, (m.cases ++ ([⟨-1, []⟩] : List Ch)).length = n5 := ⟨_, rfl⟩
 rw [hn5] at hv5
 subst hv5
 obtain ⟨o2, vf2, hx2⟩ : ∃ o2 vf2, Rx (w2.setCell ⟨gf, 3, none⟩ (.slice A5 n5 c5)) base gk gf T o2 vk vf2 m' := ⟨_, _, (by rw [← hm'.out]; exact ⟨hkk, hst, h1.out.lk, rfl, h1.out.inp, h1.out.le⟩)⟩
 have hf2 := Yf hb2 3
 have k2' := (Yc hb2 3).trans rfl
 replace hx2 := Aside0.mk hx2
 replace hB3 := Aside0.mk ((hB2.out.trans hB3).setCell (p := ⟨gf, 3, none⟩) hgb (.slice A5 n5 c5))
 clear hb2 hst hkk hg2 hn5
 go_wp2_with fail
 exact Z1k
theorem YcB (h : Rx w base gk gf T o vk vf m) (hw : wt m ≤ 1000000000) (n : Int) (back : Bool) (hx : m.cases = []) :
 Calls Try.prog 76 #[.pointer (some ⟨gf, 0, none⟩), .int .i64 28, .int .i64 n, .bool back] w (XI base gk gf T none w) := by
 obtain ⟨A0, c0, A1, c1, A2, c2, A3, c3, A4, c4, rfl⟩ := h.fc
 have hla := Xf hw
 have k0 := h.f.cell 0 rfl
 have k1 := h.f.cell 1 rfl
 have k2 := h.f.cell 2 rfl
 have k3 := h.f.cell 3 rfl
 have hlen : m.cases.length = 0 := by rw [hx]; rfl
 rw [hlen] at k3 h
 have hX := Aside0.mk h
 clear h hlen hx
 go_enter Try.func76, Try.ntmps76
 go_wp2_with fail
 go_quiet (fail)
 have hB1 := Yn (Below.refl w.heap.size w) nq
 have h1 := hX.out.below hB1
 have hB2 := Aside0.mk (Below.mono hB1 hX.out.k.base_le)
 have hgb := hX.out.f.hb
 go_wp2_with fail
 exact Zy
theorem YbK (h : Rx w base gk gf T o vk vf m) (hw : wt m ≤ 1000000000) (n : Int) (back : Bool) (hx : m.cases = []) :
 Calls Try.prog 76 #[.pointer (some ⟨gf, 0, none⟩), .int .i64 198, .int .i64 n, .bool back] w (XI base gk gf T none w) := by
 obtain ⟨A0, c0, A1, c1, A2, c2, A3, c3, A4, c4, rfl⟩ := h.fc
 have hla := Xf hw
 have k0 := h.f.cell 0 rfl
 have k1 := h.f.cell 1 rfl
 have k2 := h.f.cell 2 rfl
 have k3 := h.f.cell 3 rfl
 have hlen : m.cases.length = 0 := by rw [hx]; rfl
 rw [hlen] at k3 h
 have hX := Aside0.mk h
 clear h hlen hx
 go_enter Try.func76, Try.ntmps76
 go_wp2_with fail
 go_quiet (fail)
 have hB1 := Yn (Below.refl w.heap.size w) nq
 have h1 := hX.out.below hB1
 have hB2 := Aside0.mk (Below.mono hB1 hX.out.k.base_le)
 have hgb := hX.out.f.hb
 go_wp2_with fail
 exact Zy
theorem YbL (h : Rx w base gk gf T o vk vf m) (hw : wt m ≤ 1000000000) (n : Int) (back : Bool) (hx : m.cases = []) :
 Calls Try.prog 76 #[.pointer (some ⟨gf, 0, none⟩), .int .i64 197, .int .i64 n, .bool back] w (XI base gk gf T none w) := by
 obtain ⟨A0, c0, A1, c1, A2, c2, A3, c3, A4, c4, rfl⟩ := h.fc
 have hla := Xf hw
 have k0 := h.f.cell 0 rfl
 have k1 := h.f.cell 1 rfl
 have k2 := h.f.cell 2 rfl
 have k3 := h.f.cell 3 rfl
 have hlen : m.cases.length = 0 := by rw [hx]; rfl
 rw [hlen] at k3 h
 have hX := Aside0.mk h
 clear h hlen hx
 go_enter Try.func76, Try.ntmps76
 go_wp2_with fail
 go_quiet (fail)
 have hB1 := Yn (Below.refl w.heap.size w) nq
 have h1 := hX.out.below hB1
 have hB2 := Aside0.mk (Below.mono hB1 hX.out.k.base_le)
 have hgb := hX.out.f.hb
 go_wp2_with fail
 exact Zy
theorem YeH (h : Rx w base gk gf T o vk vf m) (hw : wt m ≤ 1000000000) (n : Int) (back : Bool) (hn : m.cases = pre ++ [c]) (hc : c.f0 ≠ -1) :
 Calls Try.prog 76 #[.pointer (some ⟨gf, 0, none⟩), .int .i64 28, .int .i64 n, .bool back] w (XI base gk gf T none w) := by
 obtain ⟨A0, c0, A1, c1, A2, c2, A3, c3, A4, c4, rfl⟩ := h.fc
 have hla := Xf hw
 have k0 := h.f.cell 0 rfl
 have k1 := h.f.cell 1 rfl
 have k2 := h.f.cell 2 rfl
 have k3 := h.f.cell 3 rfl
 have hF : (fF base m)[3]? = some (rowsF k149 149 base (pre ++ [c])) := by rw [← hn]; rfl
 obtain ⟨gc, cap, cells, oki, cc, hv, hcap, hog, hbg, hbk, hcl, hM, hcc, hok, hH⟩ := h.f.last (i := 3) rfl hF
 obtain ⟨v1, rfl, hR1⟩ := XL hM
 have hlen : m.cases.length = pre.length + 1 := by rw [hn]; simp
 have hlp := hla.2.2.2.2.2.1
 rw [hlen] at h hv hH k3 hlp
 cases hv
 have q0 : w.cell? ⟨gc, pre.length * 2, none⟩ = some (.int .i64 c.f0) := (Yc hbk _).trans (hcc 0 _ rfl)
 have hX := Aside0.mk h
 have hHn := Aside0.mk hn
 have hp0 : (0 : Int) ≤ (pre.length : Int) := by omega
 have hp1 : (pre.length : Int) < (pre.length : Int) + 1 := by omega
 have e9 : (c.f0 == -1) = false := by simpa using hc
 clear h hF hlen hH hla hn hc hM hcc hcl hbk hR1
 go_enter Try.func76, Try.ntmps76
 go_wp2_with fail
 go_quiet (fail)
 have hB1 := Yn (Below.refl w.heap.size w) nq
 have h1 := hX.out.below hB1
 have hB2 := Aside0.mk (Below.mono hB1 hX.out.k.base_le)
 have hgb := hX.out.f.hb
 go_wp2_with fail
 exact Zy
theorem Ydn (h : Rx w base gk gf T o vk vf m) (hw : wt m ≤ 1000000000) (n : Int) (back : Bool) (hn : m.cases = pre ++ [c]) (hc : c.f0 ≠ -1) :
 Calls Try.prog 76 #[.pointer (some ⟨gf, 0, none⟩), .int .i64 197, .int .i64 n, .bool back] w (XI base gk gf T none w) := by
 obtain ⟨A0, c0, A1, c1, A2, c2, A3, c3, A4, c4, rfl⟩ := h.fc
 have hla := Xf hw
 have k0 := h.f.cell 0 rfl
 have k1 := h.f.cell 1 rfl
 have k2 := h.f.cell 2 rfl
 have k3 := h.f.cell 3 rfl
 have hF : (fF base m)[3]? = some (rowsF k149 149 base (pre ++ [c])) := by rw [← hn]; rfl
 obtain ⟨gc, cap, cells, oki, cc, hv, hcap, hog, hbg, hbk, hcl, hM, hcc, hok, hH⟩ := h.f.last (i := 3) rfl hF
 obtain ⟨v1, rfl, hR1⟩ := XL hM
 have hlen : m.cases.length = pre.length + 1 := by rw [hn]; simp
 have hlp := hla.2.2.2.2.2.1
 rw [hlen] at h hv hH k3 hlp
 cases hv
 have q0 : w.cell? ⟨gc, pre.length * 2, none⟩ = some (.int .i64 c.f0) := (Yc hbk _).trans (hcc 0 _ rfl)
 have hX := Aside0.mk h
 have hHn := Aside0.mk hn
 have hp0 : (0 : Int) ≤ (pre.length : Int) := by omega
 have hp1 : (pre.length : Int) < (pre.length : Int) + 1 := by omega
 have e9 : (c.f0 == -1) = false := by simpa using hc
 clear h hF hlen hH hla hn hc hM hcc hcl hbk hR1
 go_enter Try.func76, Try.ntmps76
 go_wp2_with fail
 go_quiet (fail)
 have hB1 := Yn (Below.refl w.heap.size w) nq
 have h1 := hX.out.below hB1
 have hB2 := Aside0.mk (Below.mono hB1 hX.out.k.base_le)
 have hgb := hX.out.f.hb
 go_wp2_with fail
 exact Zy
theorem Ydm (h : Rx w base gk gf T o vk vf m) (hw : wt m ≤ 1000000000) (n : Int) (back : Bool) (hn : m.cases = pre ++ [c]) (hc : c.f0 = -1) :
 Calls Try.prog 76 #[.pointer (some ⟨gf, 0, none⟩), .int .i64 198, .int .i64 n, .bool back] w (XI base gk gf T none w) := by
 obtain ⟨A0, c0, A1, c1, A2, c2, A3, c3, A4, c4, rfl⟩ := h.fc
 have hla := Xf hw
 have k0 := h.f.cell 0 rfl
 have k1 := h.f.cell 1 rfl
 have k2 := h.f.cell 2 rfl
 have k3 := h.f.cell 3 rfl
 have hF : (fF base m)[3]? = some (rowsF k149 149 base (pre ++ [c])) := by rw [← hn]; rfl
 obtain ⟨gc, cap, cells, oki, cc, hv, hcap, hog, hbg, hbk, hcl, hM, hcc, hok, hH⟩ := h.f.last (i := 3) rfl hF
 obtain ⟨v1, rfl, hR1⟩ := XL hM
 have hlen : m.cases.length = pre.length + 1 := by rw [hn]; simp
 have hlp := hla.2.2.2.2.2.1
 rw [hlen] at h hv hH k3 hlp
 cases hv
 have q0 : w.cell? ⟨gc, pre.length * 2, none⟩ = some (.int .i64 c.f0) := (Yc hbk _).trans (hcc 0 _ rfl)
 have hX := Aside0.mk h
 have hHn := Aside0.mk hn
 have hp0 : (0 : Int) ≤ (pre.length : Int) := by omega
 have hp1 : (pre.length : Int) < (pre.length : Int) + 1 := by omega
 rw [hc] at q0
 clear h hF hlen hH hla hn hc hM hcc hcl hbk hR1
 go_enter Try.func76, Try.ntmps76
 go_wp2_with fail
 go_quiet (fail)
 have hB1 := Yn (Below.refl w.heap.size w) nq
 have h1 := hX.out.below hB1
 have hB2 := Aside0.mk (Below.mono hB1 hX.out.k.base_le)
 have hgb := hX.out.f.hb
 go_wp2_with fail
 exact Zy
theorem rdo_of (h : Rx w base gk gf T o vk vf m) (hw : wt m ≤ 1000000000) (n : Int) (back : Bool) (hn : m.cases = pre ++ [c]) (hc : c.f0 = -1) :
 Calls Try.prog 76 #[.pointer (some ⟨gf, 0, none⟩), .int .i64 28, .int .i64 n, .bool back] w (XI base gk gf T (some { m with cases := pre ++ ([⟨n, c.f1⟩] : List Ch) }) w) := by
 obtain ⟨A0, c0, A1, c1, A2, c2, A3, c3, A4, c4, rfl⟩ := h.fc
 have hla := Xf hw
 have k0 := h.f.cell 0 rfl
 have k1 := h.f.cell 1 rfl
 have k2 := h.f.cell 2 rfl
 have k3 := h.f.cell 3 rfl
 have hF : (fF base m)[3]? = some (rowsF k149 149 base (pre ++ [c])) := by rw [← hn]; rfl
 obtain ⟨gc, cap, cells, oki, cc, hv, hcap, hog, hbg, hbk, hcl, hM, hcc, hok, hH⟩ := h.f.last (i := 3) rfl hF
 obtain ⟨v1, rfl, hR1⟩ := XL hM
 have hlen : m.cases.length = pre.length + 1 := by rw [hn]; simp
 have hlp := hla.2.2.2.2.2.1
 rw [hlen] at h hv hH k3 hlp
 cases hv
 have q0 : w.cell? ⟨gc, pre.length * 2, none⟩ = some (.int .i64 c.f0) := (Yc hbk _).trans (hcc 0 _ rfl)
 have hX := Aside0.mk h
 have hHn := Aside0.mk hn
 have hp0 : (0 : Int) ≤ (pre.length : Int) := by omega
 have hp1 : (pre.length : Int) < (pre.length : Int) + 1 := by omega
 rw [hc] at q0
 have f0 : w.frozen? ⟨gc, pre.length * 2, none⟩ = false := Yf hbk _
 have hH' := Aside0.mk hH
 clear h hF hlen hH hla hn hc hM hcc hcl hbk
 go_enter Try.func76, Try.ntmps76
 go_wp2_with fail
 go_quiet (fail)
 have hB1 := Yn (Below.refl w.heap.size w) nq
 have h1 := hX.out.below hB1
 have hB2 := Aside0.mk (Below.mono hB1 hX.out.k.base_le)
 have hgb := hX.out.f.hb
 have hb1 := Kd.H_drewN hH'.out nq
 have hs1 := Kd.H_seg hb1 Z0 Z0 (seg := [.int .i64 n]) (j := 0) Z1B Z16
 have hR2 := Kd.R_far (p := ⟨gc, pre.length * 2, none⟩) (Kd.R_drewN hR1 nq) (fun k hk => (hok k hk).2) (.int .i64 n)
 have h2 := h1.backF (w1 := (w.drewN nq).setCell ⟨gc, pre.length * 2, none⟩ (.int .i64 n)) (o1 := o) (x' := (⟨n, c.f1⟩ : S149)) { m with cases := pre ++ ([⟨n, c.f1⟩] : List Ch) } hHn.out rfl (fun _ _ => rfl) (fun k hlt _ hne => hs1.2.block k hlt (fun e => hne (by cases e; exact hog))) hs1.1 (k149_mkM _ _ _ (x := ⟨n, c.f1⟩) hR2) (fun _ hk => hk) rfl rfl rfl
 have hB3 := Aside0.mk (hB2.out.setCell (p := ⟨gc, pre.length * 2, none⟩) hbg (.int .i64 n))
 replace h2 := Aside0.mk h2
 clear hb1 hs1 hR2 hB1 h1
 go_wp2_with fail
 exact bodyPost_ret (v := .bool true) Zi rfl ⟨hB3.out, rfl, _, _, _, h2.out⟩
end
section
variable {w w1 : World} {base gk gf : Nat} {T : Tx} {o o1 : Nat → Nat} {vk vf : List Value} {m : Mk} {pre : List Ch} {c : Ch}
theorem rdo_endof (h : Rx w base gk gf T o vk vf m) (hw : wt m ≤ 1000000000) (n : Int) (back : Bool) (hn : m.cases = pre ++ [c]) (hc : c.f0 ≠ -1) :
 Calls Try.prog 76 #[.pointer (some ⟨gf, 0, none⟩), .int .i64 198, .int .i64 n, .bool back] w (XI base gk gf T (some { m with cases := pre ++ ([⟨-1, c.f1 ++ [n]⟩] : List Ch), leads := m.leads ++ ([⟨c.f0, n⟩] : List Ld) }) w) := by
 obtain ⟨A0, c0, A1, c1, A2, c2, A3, c3, A4, c4, rfl⟩ := h.fc
 have hla := Xf hw
 have k0 := h.f.cell 0 rfl
 have k1 := h.f.cell 1 rfl
 have k2 := h.f.cell 2 rfl
 have k3 := h.f.cell 3 rfl
 have hF : (fF base m)[3]? = some (rowsF k149 149 base (pre ++ [c])) := by rw [← hn]; rfl
 obtain ⟨gc, cap, cells, oki, cc, hv, hcap, hog, hbg, hbk, hcl, hM, hcc, hok, hH⟩ := h.f.last (i := 3) rfl hF
 obtain ⟨v1, rfl, hR1⟩ := XL hM
 have hlen : m.cases.length = pre.length + 1 := by rw [hn]; simp
 have hlp := hla.2.2.2.2.2.1
 rw [hlen] at h hv hH k3 hlp
 cases hv
 have q0 : w.cell? ⟨gc, pre.length * 2, none⟩ = some (.int .i64 c.f0) := (Yc hbk _).trans (hcc 0 _ rfl)
 have hX := Aside0.mk h
 have hHn := Aside0.mk hn
 have hp0 : (0 : Int) ≤ (pre.length : Int) := by omega
 have hp1 : (pre.length : Int) < (pre.length : Int) + 1 := by omega
 have e9 : (c.f0 == -1) = false := by simpa using hc
 have e0 := Aside0.mk (show cells[pre.length * 2]? = some (.int .i64 c.f0) from hcc 0 _ rfl)
 have hl4 := hla.2.2.2.2.1
 have hlo : c.f1.length ≤ 1000000000 := hla.2.2.2.2.2.2 c (by rw [hn]; simp)
 clear h hF hlen hH hla hn hc hM hcc hcl hR1
 go_enter Try.func76, Try.ntmps76
 go_wp2_with fail
 go_quiet (fail)
 have hB1 := Yn (Below.refl w.heap.size w) nq
 have h1 := hX.out.below hB1
 have hB2 := Aside0.mk (Below.mono hB1 hX.out.k.base_le)
 have hgb := hX.out.f.hb
 have hbk1 := Vx hbk nq
 generalize w.drewN nq = w1 at h1 hB2 hbk1 ⊢
 clear k0 k1 k2 k3 hB1 hX hbk q0
 have k3 := h1.f.cell 3 rfl
 have k4 := h1.f.cell 4 rfl
 have q0 : w1.cell? ⟨gc, pre.length * 2, none⟩ = some (.int .i64 c.f0) := (Yc hbk1 _).trans e0.out
 replace h1 := Aside0.mk h1
 go_upto_region 43 with (fail)
 have hBd : Below w1.heap.size w1 w1.drew := YM (Below.refl _ _)
 have h2 := h1.out.below hBd
 have hB3 := hB2.out.trans (Below.mono hBd h1.out.k.base_le)
 refine VS (ds := [19]) (S := fun w' => w'.cell? ⟨gf, 4, none⟩ = some (.slice A4 m.leads.length c4) ∧ w'.cell? ⟨gf, 3, none⟩ = some (.slice (some ⟨gc, 0, none⟩) (pre.length + 1) c3) ∧ w'.cell? ⟨gc, pre.length * 2, none⟩ = some (.int .i64 c.f0)) Z2 rfl rfl ⟨k4, k3, q0⟩ (fun tb hS => ?_)
 have hbk2 := Xq hbk1
 generalize w1.drew = wd at h2 hB3 hS hbk2 ⊢
 replace h2 := Aside0.mk h2
 clear k3 k4 q0 h1 hBd hbk1
 refine seg_ [(0, 320), (1, 321), (2, 322), (3, 323), (4, 324), (5, 325), (6, 326), (7, 327), (8, 328), (9, 329), (10, 330), (11, 331), (12, 332), (13, 333), (14, 334)] tb hS Z2 (fun _ _ _ _ h => h) (a' := ?_) ?_ ?_
 rotate_left
 ·repeat (first | exact Seg.nil | (refine Seg.on (v := ?_) (a1 := ?_) rfl rfl Z4 ?_ ?_ ?_; rotate_left 2; (rintro w' hS; go_split_ands; go_simp; with_reducible rfl); (simp only [Act.put, List.setIfInBounds_toArray, List.set_cons_zero, List.set_cons_succ, Yy, YA]; rfl)))
 refine eff_ 15 tb rfl Z2 ?_
 go_wp2_with fail
 refine ql_ ⟨⟨(h2.out.alloc _).f.cell 4 rfl, (h2.out.alloc _).f.cell 3 rfl, (Yc (YZ hbk2 _) _).trans e0.out⟩, fun hS => ?_⟩
 refine eff_ 16 tb rfl Z2 ?_
 refine h2.out.pushF (d := k77) (e := 77) (i := 4) { m with leads := m.leads ++ ([⟨c.f0, n⟩] : List Ld) } rfl rfl (⟨c.f0, n⟩ : S77) [.int .i64 c.f0, .int .i64 n] rfl rfl rfl rfl Try.underlying71 YaL rfl Z1 Z1 rfl rfl rfl rfl (VW _ _ _ _) Z0 ?_
 rintro v2 w2 ⟨⟨o2, hx2⟩, hB4, ⟨A5, n5, c5, rfl⟩, hb2, hkp⟩
 have hf2 := Yf hb2 4
 have k2' := (Yc hb2 4).trans rfl
 have hbk4 := (hkp gc (Vw hbk2) ZV).trans hbk2
 refine ql_ ⟨⟨k2', (Yc hb2 3).trans rfl, (Yc hbk4 _).trans e0.out⟩, fun hS => ?_⟩
 refine seg_ [(17, 337), (18, 338)] tb hS Z2 (fun _ _ _ _ h => h) (a' := ?_) ?_ ?_
 rotate_left
 ·repeat (first | exact Seg.nil | (refine Seg.on (v := ?_) (a1 := ?_) rfl rfl Z4 ?_ ?_ ?_; rotate_left 2; (rintro w' hS; go_split_ands; go_simp; with_reducible rfl); (simp only [Act.put, List.setIfInBounds_toArray, List.set_cons_zero, List.set_cons_succ, Yy, YA]; rfl)))
 refine UI 19 tb rfl Z2 ?_
 go_wp2_with fail
 refine ql_ (end_ tb Z2 ?_)
 have hB5 := Aside0.mk (hB3.trans hB4)
 clear hS k2' hf2 hbk4 hkp hb2 hB4 hB3 h2 hbk2 e0 hB2
 generalize w2.setCell ⟨gf, 4, none⟩ (.slice A5 n5 c5) = W4 at hx2 hB5 ⊢
 have hF2 : (fF base { m with leads := m.leads ++ ([⟨c.f0, n⟩] : List Ld) })[3]? = some (rowsF k149 149 base (pre ++ [c])) := by rw [← hHn.out]; rfl
 obtain ⟨gc', cap', cells, oki, cc, hv, hcap, hog, hbg, hbk, hcl, hM, hcc, hok, hH⟩ := hx2.f.last (i := 3) rfl hF2
 obtain ⟨v1, rfl, hR1⟩ := XL hM
 cases hv
 obtain ⟨A6, c6, rfl⟩ := Kd.R_slice hR1
 have k3 := hx2.f.cell 3 rfl
 have f0 : W4.frozen? ⟨gc, pre.length * 2, none⟩ = false := Yf hbk _
 have q0 : W4.cell? ⟨gc, pre.length * 2, none⟩ = some (.int .i64 c.f0) := (Yc hbk _).trans (hcc 0 _ rfl)
 have hbx := hx2.f.box
 have hgg : gc ≠ gf := fun e => by rw [e, hx2.f.own] at hog; omega
 have hs1 := Kd.H_seg hH Z0 Z0 (seg := [.int .i64 (-1)]) (j := 0) Z1B Z16
 have hbk5 := JU hbk (pre.length * 2) (.int .i64 (-1))
 have hbx5 := YaX hbx (p := ⟨gc, pre.length * 2, none⟩) (fun e => hgg e.symm) (.int .i64 (-1))
 have hR5 := Kd.R_far (p := ⟨gc, pre.length * 2, none⟩) hR1 (fun k hk => (hok k hk).2) (.int .i64 (-1))
 have hsz5 : (W4.setCell ⟨gc, pre.length * 2, none⟩ (.int .i64 (-1))).heap.size = W4.heap.size := World.size_setCell _ _ _
 have hB6 := hB5.out.setCell (p := ⟨gc, pre.length * 2, none⟩) hbg (.int .i64 (-1))
 have hH5 : Kd.H k149 149 (W4.setCell ⟨gc, pre.length * 2, none⟩ (.int .i64 (-1))) base (fun k => o2 k = 20 + 1 + 3) (.slice (some ⟨gc, 0, none⟩) (pre.length + 1) c3) (pre ++ [c]) pre.length oki [.int .i64 (-1), .slice A6 c.f1.length c6] := hs1.1
 have hm5 : ∀ k, k < W4.heap.size → some k ≠ some gc → (W4.setCell ⟨gc, pre.length * 2, none⟩ (.int .i64 (-1))).heap[k]? = W4.heap[k]? := fun k hk hne => hs1.2.block k hk hne
 go_upto_region 45 with (fail)
 have e1 : (cells.setIfInBounds (pre.length * 2) (.int .i64 (-1)))[pre.length * 2 + 1]? = some (.slice A6 c.f1.length c6) := by
  rw [Array.getElem?_setIfInBounds_ne Z0]
  exact hcc 1 _ rfl
 replace e1 := Aside0.mk e1
 have hm5' := Aside0.mk hm5
 clear hm5 hs1 hR1 hH hcc hcl hM hbk k3 f0 q0 hbx hF2
 generalize cells.setIfInBounds (pre.length * 2) (.int .i64 (-1)) = cells5 at hbk5 e1
 obtain ⟨W5, hW5⟩ : ∃ W5, W4.setCell ⟨gc, pre.length * 2, none⟩ (.int .i64 (-1)) = W5 := ⟨_, rfl⟩
 rw [hW5] at hbk5 hbx5 hR5 hsz5 hB6 hH5 hm5' ⊢
 clear hW5
 have hBd : Below W5.heap.size W5 W5.drew := YM (Below.refl _ _)
 have hbk6 := Xq hbk5
 have hbx6 := Xq hbx5
 have hR6 := Kd.R_drew hR5
 have hH6 := Kd.H_drew hH5
 have hsz6 : W5.drew.heap.size = W4.heap.size := hsz5
 have hm6 : ∀ k, k < W4.heap.size → some k ≠ some gc → W5.drew.heap[k]? = W4.heap[k]? := hm5'.out
 have hB7 := hB6.trans (Below.mono hBd (by rw [hsz5]; exact hx2.k.base_le))
 refine VS (ds := [18]) (S := fun w' => w'.cell? ⟨gf, 3, none⟩ = some (.slice (some ⟨gc, 0, none⟩) (pre.length + 1) c3) ∧ w'.cell? ⟨gc, pre.length * 2 + 1, none⟩ = some (.slice A6 c.f1.length c6)) Z2 rfl rfl ⟨(Yc hbx6 3).trans rfl, (Yc hbk6 _).trans e1.out⟩ (fun tb hS => ?_)
 generalize W5.drew = Wd at hbk6 hbx6 hR6 hH6 hsz6 hm6 hB7 hS ⊢
 clear hBd hbk5 hbx5 hR5 hH5 hsz5 hm5' hB6
 replace hm6 := Aside0.mk hm6
 have hsz' := Aside0.mk hsz6
 clear hsz6
 refine seg_ [(0, 346), (1, 347), (2, 348), (3, 349), (4, 350), (5, 351), (6, 352), (7, 353), (8, 354), (9, 355), (10, 356), (11, 357), (12, 358), (13, 359)] tb hS Z2 (fun _ _ _ _ h => h) (a' := ?_) ?_ ?_
 rotate_left
 ·repeat (first | exact Seg.nil | (refine Seg.on (v := ?_) (a1 := ?_) rfl rfl Z4 ?_ ?_ ?_; rotate_left 2; (rintro w' hS; go_split_ands; go_simp; with_reducible rfl); (simp only [Act.put, List.setIfInBounds_toArray, List.set_cons_zero, List.set_cons_succ, Yy, YA]; rfl)))
 refine eff_ 14 tb rfl Z2 ?_
 go_wp2_with fail
 refine ql_ ⟨⟨(Yc (YZ hbx6 _) 3).trans rfl, (Yc (YZ hbk6 _) _).trans e1.out⟩, fun hS => ?_⟩
 refine eff_ 15 tb rfl Z2 ?_
 have hbl : base ≤ Wd.heap.size := by rw [hsz'.out]; exact hx2.k.base_le
 refine Kd.R_append (Kd.int .i64) (w0 := Wd) (W := Wd) base rfl _ _ 53 3 (.int .i64 0) 8 rfl Try.underlying53 YcP rfl Z1 Z1 (.slice A6 c.f1.length c6) c.f1 n [.int .i64 n] (fun k => oki k ∨ Wd.heap.size ≤ k) (fun _ => False) rfl rfl rfl (fun _ h => h.elim) (fun k hk => .inr hk) (Kd.R_mono hR6 (fun k hk => .inl hk)) (Below.refl _ _) hbl Z0 ?_
 intro v7 w7 hR7 hB8 hg7 _
 obtain ⟨A7, c7, rfl⟩ := Kd.R_slice hR7
 have hz7 : (c.f1 ++ [n]).length = c.f1.length + 1 := by simp
 rw [hz7] at hR7 ⊢
 have hown : ∀ k, (Value.slice A6 c.f1.length c6).ownBlock = some k → oki k := hR6.1
 have hbk7 := XK hbk6 hg7 (fun e => (hok gc (hown gc e.symm)).2 rfl)
 have hbx7 := XK hbx6 hg7 (fun e => by
  have h9 := (hok gf (hown gf e.symm)).1
  rw [hx2.f.own] at h9
  omega)
 refine ql_ ⟨⟨(Yc hbx7 3).trans rfl, (Yc hbk7 _).trans e1.out⟩, fun hS => ?_⟩
 refine seg_ [(16, 362), (17, 363)] tb hS Z2 (fun _ _ _ _ h => h) (a' := ?_) ?_ ?_
 rotate_left
 ·repeat (first | exact Seg.nil | (refine Seg.on (v := ?_) (a1 := ?_) rfl rfl Z4 ?_ ?_ ?_; rotate_left 2; (rintro w' hS; go_split_ands; go_simp; with_reducible rfl); (simp only [Act.put, List.setIfInBounds_toArray, List.set_cons_zero, List.set_cons_succ, Yy, YA]; rfl)))
 have f7 : w7.frozen? ⟨gc, pre.length * 2 + 1, none⟩ = false := Yf hbk7 _
 have q7 : w7.cell? ⟨gc, pre.length * 2 + 1, none⟩ = some (.slice A6 c.f1.length c6) := (Yc hbk7 _).trans e1.out
 refine UI 18 tb rfl Z2 ?_
 go_wp2_with fail
 refine ql_ (end_ tb Z2 ?_)
 have hH7 := Kd.H_grown (Kd.H_widen (Kd.H_mono hH6 (ok' := fun k => new_ Wd o2 24 k = 20 + 1 + 3) (fun k hk => by unfold new_; split; exact hk; rfl))) hg7 (fun k hk => .inl (hown k hk))
 have hs2 := Kd.H_seg hH7 Z0 Z0 (seg := [.slice A7 (c.f1.length + 1) c7]) (j := 1) (by show 1 + 1 ≤ 2; omega) Z16
 have hH8 : Kd.H k149 149 (w7.setCell ⟨gc, pre.length * 2 + 1, none⟩ (.slice A7 (c.f1.length + 1) c7)) base (fun k => new_ Wd o2 24 k = 20 + 1 + 3) (.slice (some ⟨gc, 0, none⟩) (pre.length + 1) c3) (pre ++ [c]) pre.length (fun k => oki k ∨ new_ Wd o2 24 k = 20 + 1 + 3 ∧ Wd.heap.size ≤ k) [.int .i64 (-1), .slice A7 (c.f1.length + 1) c7] := hs2.1
 have hokg : ∀ k, (oki k ∨ Wd.heap.size ≤ k) → k ≠ gc := fun k hk => hk.elim (fun h => (hok k h).2) (fun h e => by have := Vw hbk6; omega)
 have hR8 := Kd.R_far (p := ⟨gc, pre.length * 2 + 1, none⟩) hR7 hokg (.slice A7 (c.f1.length + 1) c7)
 have h8 := hx2.backF (w1 := w7.setCell ⟨gc, pre.length * 2 + 1, none⟩ (.slice A7 (c.f1.length + 1) c7)) (o1 := new_ Wd o2 24) (x' := (⟨-1, c.f1 ++ [n]⟩ : S149)) { m with cases := pre ++ ([⟨-1, c.f1 ++ [n]⟩] : List Ch), leads := m.leads ++ ([⟨c.f0, n⟩] : List Ld) } hHn.out rfl (fun k hk => Uk (by rw [hsz'.out]; exact hk)) (fun k hlt _ hne => by
  have hkg : k ≠ gc := fun e => hne (by rw [e]; exact hog)
  rw [Below.heap_setCell _ _ _ _ hkg]
  rw [hg7.block k (by rw [hsz'.out]; exact hlt) (fun e => hne (hok k (hown k e.symm)).1)]
  exact hm6.out k hlt (fun e => hkg (by injection e))) hH8 (k149_mkM _ _ _ (x := ⟨-1, c.f1 ++ [n]⟩) hR8) (fun k hk => hk.imp id (fun h => ⟨JC h, h⟩)) rfl rfl rfl
 have hB9 := Aside0.mk ((hB7.trans hB8).setCell (p := ⟨gc, pre.length * 2 + 1, none⟩) hbg (.slice A7 (c.f1.length + 1) c7))
 replace h8 := Aside0.mk h8
 clear hs2 hH8 hH7 hR8 hokg f7 hbk7 hbx7 hR7 hB8 hg7 hS hH6 hR6 hbx6 hbk6 hB7
 go_wp2_with fail
 exact bodyPost_ret (v := .bool true) Zi rfl ⟨hB9.out, rfl, _, _, _, h8.out⟩
end
def endedR (m : Mk) (c : Ch) (n : Int) (kk : Nat) : Mk := { m with leads := m.leads ++ (c.f1.take kk).map (fun x => (⟨x, n⟩ : Ld)) }
section
variable {w w1 : World} {base gk gf : Nat} {T : Tx} {o o1 : Nat → Nat} {vk vf : List Value} {m : Mk} {pre : List Ch} {c : Ch}
theorem Ydo (h : Rx w base gk gf T o vk vf m) (hw : wt m ≤ 1000000000) (n : Int) (back : Bool) (hn : m.cases = pre ++ [c]) (hc : c.f0 = -1) :
 Calls Try.prog 76 #[.pointer (some ⟨gf, 0, none⟩), .int .i64 197, .int .i64 n, .bool back] w (XI base gk gf T (some { m with cases := pre, leads := m.leads ++ c.f1.map (fun x => (⟨x, n⟩ : Ld)) }) w) := by
 obtain ⟨m', hm'⟩ : ∃ m', ({ m with cases := pre, leads := m.leads ++ c.f1.map (fun x => (⟨x, n⟩ : Ld)) } : Mk) = m' := ⟨_, rfl⟩
 rw [hm']
 replace hm' := Aside0.mk hm'
 obtain ⟨A0, c0, A1, c1, A2, c2, A3, c3, A4, c4, rfl⟩ := h.fc
 have hla := Xf hw
 have k0 := h.f.cell 0 rfl
 have k1 := h.f.cell 1 rfl
 have k2 := h.f.cell 2 rfl
 have k3 := h.f.cell 3 rfl
 have hF : (fF base m)[3]? = some (rowsF k149 149 base (pre ++ [c])) := by rw [← hn]; rfl
 obtain ⟨gc, cap, cells, oki, cc, hv, hcap, hog, hbg, hbk, hcl, hM, hcc, hok, hH⟩ := h.f.last (i := 3) rfl hF
 obtain ⟨v1, rfl, hR1⟩ := XL hM
 have hlen : m.cases.length = pre.length + 1 := by rw [hn]; simp
 have hlp := hla.2.2.2.2.2.1
 rw [hlen] at h hv hH k3 hlp
 cases hv
 have q0 : w.cell? ⟨gc, pre.length * 2, none⟩ = some (.int .i64 c.f0) := (Yc hbk _).trans (hcc 0 _ rfl)
 have hX := Aside0.mk h
 have hHn := Aside0.mk hn
 have hp0 : (0 : Int) ≤ (pre.length : Int) := by omega
 have hp1 : (pre.length : Int) < (pre.length : Int) + 1 := by omega
 rw [hc] at q0
 have hl4 := hla.2.2.2.2.1
 have hlo : c.f1.length ≤ 1000000000 := hla.2.2.2.2.2.2 c (by rw [hn]; simp)
 clear h hF hlen hH hla hn hc hM hcc hcl hR1
 go_enter Try.func76, Try.ntmps76
 go_wp2_with fail
 go_quiet (fail)
 have hB1 := Yn (Below.refl w.heap.size w) nq
 have h1 := hX.out.below hB1
 have hB2 := Aside0.mk (Below.mono hB1 hX.out.k.base_le)
 have hgb := hX.out.f.hb
 go_wp2_with fail
 clear k0 k1 k2 k3 q0 hB1 hX hok hbk hog hbg
 generalize w.drewN nq = W at h1 hB2 ⊢
 obtain ⟨vf0, h0⟩ : ∃ vf0, Rx W base gk gf T o vk vf0 (endedR m c n 0) := ⟨_, (by unfold endedR; simpa using h1)⟩
 replace h0 := Aside0.mk h0
 clear h1
 go_loopg [14] c.f1.length (fun gg s14 wr => ∃ (kk : Nat) (o1 : Nat → Nat) (vk1 vf1 : List Value), kk ≤ c.f1.length ∧ c.f1.length - kk ≤ gg ∧ s14 = .int .i64 kk ∧ Aside0 (Below base w wr) ∧ Aside0 (Rx wr base gk gf T o1 vk1 vf1 (endedR m c n kk)))
 case atStart => exact ⟨0, o, vk, _, Nat.zero_le _, Z0, rfl, hB2, h0⟩
 case round =>
  obtain ⟨kk, o1, vk1, vf1, hkk, hg, rfl, HB, HM⟩ := hrel
  have hme : (endedR m c n kk).cases = pre ++ [c] := hHn.out
  have hll : (endedR m c n kk).leads.length = m.leads.length + kk := by simp [endedR]; omega
  obtain ⟨A0, c0, A1, c1, A2, c2, A3, c3, A4, c4, rfl⟩ := HM.out.fc
  have hF : (fF base (endedR m c n kk))[3]? = some (rowsF k149 149 base (pre ++ [c])) := by rw [← hme]; rfl
  obtain ⟨gc, cap, cells, oki, cc, hv, hcap, hog, hbg, hbk, hcl, hM, hcc, hok, hH⟩ := HM.out.f.last (i := 3) rfl hF
  obtain ⟨v1, rfl, hR1⟩ := XL hM
  have hlen : (endedR m c n kk).cases.length = pre.length + 1 := by rw [hme]; simp
  have HM2 := HM.out
  rw [hlen] at hv HM2
  cases hv
  obtain ⟨A5, c5, rfl, hlc, hCe⟩ := Kd.R_reads hR1
  have k3 := HM2.f.cell 3 rfl
  have k4 := HM2.f.cell 4 rfl
  have q1 : wr.cell? ⟨gc, pre.length * 2 + 1, none⟩ = some (.slice A5 c.f1.length c5) := (Yc hbk _).trans (hcc 1 _ rfl)
  by_cases hlt : kk < c.f1.length
  ·have hltz : (kk : Int) < (c.f1.length : Int) := by omega
   have hsz5 : 0 < c.f1.length := by omega
   obtain ⟨ge, cape, hve, hge, -, cellse, hbe⟩ := Kd.R_form hR1 hsz5
   cases hve
   have hoge := (hok ge (hR1.1 ge Zk)).1
   obtain ⟨ad, e, g0⟩ := Kd.at_int hCe (kk : Int) Z0 hltz
   cases e
   have hadd : (⟨ge, 0, none⟩ : Addr).add kk = ⟨ge, kk, none⟩ := by rw [Yaf, Nat.zero_add]
   have hrd : rd c.f1 (kk : Int) = c.f1[kk]'hlt := by simp [rd, List.getD_eq_getElem?_getD, hlt]
   rw [hrd, Int.toNat_natCast, hadd] at g0
   have htake : c.f1.take (kk + 1) = c.f1.take kk ++ [c.f1[kk]'hlt] := by rw [List.take_add_one, List.getElem?_eq_getElem hlt]; rfl
   have hend : ∀ x, x = c.f1[kk]'hlt → ({ endedR m c n kk with leads := (endedR m c n kk).leads ++ ([⟨x, n⟩] : List Ld) } : Mk) = endedR m c n (kk + 1) := by
    rintro x rfl
    simp only [endedR, htake, List.map_append, List.append_assoc]
    rfl
   generalize c.f1[kk]'hlt = x at g0 hend
   have hend2 := Aside0.mk (hend x rfl)
   have e0 := Aside0.mk ((Yc hbe kk).symm.trans g0)
   have e1 := Aside0.mk (show cells[pre.length * 2 + 1]? = some (.slice (some ⟨ge, 0, none⟩) c.f1.length c5) from hcc 1 _ rfl)
   have hgk := Aside0.mk (show c.f1.length - (kk + 1) < gk ∧ kk + 1 ≤ c.f1.length by omega)
   have hml : (endedR m c n kk).leads.length ≤ 2000000000 := by rw [hll]; omega
   have hgb' := HM2.f.hb
   replace HM2 := Aside0.mk HM2
   clear hend hrd hadd htake hCe hR1 hH hcc hM hcl hF hme hlen hll hg HM hsz5 h0
   generalize endedR m c n kk = me at HM2 k3 k4 hend2 hml
   go_upto_region 5 with (fail)
   have hBd : Below wr.heap.size wr wr.drew := YM (Below.refl _ _)
   have h2 := HM2.out.below hBd
   have hB3 := HB.out.trans (Below.mono hBd HM2.out.k.base_le)
   refine VS (ds := [22]) (S := fun w' => w'.cell? ⟨gf, 4, none⟩ = some (.slice A4 me.leads.length c4) ∧ w'.cell? ⟨gf, 3, none⟩ = some (.slice (some ⟨gc, 0, none⟩) (pre.length + 1) c3) ∧ w'.cell? ⟨gc, pre.length * 2 + 1, none⟩ = some (.slice (some ⟨ge, 0, none⟩) c.f1.length c5) ∧ w'.cell? ⟨ge, kk, none⟩ = some (.int .i64 x)) Z2 rfl rfl ⟨k4, k3, q1, g0⟩ (fun tb hS => ?_)
   have hbk2 := Xq hbk
   have hbe2 := Xq hbe
   generalize wr.drew = wd at h2 hB3 hS hbk2 hbe2 ⊢
   replace h2 := Aside0.mk h2
   clear k3 k4 q1 g0 hBd hbk hbe HM2
   refine seg_ [(0, 52), (1, 53), (2, 54), (3, 55), (4, 56), (5, 57), (6, 58), (7, 59), (8, 60), (9, 61), (10, 62), (11, 63), (12, 64), (13, 65), (14, 66), (15, 67), (16, 68), (17, 69)] tb hS Z2 (fun _ _ _ _ h => h) (a' := ?_) ?_ ?_
   rotate_left
   ·repeat (first | exact Seg.nil | (refine Seg.on (v := ?_) (a1 := ?_) rfl rfl Z4 ?_ ?_ ?_; rotate_left 2; (rintro w' hS; go_split_ands; go_simp; with_reducible rfl); (simp only [Act.put, List.setIfInBounds_toArray, List.set_cons_zero, List.set_cons_succ, Yy, YA]; rfl)))
   refine eff_ 18 tb rfl Z2 ?_
   go_wp2_with fail
   refine ql_ ⟨⟨(h2.out.alloc _).f.cell 4 rfl, (h2.out.alloc _).f.cell 3 rfl, (Yc (YZ hbk2 _) _).trans e1.out, (Yc (YZ hbe2 _) _).trans e0.out⟩, fun hS => ?_⟩
   refine eff_ 19 tb rfl Z2 ?_
   refine h2.out.pushF (d := k77) (e := 77) (i := 4) { me with leads := me.leads ++ ([⟨x, n⟩] : List Ld) } rfl rfl (⟨x, n⟩ : S77) [.int .i64 x, .int .i64 n] rfl rfl rfl rfl Try.underlying71 YaL rfl Z1 Z1 rfl rfl rfl rfl (VW _ _ _ _) Z0 ?_
   rintro v2 w2 ⟨⟨o2, hx2⟩, hB4, ⟨A7, n7, c7, rfl⟩, hb2, hkp⟩
   have hf2 := Yf hb2 4
   have k2' := (Yc hb2 4).trans rfl
   have hbk4 := (hkp gc (Vw hbk2) ZV).trans hbk2
   have hbe4 := (hkp ge (Vw hbe2) (by rw [hoge]; decide)).trans hbe2
   refine ql_ ⟨⟨k2', (Yc hb2 3).trans rfl, (Yc hbk4 _).trans e1.out, (Yc hbe4 _).trans e0.out⟩, fun hS => ?_⟩
   refine seg_ [(20, 72), (21, 73)] tb hS Z2 (fun _ _ _ _ h => h) (a' := ?_) ?_ ?_
   rotate_left
   ·repeat (first | exact Seg.nil | (refine Seg.on (v := ?_) (a1 := ?_) rfl rfl Z4 ?_ ?_ ?_; rotate_left 2; (rintro w' hS; go_split_ands; go_simp; with_reducible rfl); (simp only [Act.put, List.setIfInBounds_toArray, List.set_cons_zero, List.set_cons_succ, Yy, YA]; rfl)))
   refine UI 22 tb rfl Z2 ?_
   go_wp2_with fail
   refine ql_ (end_ tb Z2 ?_)
   have hB5 := Aside0.mk (hB3.trans hB4)
   rw [hend2.out] at hx2
   replace hx2 := Aside0.mk hx2
   clear hS k2' hf2 hbk4 hbe4 hkp hb2 hB4 hB3 h2 hbk2 hbe2
   go_wp2_with fail
   go_roundg (c.f1.length - (kk + 1))
   case measure => exact hgk.out.1
   case rel => exact ⟨kk + 1, o2, vk1, _, hgk.out.2, Nat.le_refl _, ZE, hB5, hx2⟩
  ·have hkk2 : kk = c.f1.length := by omega
   subst hkk2
   have hall : endedR m c n c.f1.length = { m with leads := m.leads ++ c.f1.map (fun x => (⟨x, n⟩ : Ld)) } := by simp [endedR]
   have hS := HM2.f.row 3 _ _ rfl hF
   have ht := Kd.S_take hS (m := pre.length) Z6
   rw [List.take_left' rfl] at ht
   have hst := HM2.f.put 3 (loc_rows _ _ _ _) ht
   have hkp := St.besideP (g := gf) (u := .slice (some ⟨gc, 0, none⟩) pre.length c3) (i := 3) HM2.f HM2.k (.inl (show 0 + 16 < 20 by decide))
   rw [hall] at hst hkp HM2
   have h3 := Rx.mk (m := { m with cases := pre, leads := m.leads ++ c.f1.map (fun x => (⟨x, n⟩ : Ld)) }) hkp hst HM2.lk rfl HM2.inp HM2.le
   rw [hm'.out] at h3
   have f3 := HM2.f.free 3
   have hB3 := Aside0.mk (Below.setCell HB.out HM2.f.hb (.slice (some ⟨gc, 0, none⟩) pre.length c3) (p := ⟨gf, 3, none⟩))
   have hz : ¬ (c.f1.length : Int) < (c.f1.length : Int) := by omega
   have p3 : (0 ≤ (pre.length : Int) ∧ (pre.length : Int) ≤ (c3 : Int)) = True := eq_true ⟨Z0, Z0⟩
   have p2 : ((pre.length : Int) ≤ (c3 : Int)) = True := eq_true Z0
   replace h3 := Aside0.mk h3
   clear hall hS ht hst hkp hF hme hlen hll hg HM HM2 hH hcc hM hcl hCe hR1 h0
   go_wp2_with fail
   exact bodyPost_ret (v := .bool true) Zi rfl ⟨hB3.out, rfl, _, _, _, h3.out⟩
end
end Go.Proofs.Ytehmhgpogpbjiaa.Fcc
