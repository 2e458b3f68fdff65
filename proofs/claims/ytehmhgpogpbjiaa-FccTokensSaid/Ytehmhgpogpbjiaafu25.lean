import Derived.Test.Ytehmhgpogpbjiaafu24
set_option linter.unusedVariables false
set_option linter.unusedSimpArgs false
set_option maxRecDepth 100000
set_option maxHeartbeats 8000000
namespace Go.Proofs.Ytehmhgpogpbjiaa.Fcc
open Go.RowKit Go.Proofs.YtehmhgpogpbjiaaW.PrintWords Go.Proofs.YtehmhgpogpbjiaaW.PrintLast Go.Proofs.YtehmhgpogpbjiaaW.PrintMore Go.Proofs.Ytehmhgpogpbjiaa.PFccTokens
def XI (base gk gf : Nat) (T : Tx) (r : Option Mk) (w : World) (e : Ending) (w' : World) : Prop :=
 Below base w w' ∧ match r with
  | some m => e = .returned (.bool true) ∧ ∃ o vk vf, Rx w' base gk gf T o vk vf m
  | none => e = .returned (.bool false)
theorem YaL : (Try.prog.info? 77).map (fun i => (i.zero, i.size, i.bytes)) = some (some (.agg #[.int .i64 0, .int .i64 0]), 2, 16) := by kernel_rfl
section
variable {w : World} {base gk gf : Nat} {T : Tx} {o : Nat → Nat} {vk vf : List Value} {m : Mk}
structure RPush (base gk gf : Nat) (T : Tx) (w : World) (o : Nat → Nat) (i : Nat) (vk vf : List Value) (m' : Mk) (v' : Value) (w2 : World) : Prop where
 rx : ∃ o', Rx (w2.setCell ⟨gf, i, none⟩ v') base gk gf T o' vk (vf.set i v') m'
 bel : Below base w (w2.setCell ⟨gf, i, none⟩ v')
 sl : ∃ A n c, v' = .slice A n c
 box : w2.heap[gf]? = some (.cells vf.toArray 73 (0, 0))
 keep : ∀ k, k < w.heap.size → o k ≠ 20 + 1 + i → w2.heap[k]? = w.heap[k]?
theorem Rx.pushF {α : Type} {d : Kd α} {e t bytes i : Nat} {zv v : Value} {xs : List α} {P : Program} {ops : Array Oper} {rest : List Oper} {Q : Exit → Act → World → Prop} {a : Act} {q : Oper} {s x : Operand} (h : Rx w base gk gf T o vk vf m) (m' : Mk) (hv : vf[i]? = some v) (hF : (fF base m)[i]? = some (rowF d e base xs)) (p : α) (cs : List Value)
 (hm : (fF base m).set i (rowF d e base (xs ++ [p])) = fF base m') (hk : rF base T m = rF base T m') (hi : m.inp = m'.inp)
 (hd : d.sz = cs.length) (ht : P.underlying t = some (.slice e)) (hinfo : (P.info? e).map (fun i => (i.zero, i.size, i.bytes)) = some (some zv, d.sz, bytes)) (hz : zv.cells.size = d.sz) (hs0 : 0 < d.sz) (hb0 : 0 < bytes)
 (hgd : q.guard = none) (hq : q.op = .call { callee := .builtin .append, args := #[s, x], argTypes := #[t, t] }) (hs : a.eval s = v) (hx : a.eval x = .slice (some ⟨w.heap.size, 0, none⟩) 1 1)
 (hp : d.M w base (fun _ => False) p cs) (hl : (xs.length + 1) * bytes ≤ 140737488355328)
 (k : ∀ v' w2, RPush base gk gf T w o i vk vf m' v' w2 → wpList P ops Q rest (a.put q.dst v') w2) : wpList P ops Q (q :: rest) a (w.alloc (.cells cs.toArray e)) := by
 refine St.push (i := i) h.f hv hF p cs (fun _ => False) hd ht hinfo hz hs0 hb0 hgd hq hs hx hp hl ?_
 intro v' w2 hp
 have hkk := St.beside hp h.f hv hF h.k (.inl (show 0 + 16 < 20 by decide))
 obtain ⟨hst, hB2, ⟨A, c, hv'⟩, hb2, hg2⟩ := hp
 subst hv'
 rw [hm] at hst
 rw [hk] at hkk
 refine k _ w2 ⟨⟨_, ⟨hkk, hst, h.lk, Z1X, Z15, Z17⟩⟩, hB2.setCell h.f.hb _, ⟨_, _, _, rfl⟩, hb2, fun k hk ho => hg2.block k hk (fun e' => ho ((h.f.row i v _ hv hF : Kd.R d e w base (fun k => o k = 20 + 1 + i) v xs).1 k e'.symm))⟩
theorem Rx.pushFN {α : Type} {d : Kd α} {e t bytes i n c : Nat} {A : Option Addr} {zv v : Value} {xs : List α} {P : Program} {ops : Array Oper} {rest : List Oper} {Q : Exit → Act → World → Prop} {a : Act} {q : Oper} {s x : Operand} (h : Rx w base gk gf T o vk vf m) (m' : Mk) (hv : vf[i]? = some v) (hF : (fF base m)[i]? = some (rowF d e base xs)) (ys : List α)
 (hm : (fF base m).set i (rowF d e base (xs ++ ys)) = fF base m') (hk : rF base T m = rF base T m') (hi : m.inp = m'.inp)
 (ht : P.underlying t = some (.slice e)) (hinfo : (P.info? e).map (fun i => (i.zero, i.size, i.bytes)) = some (some zv, d.sz, bytes)) (hz : zv.cells.size = d.sz) (hs0 : 0 < d.sz) (hb0 : 0 < bytes)
 (hgd : q.guard = none) (hq : q.op = .call { callee := .builtin .append, args := #[s, x], argTypes := #[t, t] }) (hs : a.eval s = v) (hx : a.eval x = .slice A n c)
 (hC : d.C w A n ys) (hKM : ∀ x cs, d.K w x cs → d.M w base (fun _ => False) x cs) (hl : (xs.length + n) * bytes ≤ 140737488355328)
 (k : ∀ v' w2, RPush base gk gf T w o i vk vf m' v' w2 → wpList P ops Q rest (a.put q.dst v') w2) : wpList P ops Q (q :: rest) a w := by
 refine St.pushN (i := i) h.f hv hF ys A n c ht hinfo hz hs0 hb0 hgd hq hs hx hC hKM hl ?_
 intro v' w2 hp
 have hkk := St.beside hp h.f hv hF h.k (.inl (show 0 + 16 < 20 by decide))
 obtain ⟨hst, hB2, ⟨A, c, hv'⟩, hb2, hg2⟩ := hp
 subst hv'
 rw [hm] at hst
 rw [hk] at hkk
 refine k _ w2 ⟨⟨_, ⟨hkk, hst, h.lk, Z1X, Z15, Z17⟩⟩, hB2.setCell h.f.hb _, ⟨_, _, _, rfl⟩, hb2, fun k hk ho => hg2.block k hk (fun e' => ho ((h.f.row i v _ hv hF : Kd.R d e w base (fun k => o k = 20 + 1 + i) v xs).1 k e'.symm))⟩
theorem Rx.popF {α : Type} {d : Kd α} {e i n c : Nat} {A : Option Addr} {xs : List α} {x : α} (h : Rx w base gk gf T o vk vf m) (m' : Mk) (hv : vf[i]? = some (.slice A n c)) (hF : (fF base m)[i]? = some (rowF d e base (xs ++ [x])))
 (hm : (fF base m).set i (rowF d e base xs) = fF base m') (hk : rF base T m = rF base T m') (hi : m.inp = m'.inp) :
 Rx (w.setCell ⟨gf, i, none⟩ (.slice A xs.length c)) base gk gf T o vk (vf.set i (.slice A xs.length c)) m' := by
 have hr : Kd.R d e w base (fun k => o k = 20 + 1 + i) (.slice A n c) (xs ++ [x]) := h.f.row i _ _ hv hF
 have ht := Kd.R_take hr (m := xs.length) Z6
 rw [List.take_left' rfl] at ht
 have hst := h.f.put i (loc_row d e base xs) ht
 have hkk := St.besideP (g := gf) (u := .slice A xs.length c) (i := i) h.f h.k (.inl (show 0 + 16 < 20 by decide))
 rw [hm] at hst
 rw [hk] at hkk
 exact ⟨hkk, hst, h.lk, Z1X, Z15, Z17⟩
theorem rdo_begin (h : Rx w base gk gf T o vk vf m) (hw : wt m ≤ 1000000000) (n : Int) (back : Bool) :
 Calls Try.prog 76 #[.pointer (some ⟨gf, 0, none⟩), .int .i64 177, .int .i64 n, .bool back] w (XI base gk gf T (some { m with dests := m.dests ++ [n] }) w) := by
 obtain ⟨m', hm'⟩ : ∃ m', ({ m with dests := m.dests ++ [n] } : Mk) = m' := ⟨_, rfl⟩
 rw [hm']
 replace hm' := Aside0.mk hm'
 obtain ⟨A0, c0, A1, c1, A2, c2, A3, c3, A4, c4, rfl⟩ := h.fc
 have hla := Xf hw
 have k0 := h.f.cell 0 rfl
 have k1 := h.f.cell 1 rfl
 have k2 := h.f.cell 2 rfl
 have k3 := h.f.cell 3 rfl
 have hX := Aside0.mk h
 clear h
 go_enter Try.func76, Try.ntmps76
 go_wp2_with fail
 go_quiet (fail)
 have hB1 := Yn (Below.refl w.heap.size w) nq
 have h1 := hX.out.below hB1
 have hB2 := Aside0.mk (Below.mono hB1 hX.out.k.base_le)
 have hgb := hX.out.f.hb
 generalize w.drewN nq = w1 at h1 hB2 ⊢
 clear k0 k1 k2 k3 hB1 hX
 have k0 := h1.f.cell 0 rfl
 have k1 := h1.f.cell 1 rfl
 have k2 := h1.f.cell 2 rfl
 have k3 := h1.f.cell 3 rfl
 have k4 := h1.f.cell 4 rfl
 replace h1 := Aside0.mk h1
 go_wp2_with (at_builtin; refine h1.out.pushF (d := Kd.int .i64) (e := 3) (i := 1) m' rfl rfl n [.int .i64 n] Zl Zl ZG rfl Try.underlying53 YcP rfl Z1 Z1 rfl rfl rfl rfl rfl Z0 ?_)
 rintro v2 w2 ⟨⟨o2, hx2⟩, hB3, ⟨A5, n5, c5, rfl⟩, hb2, hkp⟩
 have hf2 := Yf hb2 1
 have k2' := (Yc hb2 1).trans rfl
 replace hx2 := Aside0.mk hx2
 replace hB3 := Aside0.mk (hB2.out.trans hB3)
 clear hb2 hkp
 go_wp2_with fail
 exact Z1k
theorem rdo_if (h : Rx w base gk gf T o vk vf m) (hw : wt m ≤ 1000000000) (n : Int) :
 Calls Try.prog 76 #[.pointer (some ⟨gf, 0, none⟩), .int .i64 20, .int .i64 n, .bool false] w (XI base gk gf T (some { m with origs := m.origs ++ [n] }) w) := by
 obtain ⟨m', hm'⟩ : ∃ m', ({ m with origs := m.origs ++ [n] } : Mk) = m' := ⟨_, rfl⟩
 rw [hm']
 replace hm' := Aside0.mk hm'
 obtain ⟨A0, c0, A1, c1, A2, c2, A3, c3, A4, c4, rfl⟩ := h.fc
 have hla := Xf hw
 have k0 := h.f.cell 0 rfl
 have k1 := h.f.cell 1 rfl
 have k2 := h.f.cell 2 rfl
 have k3 := h.f.cell 3 rfl
 have hX := Aside0.mk h
 clear h
 go_enter Try.func76, Try.ntmps76
 go_wp2_with fail
 go_quiet (fail)
 have hB1 := Yn (Below.refl w.heap.size w) nq
 have h1 := hX.out.below hB1
 have hB2 := Aside0.mk (Below.mono hB1 hX.out.k.base_le)
 have hgb := hX.out.f.hb
 generalize w.drewN nq = w1 at h1 hB2 ⊢
 clear k0 k1 k2 k3 hB1 hX
 have k0 := h1.f.cell 0 rfl
 have k1 := h1.f.cell 1 rfl
 have k2 := h1.f.cell 2 rfl
 have k3 := h1.f.cell 3 rfl
 have k4 := h1.f.cell 4 rfl
 replace h1 := Aside0.mk h1
 go_wp2_with (at_builtin; refine h1.out.pushF (d := Kd.int .i64) (e := 3) (i := 0) m' rfl rfl n [.int .i64 n] Zl Zl ZG rfl Try.underlying53 YcP rfl Z1 Z1 rfl rfl rfl rfl rfl Z0 ?_)
 rintro v2 w2 ⟨⟨o2, hx2⟩, hB3, ⟨A5, n5, c5, rfl⟩, hb2, hkp⟩
 have hf2 := Yf hb2 0
 have k2' := (Yc hb2 0).trans rfl
 replace hx2 := Aside0.mk hx2
 replace hB3 := Aside0.mk (hB2.out.trans hB3)
 clear hb2 hkp
 go_wp2_with fail
 exact Z1k
theorem rdo_do (h : Rx w base gk gf T o vk vf m) (hw : wt m ≤ 1000000000) (n : Int) (back : Bool) :
 Calls Try.prog 76 #[.pointer (some ⟨gf, 0, none⟩), .int .i64 23, .int .i64 n, .bool back] w (XI base gk gf T (some { m with loops := m.loops ++ [n] }) w) := by
 obtain ⟨m', hm'⟩ : ∃ m', ({ m with loops := m.loops ++ [n] } : Mk) = m' := ⟨_, rfl⟩
 rw [hm']
 replace hm' := Aside0.mk hm'
 obtain ⟨A0, c0, A1, c1, A2, c2, A3, c3, A4, c4, rfl⟩ := h.fc
 have hla := Xf hw
 have k0 := h.f.cell 0 rfl
 have k1 := h.f.cell 1 rfl
 have k2 := h.f.cell 2 rfl
 have k3 := h.f.cell 3 rfl
 have hX := Aside0.mk h
 clear h
 go_enter Try.func76, Try.ntmps76
 go_wp2_with fail
 go_quiet (fail)
 have hB1 := Yn (Below.refl w.heap.size w) nq
 have h1 := hX.out.below hB1
 have hB2 := Aside0.mk (Below.mono hB1 hX.out.k.base_le)
 have hgb := hX.out.f.hb
 generalize w.drewN nq = w1 at h1 hB2 ⊢
 clear k0 k1 k2 k3 hB1 hX
 have k0 := h1.f.cell 0 rfl
 have k1 := h1.f.cell 1 rfl
 have k2 := h1.f.cell 2 rfl
 have k3 := h1.f.cell 3 rfl
 have k4 := h1.f.cell 4 rfl
 replace h1 := Aside0.mk h1
 go_wp2_with (at_builtin; refine h1.out.pushF (d := Kd.int .i64) (e := 3) (i := 2) m' rfl rfl n [.int .i64 n] Zl Zl ZG rfl Try.underlying53 YcP rfl Z1 Z1 rfl rfl rfl rfl rfl Z0 ?_)
 rintro v2 w2 ⟨⟨o2, hx2⟩, hB3, ⟨A5, n5, c5, rfl⟩, hb2, hkp⟩
 have hf2 := Yf hb2 2
 have k2' := (Yc hb2 2).trans rfl
 replace hx2 := Aside0.mk hx2
 replace hB3 := Aside0.mk (hB2.out.trans hB3)
 clear hb2 hkp
 go_wp2_with fail
 exact Z1k
theorem rdo_qdo (h : Rx w base gk gf T o vk vf m) (hw : wt m ≤ 1000000000) (n : Int) (back : Bool) :
 Calls Try.prog 76 #[.pointer (some ⟨gf, 0, none⟩), .int .i64 24, .int .i64 n, .bool back] w (XI base gk gf T (some { m with loops := m.loops ++ [n] }) w) := by
 obtain ⟨m', hm'⟩ : ∃ m', ({ m with loops := m.loops ++ [n] } : Mk) = m' := ⟨_, rfl⟩
 rw [hm']
 replace hm' := Aside0.mk hm'
 obtain ⟨A0, c0, A1, c1, A2, c2, A3, c3, A4, c4, rfl⟩ := h.fc
 have hla := Xf hw
 have k0 := h.f.cell 0 rfl
 have k1 := h.f.cell 1 rfl
 have k2 := h.f.cell 2 rfl
 have k3 := h.f.cell 3 rfl
 have hX := Aside0.mk h
 clear h
 go_enter Try.func76, Try.ntmps76
 go_wp2_with fail
 go_quiet (fail)
 have hB1 := Yn (Below.refl w.heap.size w) nq
 have h1 := hX.out.below hB1
 have hB2 := Aside0.mk (Below.mono hB1 hX.out.k.base_le)
 have hgb := hX.out.f.hb
 generalize w.drewN nq = w1 at h1 hB2 ⊢
 clear k0 k1 k2 k3 hB1 hX
 have k0 := h1.f.cell 0 rfl
 have k1 := h1.f.cell 1 rfl
 have k2 := h1.f.cell 2 rfl
 have k3 := h1.f.cell 3 rfl
 have k4 := h1.f.cell 4 rfl
 replace h1 := Aside0.mk h1
 go_wp2_with (at_builtin; refine h1.out.pushF (d := Kd.int .i64) (e := 3) (i := 2) m' rfl rfl n [.int .i64 n] Zl Zl ZG rfl Try.underlying53 YcP rfl Z1 Z1 rfl rfl rfl rfl rfl Z0 ?_)
 rintro v2 w2 ⟨⟨o2, hx2⟩, hB3, ⟨A5, n5, c5, rfl⟩, hb2, hkp⟩
 have hf2 := Yf hb2 2
 have k2' := (Yc hb2 2).trans rfl
 replace hx2 := Aside0.mk hx2
 replace hB3 := Aside0.mk (hB2.out.trans hB3)
 clear hb2 hkp
 go_wp2_with fail
 exact Z1k
theorem YeJ (h : Rx w base gk gf T o vk vf m) (hw : wt m ≤ 1000000000) (n : Int) (xs : List Int) (x : Int) (hx : m.dests = xs ++ [x]) :
 Calls Try.prog 76 #[.pointer (some ⟨gf, 0, none⟩), .int .i64 19, .int .i64 n, .bool true] w (XI base gk gf T (some { m with dests := xs, leads := m.leads ++ ([⟨n, x⟩] : List Ld) }) w) := by
 obtain ⟨m', hm'⟩ : ∃ m', ({ m with dests := xs, leads := m.leads ++ ([⟨n, x⟩] : List Ld) } : Mk) = m' := ⟨_, rfl⟩
 rw [hm']
 replace hm' := Aside0.mk hm'
 obtain ⟨A0, c0, A1, c1, A2, c2, A3, c3, A4, c4, rfl⟩ := h.fc
 have hla := Xf hw
 have k0 := h.f.cell 0 rfl
 have k1 := h.f.cell 1 rfl
 have k2 := h.f.cell 2 rfl
 have k3 := h.f.cell 3 rfl
 have hX := Aside0.mk h
 clear h
 have hln := hla.2.2.1
 have hl4 : m.leads.length ≤ 1000000000 := hla.2.2.2.2.1
 have hlen : m.dests.length = xs.length + 1 := by rw [hx]; simp
 rw [hlen] at k1 hX hln
 replace hlen := Aside0.mk hlen
 have hx' := Aside0.mk hx
 clear hx hla
 go_enter Try.func76, Try.ntmps76
 go_wp2_with fail
 go_quiet (fail)
 have hB1 := Yn (Below.refl w.heap.size w) nq
 have h1 := hX.out.below hB1
 have hB2 := Aside0.mk (Below.mono hB1 hX.out.k.base_le)
 have hgb := hX.out.f.hb
 generalize w.drewN nq = w1 at h1 hB2 ⊢
 clear k0 k1 k2 k3 hB1 hX
 have hF : (fF base m)[1]? = some (rowF (Kd.int .i64) 3 base (xs ++ [x])) := by rw [← hx'.out]; rfl
 have hR : Kd.R (Kd.int .i64) 3 w1 base (fun k => o k = 20 + 1 + 1) (.slice A1 (xs.length + 1) c1) (xs ++ [x]) := h1.f.row 1 _ _ rfl hF
 obtain ⟨-, hcap, hC⟩ := Kd.R_reads' hR
 obtain ⟨ge, cap, hv, hge, -, cells, hbk⟩ := Kd.R_form hR ZA
 rw [List.length_append, List.length_singleton] at hv
 cases hv
 obtain ⟨ad, e, g0⟩ := Kd.at_int hC (xs.length : Int) Z0 ZA
 cases e
 have hrd : rd (xs ++ [x]) (xs.length : Int) = x := by simp [rd, List.getD_eq_getElem?_getD]
 rw [hrd, Int.toNat_natCast] at g0
 have hog : o ge = 20 + 1 + 1 := hR.1 ge Zk
 have hadd : (⟨ge, 0, none⟩ : Addr).add xs.length = ⟨ge, xs.length, none⟩ := by rw [Yaf, Nat.zero_add]
 rw [hadd] at g0
 have e0 := Aside0.mk ((Yc hbk xs.length).symm.trans g0)
 replace hF := Aside0.mk hF
 clear hR hC hrd hadd
 have k0 := h1.f.cell 0 rfl
 have k1 := h1.f.cell 1 rfl
 have k2 := h1.f.cell 2 rfl
 have k3 := h1.f.cell 3 rfl
 have k4 := h1.f.cell 4 rfl
 replace h1 := Aside0.mk h1
 go_upto_region 12 with (fail)
 have hBd : Below w1.heap.size w1 w1.drew := YM (Below.refl _ _)
 have h2 := h1.out.below hBd
 have hB3 := hB2.out.trans (Below.mono hBd h1.out.k.base_le)
 have hp0 : (0 : Int) ≤ (xs.length : Int) := by omega
 have hp1 : (xs.length : Int) < (xs.length : Int) + 1 := by omega
 refine VS (ds := [18]) (S := fun w' => w'.cell? ⟨gf, 4, none⟩ = some (.slice A4 m.leads.length c4) ∧ w'.cell? ⟨gf, 1, none⟩ = some (.slice (some ⟨ge, 0, none⟩) (xs.length + 1) c1) ∧ w'.cell? ⟨ge, xs.length, none⟩ = some (.int .i64 x)) Z2 rfl rfl ⟨k4, k1, g0⟩ (fun tb hS => ?_)
 have hbk2 := Xq hbk
 generalize w1.drew = wd at h2 hB3 hS hbk2 ⊢
 replace h2 := Aside0.mk h2
 clear k0 k1 k2 k3 k4 g0 h1 hBd hbk
 refine seg_ [(0, 108), (1, 109), (2, 110), (3, 111), (4, 112), (5, 113), (6, 114), (7, 115), (8, 116), (9, 117), (10, 118), (11, 119), (12, 120), (13, 121)] tb hS Z2 (fun _ _ _ _ h => h) (a' := ?_) ?_ ?_
 rotate_left
 ·repeat (first | exact Seg.nil | (refine Seg.on (v := ?_) (a1 := ?_) rfl rfl Z4 ?_ ?_ ?_; rotate_left 2; (rintro w' hS; go_split_ands; go_simp; with_reducible rfl); (simp only [Act.put, List.setIfInBounds_toArray, List.set_cons_zero, List.set_cons_succ, Yy, YA]; rfl)))
 refine eff_ 14 tb rfl Z2 ?_
 go_wp2_with fail
 refine ql_ ⟨⟨(h2.out.alloc _).f.cell 4 rfl, (h2.out.alloc _).f.cell 1 rfl, (Yc (YZ hbk2 _) _).trans e0.out⟩, fun hS => ?_⟩
 refine eff_ 15 tb rfl Z2 ?_
 refine h2.out.pushF (d := k77) (e := 77) (i := 4) { m with leads := m.leads ++ ([⟨n, x⟩] : List Ld) } rfl rfl (⟨n, x⟩ : S77) [.int .i64 n, .int .i64 x] rfl rfl rfl rfl Try.underlying71 YaL rfl Z1 Z1 rfl rfl rfl rfl (VW _ _ _ _) Z0 ?_
 rintro v2 w2 ⟨⟨o2, hx2⟩, hB4, ⟨A5, n5, c5, rfl⟩, hb2, hkp⟩
 have hf2 := Yf hb2 4
 have k2' := (Yc hb2 4).trans rfl
 have hbk4 := (hkp ge (Vw hbk2) ZV).trans hbk2
 refine ql_ ⟨⟨k2', (Yc hb2 1).trans rfl, (Yc hbk4 _).trans e0.out⟩, fun hS => ?_⟩
 refine seg_ [(16, 124), (17, 125)] tb hS Z2 (fun _ _ _ _ h => h) (a' := ?_) ?_ ?_
 rotate_left
 ·repeat (first | exact Seg.nil | (refine Seg.on (v := ?_) (a1 := ?_) rfl rfl Z4 ?_ ?_ ?_; rotate_left 2; (rintro w' hS; go_split_ands; go_simp; with_reducible rfl); (simp only [Act.put, List.setIfInBounds_toArray, List.set_cons_zero, List.set_cons_succ, Yy, YA]; rfl)))
 refine UI 18 tb rfl Z2 ?_
 go_wp2_with fail
 refine ql_ (end_ tb Z2 ?_)
 have hB5 := Aside0.mk (hB3.trans hB4)
 have h3 := hx2.popF (xs := xs) (x := x) (d := Kd.int .i64) (e := 3) (i := 1) m' rfl hF.out Zl Zl ZG
 have hB6 := Aside0.mk (hB5.out.setCell (p := ⟨gf, 1, none⟩) hgb (.slice (some ⟨ge, 0, none⟩) xs.length c1))
 have k3' := hx2.f.cell 1 rfl
 have f3' := hx2.f.free 1
 replace h3 := Aside0.mk h3
 clear hx2 hf2 k2' hb2 hS hB4 hkp hbk4
 generalize w2.setCell ⟨gf, 4, none⟩ (.slice A5 n5 c5) = w3 at h3 hB5 hB6 k3' f3' ⊢
 have hp2 : (xs.length : Int) ≤ (c1 : Int) := by omega
 have hp3 : ((xs.length : Int) = (c1 : Int)) = False := eq_false Z0
 go_wp2_with fail
 exact Z1l
theorem YeI (h : Rx w base gk gf T o vk vf m) (hw : wt m ≤ 1000000000) (n : Int) (xs : List Int) (x : Int) (hx : m.dests = xs ++ [x]) :
 Calls Try.prog 76 #[.pointer (some ⟨gf, 0, none⟩), .int .i64 20, .int .i64 n, .bool true] w (XI base gk gf T (some { m with dests := xs, leads := m.leads ++ ([⟨n, x⟩] : List Ld) }) w) := by
 obtain ⟨m', hm'⟩ : ∃ m', ({ m with dests := xs, leads := m.leads ++ ([⟨n, x⟩] : List Ld) } : Mk) = m' := ⟨_, rfl⟩
 rw [hm']
 replace hm' := Aside0.mk hm'
 obtain ⟨A0, c0, A1, c1, A2, c2, A3, c3, A4, c4, rfl⟩ := h.fc
 have hla := Xf hw
 have k0 := h.f.cell 0 rfl
 have k1 := h.f.cell 1 rfl
 have k2 := h.f.cell 2 rfl
 have k3 := h.f.cell 3 rfl
 have hX := Aside0.mk h
 clear h
 have hln := hla.2.2.1
 have hl4 : m.leads.length ≤ 1000000000 := hla.2.2.2.2.1
 have hlen : m.dests.length = xs.length + 1 := by rw [hx]; simp
 rw [hlen] at k1 hX hln
 replace hlen := Aside0.mk hlen
 have hx' := Aside0.mk hx
 clear hx hla
 go_enter Try.func76, Try.ntmps76
 go_wp2_with fail
 go_quiet (fail)
 have hB1 := Yn (Below.refl w.heap.size w) nq
 have h1 := hX.out.below hB1
 have hB2 := Aside0.mk (Below.mono hB1 hX.out.k.base_le)
 have hgb := hX.out.f.hb
 generalize w.drewN nq = w1 at h1 hB2 ⊢
 clear k0 k1 k2 k3 hB1 hX
 have hF : (fF base m)[1]? = some (rowF (Kd.int .i64) 3 base (xs ++ [x])) := by rw [← hx'.out]; rfl
 have hR : Kd.R (Kd.int .i64) 3 w1 base (fun k => o k = 20 + 1 + 1) (.slice A1 (xs.length + 1) c1) (xs ++ [x]) := h1.f.row 1 _ _ rfl hF
 obtain ⟨-, hcap, hC⟩ := Kd.R_reads' hR
 obtain ⟨ge, cap, hv, hge, -, cells, hbk⟩ := Kd.R_form hR ZA
 rw [List.length_append, List.length_singleton] at hv
 cases hv
 obtain ⟨ad, e, g0⟩ := Kd.at_int hC (xs.length : Int) Z0 ZA
 cases e
 have hrd : rd (xs ++ [x]) (xs.length : Int) = x := by simp [rd, List.getD_eq_getElem?_getD]
 rw [hrd, Int.toNat_natCast] at g0
 have hog : o ge = 20 + 1 + 1 := hR.1 ge Zk
 have hadd : (⟨ge, 0, none⟩ : Addr).add xs.length = ⟨ge, xs.length, none⟩ := by rw [Yaf, Nat.zero_add]
 rw [hadd] at g0
 have e0 := Aside0.mk ((Yc hbk xs.length).symm.trans g0)
 replace hF := Aside0.mk hF
 clear hR hC hrd hadd
 have k0 := h1.f.cell 0 rfl
 have k1 := h1.f.cell 1 rfl
 have k2 := h1.f.cell 2 rfl
 have k3 := h1.f.cell 3 rfl
 have k4 := h1.f.cell 4 rfl
 replace h1 := Aside0.mk h1
 go_upto_region 12 with (fail)
 have hBd : Below w1.heap.size w1 w1.drew := YM (Below.refl _ _)
 have h2 := h1.out.below hBd
 have hB3 := hB2.out.trans (Below.mono hBd h1.out.k.base_le)
 have hp0 : (0 : Int) ≤ (xs.length : Int) := by omega
 have hp1 : (xs.length : Int) < (xs.length : Int) + 1 := by omega
 refine VS (ds := [18]) (S := fun w' => w'.cell? ⟨gf, 4, none⟩ = some (.slice A4 m.leads.length c4) ∧ w'.cell? ⟨gf, 1, none⟩ = some (.slice (some ⟨ge, 0, none⟩) (xs.length + 1) c1) ∧ w'.cell? ⟨ge, xs.length, none⟩ = some (.int .i64 x)) Z2 rfl rfl ⟨k4, k1, g0⟩ (fun tb hS => ?_)
 have hbk2 := Xq hbk
 generalize w1.drew = wd at h2 hB3 hS hbk2 ⊢
 replace h2 := Aside0.mk h2
 clear k0 k1 k2 k3 k4 g0 h1 hBd hbk
 refine seg_ [(0, 108), (1, 109), (2, 110), (3, 111), (4, 112), (5, 113), (6, 114), (7, 115), (8, 116), (9, 117), (10, 118), (11, 119), (12, 120), (13, 121)] tb hS Z2 (fun _ _ _ _ h => h) (a' := ?_) ?_ ?_
 rotate_left
 ·repeat (first | exact Seg.nil | (refine Seg.on (v := ?_) (a1 := ?_) rfl rfl Z4 ?_ ?_ ?_; rotate_left 2; (rintro w' hS; go_split_ands; go_simp; with_reducible rfl); (simp only [Act.put, List.setIfInBounds_toArray, List.set_cons_zero, List.set_cons_succ, Yy, YA]; rfl)))
 refine eff_ 14 tb rfl Z2 ?_
 go_wp2_with fail
 refine ql_ ⟨⟨(h2.out.alloc _).f.cell 4 rfl, (h2.out.alloc _).f.cell 1 rfl, (Yc (YZ hbk2 _) _).trans e0.out⟩, fun hS => ?_⟩
 refine eff_ 15 tb rfl Z2 ?_
 refine h2.out.pushF (d := k77) (e := 77) (i := 4) { m with leads := m.leads ++ ([⟨n, x⟩] : List Ld) } rfl rfl (⟨n, x⟩ : S77) [.int .i64 n, .int .i64 x] rfl rfl rfl rfl Try.underlying71 YaL rfl Z1 Z1 rfl rfl rfl rfl (VW _ _ _ _) Z0 ?_
 rintro v2 w2 ⟨⟨o2, hx2⟩, hB4, ⟨A5, n5, c5, rfl⟩, hb2, hkp⟩
 have hf2 := Yf hb2 4
 have k2' := (Yc hb2 4).trans rfl
 have hbk4 := (hkp ge (Vw hbk2) ZV).trans hbk2
 refine ql_ ⟨⟨k2', (Yc hb2 1).trans rfl, (Yc hbk4 _).trans e0.out⟩, fun hS => ?_⟩
 refine seg_ [(16, 124), (17, 125)] tb hS Z2 (fun _ _ _ _ h => h) (a' := ?_) ?_ ?_
 rotate_left
 ·repeat (first | exact Seg.nil | (refine Seg.on (v := ?_) (a1 := ?_) rfl rfl Z4 ?_ ?_ ?_; rotate_left 2; (rintro w' hS; go_split_ands; go_simp; with_reducible rfl); (simp only [Act.put, List.setIfInBounds_toArray, List.set_cons_zero, List.set_cons_succ, Yy, YA]; rfl)))
 refine UI 18 tb rfl Z2 ?_
 go_wp2_with fail
 refine ql_ (end_ tb Z2 ?_)
 have hB5 := Aside0.mk (hB3.trans hB4)
 have h3 := hx2.popF (xs := xs) (x := x) (d := Kd.int .i64) (e := 3) (i := 1) m' rfl hF.out Zl Zl ZG
 have hB6 := Aside0.mk (hB5.out.setCell (p := ⟨gf, 1, none⟩) hgb (.slice (some ⟨ge, 0, none⟩) xs.length c1))
 have k3' := hx2.f.cell 1 rfl
 have f3' := hx2.f.free 1
 replace h3 := Aside0.mk h3
 clear hx2 hf2 k2' hb2 hS hB4 hkp hbk4
 generalize w2.setCell ⟨gf, 4, none⟩ (.slice A5 n5 c5) = w3 at h3 hB5 hB6 k3' f3' ⊢
 have hp2 : (xs.length : Int) ≤ (c1 : Int) := by omega
 have hp3 : ((xs.length : Int) = (c1 : Int)) = False := eq_false Z0
 go_wp2_with fail
 exact Z1l
theorem YaD (h : Rx w base gk gf T o vk vf m) (hw : wt m ≤ 1000000000) (n : Int) (hx : m.dests = []) :
 Calls Try.prog 76 #[.pointer (some ⟨gf, 0, none⟩), .int .i64 19, .int .i64 n, .bool true] w (XI base gk gf T none w) := by
 obtain ⟨A0, c0, A1, c1, A2, c2, A3, c3, A4, c4, rfl⟩ := h.fc
 have hla := Xf hw
 have k0 := h.f.cell 0 rfl
 have k1 := h.f.cell 1 rfl
 have k2 := h.f.cell 2 rfl
 have k3 := h.f.cell 3 rfl
 have hX := Aside0.mk h
 clear h
 have hlen : m.dests.length = 0 := by rw [hx]; rfl
 rw [hlen] at k1 hX
 clear hlen hx
 go_enter Try.func76, Try.ntmps76
 go_wp2_with fail
 go_quiet (fail)
 have hB1 := Yn (Below.refl w.heap.size w) nq
 have h1 := hX.out.below hB1
 have hB2 := Aside0.mk (Below.mono hB1 hX.out.k.base_le)
 have hgb := hX.out.f.hb
 generalize w.drewN nq = w1 at h1 hB2 ⊢
 clear k0 k1 k2 k3 hB1 hX
 have k0 := h1.f.cell 0 rfl
 have k1 := h1.f.cell 1 rfl
 have k2 := h1.f.cell 2 rfl
 have k3 := h1.f.cell 3 rfl
 have k4 := h1.f.cell 4 rfl
 replace h1 := Aside0.mk h1
 go_wp2_with fail
 exact Zy
theorem YaC (h : Rx w base gk gf T o vk vf m) (hw : wt m ≤ 1000000000) (n : Int) (hx : m.dests = []) :
 Calls Try.prog 76 #[.pointer (some ⟨gf, 0, none⟩), .int .i64 20, .int .i64 n, .bool true] w (XI base gk gf T none w) := by
 obtain ⟨A0, c0, A1, c1, A2, c2, A3, c3, A4, c4, rfl⟩ := h.fc
 have hla := Xf hw
 have k0 := h.f.cell 0 rfl
 have k1 := h.f.cell 1 rfl
 have k2 := h.f.cell 2 rfl
 have k3 := h.f.cell 3 rfl
 have hX := Aside0.mk h
 clear h
 have hlen : m.dests.length = 0 := by rw [hx]; rfl
 rw [hlen] at k1 hX
 clear hlen hx
 go_enter Try.func76, Try.ntmps76
 go_wp2_with fail
 go_quiet (fail)
 have hB1 := Yn (Below.refl w.heap.size w) nq
 have h1 := hX.out.below hB1
 have hB2 := Aside0.mk (Below.mono hB1 hX.out.k.base_le)
 have hgb := hX.out.f.hb
 generalize w.drewN nq = w1 at h1 hB2 ⊢
 clear k0 k1 k2 k3 hB1 hX
 have k0 := h1.f.cell 0 rfl
 have k1 := h1.f.cell 1 rfl
 have k2 := h1.f.cell 2 rfl
 have k3 := h1.f.cell 3 rfl
 have k4 := h1.f.cell 4 rfl
 replace h1 := Aside0.mk h1
 go_wp2_with fail
 exact Zy
end
section
variable {w : World} {base gk gf : Nat} {T : Tx} {o : Nat → Nat} {vk vf : List Value} {m : Mk}
theorem rdo_then (h : Rx w base gk gf T o vk vf m) (hw : wt m ≤ 1000000000) (n : Int) (back : Bool) (xs : List Int) (x : Int) (hx : m.origs = xs ++ [x]) :
 Calls Try.prog 76 #[.pointer (some ⟨gf, 0, none⟩), .int .i64 178, .int .i64 n, .bool back] w (XI base gk gf T (some { m with origs := xs, leads := m.leads ++ ([⟨x, n⟩] : List Ld) }) w) := by
 obtain ⟨m', hm'⟩ : ∃ m', ({ m with origs := xs, leads := m.leads ++ ([⟨x, n⟩] : List Ld) } : Mk) = m' := ⟨_, rfl⟩
 rw [hm']
 replace hm' := Aside0.mk hm'
 obtain ⟨A0, c0, A1, c1, A2, c2, A3, c3, A4, c4, rfl⟩ := h.fc
 have hla := Xf hw
 have k0 := h.f.cell 0 rfl
 have k1 := h.f.cell 1 rfl
 have k2 := h.f.cell 2 rfl
 have k3 := h.f.cell 3 rfl
 have hX := Aside0.mk h
 clear h
 have hln := hla.2.1
 have hl4 : m.leads.length ≤ 1000000000 := hla.2.2.2.2.1
 have hlen : m.origs.length = xs.length + 1 := by rw [hx]; simp
 rw [hlen] at k0 hX hln
 replace hlen := Aside0.mk hlen
 have hx' := Aside0.mk hx
 clear hx hla
 go_enter Try.func76, Try.ntmps76
 go_wp2_with fail
 go_quiet (fail)
 have hB1 := Yn (Below.refl w.heap.size w) nq
 have h1 := hX.out.below hB1
 have hB2 := Aside0.mk (Below.mono hB1 hX.out.k.base_le)
 have hgb := hX.out.f.hb
 generalize w.drewN nq = w1 at h1 hB2 ⊢
 clear k0 k1 k2 k3 hB1 hX
 have hF : (fF base m)[0]? = some (rowF (Kd.int .i64) 3 base (xs ++ [x])) := by rw [← hx'.out]; rfl
 have hR : Kd.R (Kd.int .i64) 3 w1 base (fun k => o k = 20 + 1 + 0) (.slice A0 (xs.length + 1) c0) (xs ++ [x]) := h1.f.row 0 _ _ rfl hF
 obtain ⟨-, hcap, hC⟩ := Kd.R_reads' hR
 obtain ⟨ge, cap, hv, hge, -, cells, hbk⟩ := Kd.R_form hR ZA
 rw [List.length_append, List.length_singleton] at hv
 cases hv
 obtain ⟨ad, e, g0⟩ := Kd.at_int hC (xs.length : Int) Z0 ZA
 cases e
 have hrd : rd (xs ++ [x]) (xs.length : Int) = x := by simp [rd, List.getD_eq_getElem?_getD]
 rw [hrd, Int.toNat_natCast] at g0
 have hog : o ge = 20 + 1 + 0 := hR.1 ge Zk
 have hadd : (⟨ge, 0, none⟩ : Addr).add xs.length = ⟨ge, xs.length, none⟩ := by rw [Yaf, Nat.zero_add]
 rw [hadd] at g0
 have e0 := Aside0.mk ((Yc hbk xs.length).symm.trans g0)
 replace hF := Aside0.mk hF
 clear hR hC hrd hadd
 have k0 := h1.f.cell 0 rfl
 have k1 := h1.f.cell 1 rfl
 have k2 := h1.f.cell 2 rfl
 have k3 := h1.f.cell 3 rfl
 have k4 := h1.f.cell 4 rfl
 replace h1 := Aside0.mk h1
 go_upto_region 25 with (fail)
 have hBd : Below w1.heap.size w1 w1.drew := YM (Below.refl _ _)
 have h2 := h1.out.below hBd
 have hB3 := hB2.out.trans (Below.mono hBd h1.out.k.base_le)
 have hp0 : (0 : Int) ≤ (xs.length : Int) := by omega
 have hp1 : (xs.length : Int) < (xs.length : Int) + 1 := by omega
 refine VS (ds := [18]) (S := fun w' => w'.cell? ⟨gf, 4, none⟩ = some (.slice A4 m.leads.length c4) ∧ w'.cell? ⟨gf, 0, none⟩ = some (.slice (some ⟨ge, 0, none⟩) (xs.length + 1) c0) ∧ w'.cell? ⟨ge, xs.length, none⟩ = some (.int .i64 x)) Z2 rfl rfl ⟨k4, k0, g0⟩ (fun tb hS => ?_)
 have hbk2 := Xq hbk
 generalize w1.drew = wd at h2 hB3 hS hbk2 ⊢
 replace h2 := Aside0.mk h2
 clear k0 k1 k2 k3 k4 g0 h1 hBd hbk
 refine seg_ [(0, 182), (1, 183), (2, 184), (3, 185), (4, 186), (5, 187), (6, 188), (7, 189), (8, 190), (9, 191), (10, 192), (11, 193), (12, 194), (13, 195)] tb hS Z2 (fun _ _ _ _ h => h) (a' := ?_) ?_ ?_
 rotate_left
 ·repeat (first | exact Seg.nil | (refine Seg.on (v := ?_) (a1 := ?_) rfl rfl Z4 ?_ ?_ ?_; rotate_left 2; (rintro w' hS; go_split_ands; go_simp; with_reducible rfl); (simp only [Act.put, List.setIfInBounds_toArray, List.set_cons_zero, List.set_cons_succ, Yy, YA]; rfl)))
 refine eff_ 14 tb rfl Z2 ?_
 go_wp2_with fail
 refine ql_ ⟨⟨(h2.out.alloc _).f.cell 4 rfl, (h2.out.alloc _).f.cell 0 rfl, (Yc (YZ hbk2 _) _).trans e0.out⟩, fun hS => ?_⟩
 refine eff_ 15 tb rfl Z2 ?_
 refine h2.out.pushF (d := k77) (e := 77) (i := 4) { m with leads := m.leads ++ ([⟨x, n⟩] : List Ld) } rfl rfl (⟨x, n⟩ : S77) [.int .i64 x, .int .i64 n] rfl rfl rfl rfl Try.underlying71 YaL rfl Z1 Z1 rfl rfl rfl rfl (VW _ _ _ _) Z0 ?_
 rintro v2 w2 ⟨⟨o2, hx2⟩, hB4, ⟨A5, n5, c5, rfl⟩, hb2, hkp⟩
 have hf2 := Yf hb2 4
 have k2' := (Yc hb2 4).trans rfl
 have hbk4 := (hkp ge (Vw hbk2) ZV).trans hbk2
 refine ql_ ⟨⟨k2', (Yc hb2 0).trans rfl, (Yc hbk4 _).trans e0.out⟩, fun hS => ?_⟩
 refine seg_ [(16, 198), (17, 199)] tb hS Z2 (fun _ _ _ _ h => h) (a' := ?_) ?_ ?_
 rotate_left
 ·repeat (first | exact Seg.nil | (refine Seg.on (v := ?_) (a1 := ?_) rfl rfl Z4 ?_ ?_ ?_; rotate_left 2; (rintro w' hS; go_split_ands; go_simp; with_reducible rfl); (simp only [Act.put, List.setIfInBounds_toArray, List.set_cons_zero, List.set_cons_succ, Yy, YA]; rfl)))
 refine UI 18 tb rfl Z2 ?_
 go_wp2_with fail
 refine ql_ (end_ tb Z2 ?_)
 have hB5 := Aside0.mk (hB3.trans hB4)
 have h3 := hx2.popF (xs := xs) (x := x) (d := Kd.int .i64) (e := 3) (i := 0) m' rfl hF.out Zl Zl ZG
 have hB6 := Aside0.mk (hB5.out.setCell (p := ⟨gf, 0, none⟩) hgb (.slice (some ⟨ge, 0, none⟩) xs.length c0))
 have k3' := hx2.f.cell 0 rfl
 have f3' := hx2.f.free 0
 replace h3 := Aside0.mk h3
 clear hx2 hf2 k2' hb2 hS hB4 hkp hbk4
 generalize w2.setCell ⟨gf, 4, none⟩ (.slice A5 n5 c5) = w3 at h3 hB5 hB6 k3' f3' ⊢
 have hp2 : (xs.length : Int) ≤ (c0 : Int) := by omega
 have hp3 : ((xs.length : Int) = (c0 : Int)) = False := eq_false Z0
 go_wp2_with fail
 exact Z1l
theorem YbJ (h : Rx w base gk gf T o vk vf m) (hw : wt m ≤ 1000000000) (n : Int) (back : Bool) (hx : m.origs = []) :
 Calls Try.prog 76 #[.pointer (some ⟨gf, 0, none⟩), .int .i64 178, .int .i64 n, .bool back] w (XI base gk gf T none w) := by
 obtain ⟨A0, c0, A1, c1, A2, c2, A3, c3, A4, c4, rfl⟩ := h.fc
 have hla := Xf hw
 have k0 := h.f.cell 0 rfl
 have k1 := h.f.cell 1 rfl
 have k2 := h.f.cell 2 rfl
 have k3 := h.f.cell 3 rfl
 have hX := Aside0.mk h
 clear h
 have hlen : m.origs.length = 0 := by rw [hx]; rfl
 rw [hlen] at k0 hX
 clear hlen hx
 go_enter Try.func76, Try.ntmps76
 go_wp2_with fail
 go_quiet (fail)
 have hB1 := Yn (Below.refl w.heap.size w) nq
 have h1 := hX.out.below hB1
 have hB2 := Aside0.mk (Below.mono hB1 hX.out.k.base_le)
 have hgb := hX.out.f.hb
 generalize w.drewN nq = w1 at h1 hB2 ⊢
 clear k0 k1 k2 k3 hB1 hX
 have k0 := h1.f.cell 0 rfl
 have k1 := h1.f.cell 1 rfl
 have k2 := h1.f.cell 2 rfl
 have k3 := h1.f.cell 3 rfl
 have k4 := h1.f.cell 4 rfl
 replace h1 := Aside0.mk h1
 go_wp2_with fail
 exact Zy
theorem YbN (h : Rx w base gk gf T o vk vf m) (hw : wt m ≤ 1000000000) (n : Int) (hx : m.origs = []) :
 Calls Try.prog 76 #[.pointer (some ⟨gf, 0, none⟩), .int .i64 19, .int .i64 n, .bool false] w (XI base gk gf T none w) := by
 obtain ⟨A0, c0, A1, c1, A2, c2, A3, c3, A4, c4, rfl⟩ := h.fc
 have hla := Xf hw
 have k0 := h.f.cell 0 rfl
 have k1 := h.f.cell 1 rfl
 have k2 := h.f.cell 2 rfl
 have k3 := h.f.cell 3 rfl
 have hX := Aside0.mk h
 clear h
 have hlen : m.origs.length = 0 := by rw [hx]; rfl
 rw [hlen] at k0 hX
 clear hlen hx
 go_enter Try.func76, Try.ntmps76
 go_wp2_with fail
 go_quiet (fail)
 have hB1 := Yn (Below.refl w.heap.size w) nq
 have h1 := hX.out.below hB1
 have hB2 := Aside0.mk (Below.mono hB1 hX.out.k.base_le)
 have hgb := hX.out.f.hb
 generalize w.drewN nq = w1 at h1 hB2 ⊢
 clear k0 k1 k2 k3 hB1 hX
 have k0 := h1.f.cell 0 rfl
 have k1 := h1.f.cell 1 rfl
 have k2 := h1.f.cell 2 rfl
 have k3 := h1.f.cell 3 rfl
 have k4 := h1.f.cell 4 rfl
 replace h1 := Aside0.mk h1
 go_wp2_with fail
 exact Zy
theorem rdo_loop (h : Rx w base gk gf T o vk vf m) (hw : wt m ≤ 1000000000) (n : Int) (back : Bool) (xs : List Int) (x : Int) (hx : m.loops = xs ++ [x]) :
 Calls Try.prog 76 #[.pointer (some ⟨gf, 0, none⟩), .int .i64 21, .int .i64 n, .bool back] w (XI base gk gf T (some { m with loops := xs, leads := m.leads ++ ([⟨n, x⟩, ⟨x, n⟩] : List Ld) }) w) := by
 obtain ⟨m', hm'⟩ : ∃ m', ({ m with loops := xs, leads := m.leads ++ ([⟨n, x⟩, ⟨x, n⟩] : List Ld) } : Mk) = m' := ⟨_, rfl⟩
 rw [hm']
 replace hm' := Aside0.mk hm'
 obtain ⟨A0, c0, A1, c1, A2, c2, A3, c3, A4, c4, rfl⟩ := h.fc
 have hla := Xf hw
 have k0 := h.f.cell 0 rfl
 have k1 := h.f.cell 1 rfl
 have k2 := h.f.cell 2 rfl
 have k3 := h.f.cell 3 rfl
 have hX := Aside0.mk h
 clear h
 have hln := hla.2.2.2.1
 have hl4 : m.leads.length ≤ 1000000000 := hla.2.2.2.2.1
 have hlen : m.loops.length = xs.length + 1 := by rw [hx]; simp
 rw [hlen] at k2 hX hln
 replace hlen := Aside0.mk hlen
 have hx' := Aside0.mk hx
 clear hx hla
 go_enter Try.func76, Try.ntmps76
 go_wp2_with fail
 go_quiet (fail)
 have hB1 := Yn (Below.refl w.heap.size w) nq
 have h1 := hX.out.below hB1
 have hB2 := Aside0.mk (Below.mono hB1 hX.out.k.base_le)
 have hgb := hX.out.f.hb
 generalize w.drewN nq = w1 at h1 hB2 ⊢
 clear k0 k1 k2 k3 hB1 hX
 have hF : (fF base m)[2]? = some (rowF (Kd.int .i64) 3 base (xs ++ [x])) := by rw [← hx'.out]; rfl
 have hR : Kd.R (Kd.int .i64) 3 w1 base (fun k => o k = 20 + 1 + 2) (.slice A2 (xs.length + 1) c2) (xs ++ [x]) := h1.f.row 2 _ _ rfl hF
 obtain ⟨-, hcap, hC⟩ := Kd.R_reads' hR
 obtain ⟨ge, cap, hv, hge, -, cells, hbk⟩ := Kd.R_form hR ZA
 rw [List.length_append, List.length_singleton] at hv
 cases hv
 obtain ⟨ad, e, g0⟩ := Kd.at_int hC (xs.length : Int) Z0 ZA
 cases e
 have hrd : rd (xs ++ [x]) (xs.length : Int) = x := by simp [rd, List.getD_eq_getElem?_getD]
 rw [hrd, Int.toNat_natCast] at g0
 have hog : o ge = 20 + 1 + 2 := hR.1 ge Zk
 have hadd : (⟨ge, 0, none⟩ : Addr).add xs.length = ⟨ge, xs.length, none⟩ := by rw [Yaf, Nat.zero_add]
 rw [hadd] at g0
 have e0 := Aside0.mk ((Yc hbk xs.length).symm.trans g0)
 replace hF := Aside0.mk hF
 clear hR hC hrd hadd
 have k0 := h1.f.cell 0 rfl
 have k1 := h1.f.cell 1 rfl
 have k2 := h1.f.cell 2 rfl
 have k3 := h1.f.cell 3 rfl
 have k4 := h1.f.cell 4 rfl
 replace h1 := Aside0.mk h1
 go_upto_region 32 with (fail)
 have hBd : Below w1.heap.size w1 w1.drew := YM (Below.refl _ _)
 have h2 := h1.out.below hBd
 have hB3 := hB2.out.trans (Below.mono hBd h1.out.k.base_le)
 have hp0 : (0 : Int) ≤ (xs.length : Int) := by omega
 have hp1 : (xs.length : Int) < (xs.length : Int) + 1 := by omega
 refine VS (ds := [27]) (S := fun w' => w'.cell? ⟨gf, 4, none⟩ = some (.slice A4 m.leads.length c4) ∧ w'.cell? ⟨gf, 2, none⟩ = some (.slice (some ⟨ge, 0, none⟩) (xs.length + 1) c2) ∧ w'.cell? ⟨ge, xs.length, none⟩ = some (.int .i64 x)) Z2 rfl rfl ⟨k4, k2, g0⟩ (fun tb hS => ?_)
 have hbk2 := Xq hbk
 generalize w1.drew = wd at h2 hB3 hS hbk2 ⊢
 replace h2 := Aside0.mk h2
 clear k0 k1 k2 k3 k4 g0 h1 hBd hbk
 refine seg_ [(0, 235), (1, 236), (2, 237), (3, 238), (4, 239), (5, 240), (6, 241), (7, 242), (8, 243), (9, 244), (10, 245), (11, 246), (12, 247), (13, 248), (14, 249), (15, 250), (16, 251), (17, 252), (18, 253), (19, 254), (20, 255), (21, 256), (22, 257)] tb hS Z2 (fun _ _ _ _ h => h) (a' := ?_) ?_ ?_
 rotate_left
 ·repeat (first | exact Seg.nil | (refine Seg.on (v := ?_) (a1 := ?_) rfl rfl Z4 ?_ ?_ ?_; rotate_left 2; (rintro w' hS; go_split_ands; go_simp; with_reducible rfl); (simp only [Act.put, List.setIfInBounds_toArray, List.set_cons_zero, List.set_cons_succ, Yy, YA]; rfl)))
 refine eff_ 23 tb rfl Z2 ?_
 go_wp2_with fail
 refine ql_ ⟨⟨(h2.out.alloc _).f.cell 4 rfl, (h2.out.alloc _).f.cell 2 rfl, (Yc (YZ hbk2 _) _).trans e0.out⟩, fun hS => ?_⟩
 refine eff_ 24 tb rfl Z2 ?_
 have hLC := YeQ k77 77 wd [(⟨n, x⟩ : S77), ⟨x, n⟩] [.int .i64 n, .int .i64 x, .int .i64 x, .int .i64 n] Z6 (Yd0 _ _ _)
 have hBa := Yl (Below.refl wd.heap.size wd) (.cells #[.int .i64 n, .int .i64 x, .int .i64 x, .int .i64 n] 77)
 refine (h2.out.below hBa).pushFN (d := k77) (e := 77) (i := 4) { m with leads := m.leads ++ ([⟨n, x⟩, ⟨x, n⟩] : List Ld) } rfl rfl [(⟨n, x⟩ : S77), ⟨x, n⟩] rfl rfl rfl Try.underlying71 YaL rfl Z1 Z1 rfl rfl rfl rfl hLC (fun x cs h => by rw [JD h]; exact VW _ _ _ _) Z0 ?_
 rintro v2 w2 ⟨⟨o2, hx2⟩, hB4, ⟨A5, n5, c5, rfl⟩, hb2, hkp⟩
 have hf2 := Yf hb2 4
 have k2' := (Yc hb2 4).trans rfl
 have hbk4 := (hkp ge (Vw (YZ hbk2 _)) ZV).trans (YZ hbk2 _)
 refine ql_ ⟨⟨k2', (Yc hb2 2).trans rfl, (Yc hbk4 _).trans e0.out⟩, fun hS => ?_⟩
 refine seg_ [(25, 260), (26, 261)] tb hS Z2 (fun _ _ _ _ h => h) (a' := ?_) ?_ ?_
 rotate_left
 ·repeat (first | exact Seg.nil | (refine Seg.on (v := ?_) (a1 := ?_) rfl rfl Z4 ?_ ?_ ?_; rotate_left 2; (rintro w' hS; go_split_ands; go_simp; with_reducible rfl); (simp only [Act.put, List.setIfInBounds_toArray, List.set_cons_zero, List.set_cons_succ, Yy, YA]; rfl)))
 refine UI 27 tb rfl Z2 ?_
 go_wp2_with fail
 refine ql_ (end_ tb Z2 ?_)
 have hB5 := Aside0.mk (hB3.trans ((Below.mono hBa h2.out.k.base_le).trans hB4))
 have h3 := hx2.popF (xs := xs) (x := x) (d := Kd.int .i64) (e := 3) (i := 2) m' rfl hF.out Zl Zl ZG
 have hB6 := Aside0.mk (hB5.out.setCell (p := ⟨gf, 2, none⟩) hgb (.slice (some ⟨ge, 0, none⟩) xs.length c2))
 have k3' := hx2.f.cell 2 rfl
 have f3' := hx2.f.free 2
 replace h3 := Aside0.mk h3
 clear hx2 hf2 k2' hb2 hS hB4 hkp hbk4
 generalize w2.setCell ⟨gf, 4, none⟩ (.slice A5 n5 c5) = w3 at h3 hB5 hB6 k3' f3' ⊢
 have hp2 : (xs.length : Int) ≤ (c2 : Int) := by omega
 have hp3 : ((xs.length : Int) = (c2 : Int)) = False := eq_false Z0
 go_wp2_with fail
 exact Z1l
theorem rdo_ploop (h : Rx w base gk gf T o vk vf m) (hw : wt m ≤ 1000000000) (n : Int) (back : Bool) (xs : List Int) (x : Int) (hx : m.loops = xs ++ [x]) :
 Calls Try.prog 76 #[.pointer (some ⟨gf, 0, none⟩), .int .i64 22, .int .i64 n, .bool back] w (XI base gk gf T (some { m with loops := xs, leads := m.leads ++ ([⟨n, x⟩, ⟨x, n⟩] : List Ld) }) w) := by
 obtain ⟨m', hm'⟩ : ∃ m', ({ m with loops := xs, leads := m.leads ++ ([⟨n, x⟩, ⟨x, n⟩] : List Ld) } : Mk) = m' := ⟨_, rfl⟩
 rw [hm']
 replace hm' := Aside0.mk hm'
 obtain ⟨A0, c0, A1, c1, A2, c2, A3, c3, A4, c4, rfl⟩ := h.fc
 have hla := Xf hw
 have k0 := h.f.cell 0 rfl
 have k1 := h.f.cell 1 rfl
 have k2 := h.f.cell 2 rfl
 have k3 := h.f.cell 3 rfl
 have hX := Aside0.mk h
 clear h
 have hln := hla.2.2.2.1
 have hl4 : m.leads.length ≤ 1000000000 := hla.2.2.2.2.1
 have hlen : m.loops.length = xs.length + 1 := by rw [hx]; simp
 rw [hlen] at k2 hX hln
 replace hlen := Aside0.mk hlen
 have hx' := Aside0.mk hx
 clear hx hla
 go_enter Try.func76, Try.ntmps76
 go_wp2_with fail
 go_quiet (fail)
 have hB1 := Yn (Below.refl w.heap.size w) nq
 have h1 := hX.out.below hB1
 have hB2 := Aside0.mk (Below.mono hB1 hX.out.k.base_le)
 have hgb := hX.out.f.hb
 generalize w.drewN nq = w1 at h1 hB2 ⊢
 clear k0 k1 k2 k3 hB1 hX
 have hF : (fF base m)[2]? = some (rowF (Kd.int .i64) 3 base (xs ++ [x])) := by rw [← hx'.out]; rfl
 have hR : Kd.R (Kd.int .i64) 3 w1 base (fun k => o k = 20 + 1 + 2) (.slice A2 (xs.length + 1) c2) (xs ++ [x]) := h1.f.row 2 _ _ rfl hF
 obtain ⟨-, hcap, hC⟩ := Kd.R_reads' hR
 obtain ⟨ge, cap, hv, hge, -, cells, hbk⟩ := Kd.R_form hR ZA
 rw [List.length_append, List.length_singleton] at hv
 cases hv
 obtain ⟨ad, e, g0⟩ := Kd.at_int hC (xs.length : Int) Z0 ZA
 cases e
 have hrd : rd (xs ++ [x]) (xs.length : Int) = x := by simp [rd, List.getD_eq_getElem?_getD]
 rw [hrd, Int.toNat_natCast] at g0
 have hog : o ge = 20 + 1 + 2 := hR.1 ge Zk
 have hadd : (⟨ge, 0, none⟩ : Addr).add xs.length = ⟨ge, xs.length, none⟩ := by rw [Yaf, Nat.zero_add]
 rw [hadd] at g0
 have e0 := Aside0.mk ((Yc hbk xs.length).symm.trans g0)
 replace hF := Aside0.mk hF
 clear hR hC hrd hadd
 have k0 := h1.f.cell 0 rfl
 have k1 := h1.f.cell 1 rfl
 have k2 := h1.f.cell 2 rfl
 have k3 := h1.f.cell 3 rfl
 have k4 := h1.f.cell 4 rfl
 replace h1 := Aside0.mk h1
 go_upto_region 32 with (fail)
 have hBd : Below w1.heap.size w1 w1.drew := YM (Below.refl _ _)
 have h2 := h1.out.below hBd
 have hB3 := hB2.out.trans (Below.mono hBd h1.out.k.base_le)
 have hp0 : (0 : Int) ≤ (xs.length : Int) := by omega
 have hp1 : (xs.length : Int) < (xs.length : Int) + 1 := by omega
 refine VS (ds := [27]) (S := fun w' => w'.cell? ⟨gf, 4, none⟩ = some (.slice A4 m.leads.length c4) ∧ w'.cell? ⟨gf, 2, none⟩ = some (.slice (some ⟨ge, 0, none⟩) (xs.length + 1) c2) ∧ w'.cell? ⟨ge, xs.length, none⟩ = some (.int .i64 x)) Z2 rfl rfl ⟨k4, k2, g0⟩ (fun tb hS => ?_)
 have hbk2 := Xq hbk
 generalize w1.drew = wd at h2 hB3 hS hbk2 ⊢
 replace h2 := Aside0.mk h2
 clear k0 k1 k2 k3 k4 g0 h1 hBd hbk
 refine seg_ [(0, 235), (1, 236), (2, 237), (3, 238), (4, 239), (5, 240), (6, 241), (7, 242), (8, 243), (9, 244), (10, 245), (11, 246), (12, 247), (13, 248), (14, 249), (15, 250), (16, 251), (17, 252), (18, 253), (19, 254), (20, 255), (21, 256), (22, 257)] tb hS Z2 (fun _ _ _ _ h => h) (a' := ?_) ?_ ?_
 rotate_left
 ·repeat (first | exact Seg.nil | (refine Seg.on (v := ?_) (a1 := ?_) rfl rfl Z4 ?_ ?_ ?_; rotate_left 2; (rintro w' hS; go_split_ands; go_simp; with_reducible rfl); (simp only [Act.put, List.setIfInBounds_toArray, List.set_cons_zero, List.set_cons_succ, Yy, YA]; rfl)))
 refine eff_ 23 tb rfl Z2 ?_
 go_wp2_with fail
 refine ql_ ⟨⟨(h2.out.alloc _).f.cell 4 rfl, (h2.out.alloc _).f.cell 2 rfl, (Yc (YZ hbk2 _) _).trans e0.out⟩, fun hS => ?_⟩
 refine eff_ 24 tb rfl Z2 ?_
 have hLC := YeQ k77 77 wd [(⟨n, x⟩ : S77), ⟨x, n⟩] [.int .i64 n, .int .i64 x, .int .i64 x, .int .i64 n] Z6 (Yd0 _ _ _)
 have hBa := Yl (Below.refl wd.heap.size wd) (.cells #[.int .i64 n, .int .i64 x, .int .i64 x, .int .i64 n] 77)
 refine (h2.out.below hBa).pushFN (d := k77) (e := 77) (i := 4) { m with leads := m.leads ++ ([⟨n, x⟩, ⟨x, n⟩] : List Ld) } rfl rfl [(⟨n, x⟩ : S77), ⟨x, n⟩] rfl rfl rfl Try.underlying71 YaL rfl Z1 Z1 rfl rfl rfl rfl hLC (fun x cs h => by rw [JD h]; exact VW _ _ _ _) Z0 ?_
 rintro v2 w2 ⟨⟨o2, hx2⟩, hB4, ⟨A5, n5, c5, rfl⟩, hb2, hkp⟩
 have hf2 := Yf hb2 4
 have k2' := (Yc hb2 4).trans rfl
 have hbk4 := (hkp ge (Vw (YZ hbk2 _)) ZV).trans (YZ hbk2 _)
 refine ql_ ⟨⟨k2', (Yc hb2 2).trans rfl, (Yc hbk4 _).trans e0.out⟩, fun hS => ?_⟩
 refine seg_ [(25, 260), (26, 261)] tb hS Z2 (fun _ _ _ _ h => h) (a' := ?_) ?_ ?_
 rotate_left
 ·repeat (first | exact Seg.nil | (refine Seg.on (v := ?_) (a1 := ?_) rfl rfl Z4 ?_ ?_ ?_; rotate_left 2; (rintro w' hS; go_split_ands; go_simp; with_reducible rfl); (simp only [Act.put, List.setIfInBounds_toArray, List.set_cons_zero, List.set_cons_succ, Yy, YA]; rfl)))
 refine UI 27 tb rfl Z2 ?_
 go_wp2_with fail
 refine ql_ (end_ tb Z2 ?_)
 have hB5 := Aside0.mk (hB3.trans ((Below.mono hBa h2.out.k.base_le).trans hB4))
 have h3 := hx2.popF (xs := xs) (x := x) (d := Kd.int .i64) (e := 3) (i := 2) m' rfl hF.out Zl Zl ZG
 have hB6 := Aside0.mk (hB5.out.setCell (p := ⟨gf, 2, none⟩) hgb (.slice (some ⟨ge, 0, none⟩) xs.length c2))
 have k3' := hx2.f.cell 2 rfl
 have f3' := hx2.f.free 2
 replace h3 := Aside0.mk h3
 clear hx2 hf2 k2' hb2 hS hB4 hkp hbk4
 generalize w2.setCell ⟨gf, 4, none⟩ (.slice A5 n5 c5) = w3 at h3 hB5 hB6 k3' f3' ⊢
 have hp2 : (xs.length : Int) ≤ (c2 : Int) := by omega
 have hp3 : ((xs.length : Int) = (c2 : Int)) = False := eq_false Z0
 go_wp2_with fail
 exact Z1l
theorem YbM (h : Rx w base gk gf T o vk vf m) (hw : wt m ≤ 1000000000) (n : Int) (back : Bool) (hx : m.loops = []) :
 Calls Try.prog 76 #[.pointer (some ⟨gf, 0, none⟩), .int .i64 21, .int .i64 n, .bool back] w (XI base gk gf T none w) := by
 obtain ⟨A0, c0, A1, c1, A2, c2, A3, c3, A4, c4, rfl⟩ := h.fc
 have hla := Xf hw
 have k0 := h.f.cell 0 rfl
 have k1 := h.f.cell 1 rfl
 have k2 := h.f.cell 2 rfl
 have k3 := h.f.cell 3 rfl
 have hX := Aside0.mk h
 clear h
 have hlen : m.loops.length = 0 := by rw [hx]; rfl
 rw [hlen] at k2 hX
 clear hlen hx
 go_enter Try.func76, Try.ntmps76
 go_wp2_with fail
 go_quiet (fail)
 have hB1 := Yn (Below.refl w.heap.size w) nq
 have h1 := hX.out.below hB1
 have hB2 := Aside0.mk (Below.mono hB1 hX.out.k.base_le)
 have hgb := hX.out.f.hb
 generalize w.drewN nq = w1 at h1 hB2 ⊢
 clear k0 k1 k2 k3 hB1 hX
 have k0 := h1.f.cell 0 rfl
 have k1 := h1.f.cell 1 rfl
 have k2 := h1.f.cell 2 rfl
 have k3 := h1.f.cell 3 rfl
 have k4 := h1.f.cell 4 rfl
 replace h1 := Aside0.mk h1
 go_wp2_with fail
 exact Zy
theorem Ya7 (h : Rx w base gk gf T o vk vf m) (hw : wt m ≤ 1000000000) (n : Int) (back : Bool) (hx : m.loops = []) :
 Calls Try.prog 76 #[.pointer (some ⟨gf, 0, none⟩), .int .i64 22, .int .i64 n, .bool back] w (XI base gk gf T none w) := by
 obtain ⟨A0, c0, A1, c1, A2, c2, A3, c3, A4, c4, rfl⟩ := h.fc
 have hla := Xf hw
 have k0 := h.f.cell 0 rfl
 have k1 := h.f.cell 1 rfl
 have k2 := h.f.cell 2 rfl
 have k3 := h.f.cell 3 rfl
 have hX := Aside0.mk h
 clear h
 have hlen : m.loops.length = 0 := by rw [hx]; rfl
 rw [hlen] at k2 hX
 clear hlen hx
 go_enter Try.func76, Try.ntmps76
 go_wp2_with fail
 go_quiet (fail)
 have hB1 := Yn (Below.refl w.heap.size w) nq
 have h1 := hX.out.below hB1
 have hB2 := Aside0.mk (Below.mono hB1 hX.out.k.base_le)
 have hgb := hX.out.f.hb
 generalize w.drewN nq = w1 at h1 hB2 ⊢
 clear k0 k1 k2 k3 hB1 hX
 have k0 := h1.f.cell 0 rfl
 have k1 := h1.f.cell 1 rfl
 have k2 := h1.f.cell 2 rfl
 have k3 := h1.f.cell 3 rfl
 have k4 := h1.f.cell 4 rfl
 replace h1 := Aside0.mk h1
 go_wp2_with fail
 exact Zy
theorem Ya8 (h : Rx w base gk gf T o vk vf m) (hw : wt m ≤ 1000000000) (n : Int) (back : Bool) (hx : m.loops = []) :
 Calls Try.prog 76 #[.pointer (some ⟨gf, 0, none⟩), .int .i64 27, .int .i64 n, .bool back] w (XI base gk gf T none w) := by
 obtain ⟨A0, c0, A1, c1, A2, c2, A3, c3, A4, c4, rfl⟩ := h.fc
 have hla := Xf hw
 have k0 := h.f.cell 0 rfl
 have k1 := h.f.cell 1 rfl
 have k2 := h.f.cell 2 rfl
 have k3 := h.f.cell 3 rfl
 have hX := Aside0.mk h
 clear h
 have hlen : m.loops.length = 0 := by rw [hx]; rfl
 rw [hlen] at k2 hX
 clear hlen hx
 go_enter Try.func76, Try.ntmps76
 go_wp2_with fail
 go_quiet (fail)
 have hB1 := Yn (Below.refl w.heap.size w) nq
 have h1 := hX.out.below hB1
 have hB2 := Aside0.mk (Below.mono hB1 hX.out.k.base_le)
 have hgb := hX.out.f.hb
 generalize w.drewN nq = w1 at h1 hB2 ⊢
 clear k0 k1 k2 k3 hB1 hX
 have k0 := h1.f.cell 0 rfl
 have k1 := h1.f.cell 1 rfl
 have k2 := h1.f.cell 2 rfl
 have k3 := h1.f.cell 3 rfl
 have k4 := h1.f.cell 4 rfl
 replace h1 := Aside0.mk h1
 go_wp2_with fail
 exact Zy
theorem rdo_leave (h : Rx w base gk gf T o vk vf m) (hw : wt m ≤ 1000000000) (n : Int) (back : Bool) (xs : List Int) (x : Int) (hx : m.loops = xs ++ [x]) :
 Calls Try.prog 76 #[.pointer (some ⟨gf, 0, none⟩), .int .i64 27, .int .i64 n, .bool back] w (XI base gk gf T (some m) w) := by
 obtain ⟨m', hm'⟩ : ∃ m', (m : Mk) = m' := ⟨_, rfl⟩
 rw [hm']
 replace hm' := Aside0.mk hm'
 obtain ⟨A0, c0, A1, c1, A2, c2, A3, c3, A4, c4, rfl⟩ := h.fc
 have hla := Xf hw
 have k0 := h.f.cell 0 rfl
 have k1 := h.f.cell 1 rfl
 have k2 := h.f.cell 2 rfl
 have k3 := h.f.cell 3 rfl
 have hX := Aside0.mk h
 clear h
 have hln := hla.2.2.2.1
 have hlen : m.loops.length = xs.length + 1 := by rw [hx]; simp
 rw [hlen] at k2 hX hln
 clear hlen hx hla
 go_enter Try.func76, Try.ntmps76
 go_wp2_with fail
 go_quiet (fail)
 have hB1 := Yn (Below.refl w.heap.size w) nq
 have h1 := hX.out.below hB1
 have hB2 := Aside0.mk (Below.mono hB1 hX.out.k.base_le)
 have hgb := hX.out.f.hb
 generalize w.drewN nq = w1 at h1 hB2 ⊢
 clear k0 k1 k2 k3 hB1 hX
 have k0 := h1.f.cell 0 rfl
 have k1 := h1.f.cell 1 rfl
 have k2 := h1.f.cell 2 rfl
 have k3 := h1.f.cell 3 rfl
 have k4 := h1.f.cell 4 rfl
 replace h1 := Aside0.mk h1
 go_wp2_with fail
 exact bodyPost_ret (v := .bool true) Zi rfl ⟨hB2.out, rfl, _, _, _, (by rw [← hm'.out]; exact h1.out)⟩
end
end Go.Proofs.Ytehmhgpogpbjiaa.Fcc
