import Derived.Test.Ytehmhgpogpbjiaafr21
set_option linter.unusedVariables false
set_option linter.unusedSimpArgs false
set_option maxRecDepth 100000
set_option maxHeartbeats 8000000
namespace Go.Proofs.Ytehmhgpogpbjiaa.Fcc
section
variable {prims : List (ByteArray × Int)} {m : Mk} {named : ByteArray → Bool} {lit : ByteArray → Option Int} {c : Int}
theorem Jg (h : resolveP m = .inr c) : c ≠ 0 := by
 unfold resolveP at h
 split at h <;> cases h
 decide
theorem YbN {x : Int} (h : backP m x = .inr c) : c ≠ 0 := by
 unfold backP at h
 split at h <;> cases h
 decide
theorem Yd6 {s : ByteArray} {r : Res} (h : Xt m s = some r) (hr : r = .inr c) : c ≠ 0 := by
 subst hr
 unfold Xt at h
 split at h
 ·cases h
 split at h
 ·injection h with h
  split at h
  ·cases h; decide
  ·exact Jg h
 split at h
 ·injection h with h
  exact Jg h
 split at h
 ·cases h
 split at h
 ·injection h with h
  exact YbN h
 split at h
 ·injection h with h
  exact YbN h
 split at h
 ·injection h with h
  split at h
  ·rename_i hb
   cases h
   exact YbN hb
  ·exact Jg h
 ·cases h
theorem err_loop {s : ByteArray} {r : Res} (h : VP m s = some r) (hr : r = .inr c) : c ≠ 0 := by
 subst hr
 unfold VP at h
 split at h
 ·cases h
 split at h
 ·cases h
 split at h
 ·injection h with h
  split at h
  ·cases h; decide
  ·cases h
 split at h
 ·injection h with h
  split at h
  ·cases h; decide
  ·cases h
 ·cases h
theorem Yd5 {s : ByteArray} (h : Vh m s = .inr c) : c ≠ 0 := by
 unfold Vh at h
 split at h
 ·cases h
 split at h
 ·cases h; decide
 split at h
 ·cases h; decide
 split at h
 ·cases h
 split at h
 ·cases h
 ·cases h
theorem err_word (h : Vl m = .inr c) : c ≠ 0 := by
 unfold Vl at h
 split at h
 ·cases h; decide
 split at h
 ·cases h
 ·cases h; decide
theorem YaG {x : Int} (h : Vo prims m x = .inr c) : c ≠ 0 := by
 unfold Vo at h
 split at h
 ·rename_i hw
  cases h
  exact err_word hw
 split at h
 ·cases h; decide
 ·cases h
theorem Ydt {s : ByteArray} (h : XN named s m = .inr c) : c ≠ 0 := by
 unfold XN at h
 split at h
 ·rename_i hf
  cases h
  rcases freshP_err hf with rfl | rfl <;> decide
 ·split at h <;> cases h
theorem Yd4 {s : ByteArray} (h : XJ named m s = .inr c) : c ≠ 0 := by
 by_cases h1 : s.toList = ([105, 110, 115, 116, 97, 110, 99, 101] : List UInt8)
 ·have he : XJ named m s = (match (match Vl m with
   | .inl (s, m1) => if s.toList = ([118, 97, 108, 117, 101] : List UInt8) then .inl (m1.add 192) else .inr 15
   | .inr _ => .inr 15 : Res) with
  | .inr e => .inr e
  | .inl m1 => XN named s m1) := by unfold XJ; rw [if_pos h1]; rfl
  rw [he] at h
  split at h
  ·rename_i hq
   cases h
   split at hq
   ·split at hq
    ·cases hq
    ·cases hq; decide
   ·cases hq; decide
  ·exact Ydt h
 ·have he : XJ named m s = XN named s m := by unfold XJ; rw [if_neg h1]; rfl
  rw [he] at h
  exact Ydt h
theorem Yd3 {s : ByteArray} (h : VN prims m s = .inr c) : c ≠ 0 := by
 unfold VN at h
 split at h
 ·split at h
  ·cases h; decide
  ·cases h
 split at h
 ·cases h
 split at h
 ·exact YaG h
 split at h
 ·rename_i r hb
  exact Yd6 hb h
 ·split at h
  ·rename_i r hb
   exact err_loop hb h
  ·exact Yd5 h
theorem err_one {s : ByteArray} (h : oneP named prims lit m s = .inr c) : c ≠ 0 := by
 unfold oneP at h
 split at h
 ·cases h; decide
 split at h
 ·exact Yd3 h
 split at h
 ·exact YaG h
 split at h
 ·exact Yd4 h
 split at h
 ·exact YaG h
 split at h
 ·cases h
 ·split at h
  ·cases h; decide
  ·cases h
theorem allP_cons (k : Nat) {x : Tin} {r : List Tin} (h : m.inp = x :: r) : allP named prims lit (k + 1) m = match tokP named prims lit { m with inp := r } x with
 | .inr e => .inr e
 | .inl m1 => allP named prims lit k m1 := by
 show (match m.inp with
  | [] => .inl m
  | x :: r => match tokP named prims lit { m with inp := r } x with
    | .inr e => .inr e
    | .inl m1 => allP named prims lit k m1 : Res) = _
 rw [h]
theorem Jf {m1 : Mk} (h : resolveP m = .inl m1) : m1.inp = m.inp := by
 unfold resolveP at h
 split at h <;> cases h
 rfl
theorem YbM {x : Int} {m1 : Mk} (h : backP m x = .inl m1) : m1.inp = m.inp := by
 unfold backP at h
 split at h <;> cases h
 rfl
theorem YdZ {s : ByteArray} {r : Res} {m1 : Mk} (h : Xt m s = some r) (hr : r = .inl m1) : m1.inp = m.inp := by
 subst hr
 unfold Xt at h
 split at h
 ·cases h; rfl
 split at h
 ·injection h with h
  split at h
  ·cases h
  ·have h9 := Jf h; exact h9
 split at h
 ·injection h with h
  exact Jf h
 split at h
 ·cases h; rfl
 split at h
 ·injection h with h
  exact YbM h
 split at h
 ·injection h with h
  exact YbM h
 split at h
 ·injection h with h
  split at h
  ·cases h
  ·rename_i hb
   exact (Jf h).trans (YbM hb)
 ·cases h
theorem inp_loop {s : ByteArray} {r : Res} {m1 : Mk} (h : VP m s = some r) (hr : r = .inl m1) : m1.inp = m.inp := by
 subst hr
 unfold VP at h
 split at h
 ·cases h; rfl
 split at h
 ·cases h; rfl
 split at h
 ·injection h with h
  split at h
  ·cases h
  ·cases h; rfl
 split at h
 ·injection h with h
  split at h
  ·cases h
  ·cases h; rfl
 ·cases h
theorem YdY {s : ByteArray} {m1 : Mk} (h : Vh m s = .inl m1) : m1.inp = m.inp := by
 unfold Vh at h
 split at h
 ·cases h; rfl
 split at h
 ·cases h
 split at h
 ·cases h
 split at h
 ·cases h; rfl
 split at h
 ·cases h; rfl
 ·cases h; rfl
theorem YbL {s : ByteArray} {m1 : Mk} (h : Vl m = .inl (s, m1)) : m1.inp.length ≤ m.inp.length := by
 unfold Vl at h
 split at h
 ·cases h
 ·rename_i t r hm
  split at h
  ·cases h
   rw [hm]
   exact Nat.le_succ _
  ·cases h
theorem YaB {x : Int} {m1 : Mk} (h : Vo prims m x = .inl m1) : m1.inp.length ≤ m.inp.length := by
 unfold Vo at h
 split at h
 ·cases h
 ·rename_i hw
  split at h
  ·cases h
  ·cases h
   have h9 := YbL hw; exact h9
theorem Ydr {s : ByteArray} {m1 : Mk} (h : XN named s m = .inl m1) : m1.inp.length ≤ m.inp.length := by
 unfold XN at h
 split at h
 ·cases h
 ·rename_i s' c m2 hf
  have h2 : m2.inp.length ≤ m.inp.length := by
   unfold Vf at hf
   split at hf
   ·cases hf
   ·rename_i hw
    split at hf
    ·cases hf
    split at hf
    ·cases hf
    ·cases hf
     have h9 := YbL hw; exact h9
  split at h <;> cases h <;> exact h2
theorem YdX {s : ByteArray} {m1 : Mk} (h : XJ named m s = .inl m1) : m1.inp.length ≤ m.inp.length := by
 by_cases h1 : s.toList = ([105, 110, 115, 116, 97, 110, 99, 101] : List UInt8)
 ·have he : XJ named m s = (match (match Vl m with
   | .inl (s, m1) => if s.toList = ([118, 97, 108, 117, 101] : List UInt8) then .inl (m1.add 192) else .inr 15
   | .inr _ => .inr 15 : Res) with
  | .inr e => .inr e
  | .inl m1 => XN named s m1) := by unfold XJ; rw [if_pos h1]; rfl
  rw [he] at h
  split at h
  ·cases h
  ·rename_i hq
   split at hq
   ·rename_i hw
    split at hq
    ·cases hq
     have h9 := YbL hw; exact Nat.le_trans (Ydr h) h9
    ·cases hq
   ·cases hq
 ·have he : XJ named m s = XN named s m := by unfold XJ; rw [if_neg h1]; rfl
  rw [he] at h
  exact Ydr h
theorem YdW {s : ByteArray} {m1 : Mk} (h : VN prims m s = .inl m1) : m1.inp.length ≤ m.inp.length := by
 unfold VN at h
 split at h
 ·split at h
  ·cases h
  ·cases h; exact Nat.le_refl _
 split at h
 ·cases h; exact Nat.le_refl _
 split at h
 ·exact YaB h
 split at h
 ·rename_i r hb
  exact Nat.le_of_eq (congrArg List.length (YdZ hb h))
 ·split at h
  ·rename_i r hb
   exact Nat.le_of_eq (congrArg List.length (inp_loop hb h))
  ·exact Nat.le_of_eq (congrArg List.length (YdY h))
theorem one_inp {s : ByteArray} {m1 : Mk} (h : oneP named prims lit m s = .inl m1) : m1.inp.length ≤ m.inp.length := by
 unfold oneP at h
 split at h
 ·cases h
 split at h
 ·exact YdW h
 split at h
 ·exact YaB h
 split at h
 ·exact YdX h
 split at h
 ·exact YaB h
 split at h
 ·cases h; exact Nat.le_refl _
 ·split at h
  ·cases h
  ·cases h; exact Nat.le_refl _
end
end Go.Proofs.Ytehmhgpogpbjiaa.Fcc
namespace Go.Proofs.Ytehmhgpogpbjiaa.Fcc
open Go.RowKit Go.Proofs.YtehmhgpogpbjiaaW.PrintWords Go.Proofs.YtehmhgpogpbjiaaW.PrintLast Go.Proofs.YtehmhgpogpbjiaaW.PrintMore Go.Proofs.Ytehmhgpogpbjiaa.PFccTokens
open Go.Maps (string_keyed)
def TPost (r : List Tk × Int) (w : World) (e : Ending) (w' : World) : Prop := ∃ v, e = .returned (.tuple #[v, .int .i64 r.2]) ∧ Kd.R k37 37 w' w.heap.size (fun _ => True) v r.1 ∧ Below w.heap.size w w'
structure CutOk (cut : ByteArray → List S59 × Int) : Prop where
 len : ∀ s, (cut s).1.length ≤ 5000
 texts : ∀ s, ∀ t ∈ (cut s).1, t.f1.size ≤ 4096
section
variable {w : World} {base g : Nat} {prims : List (ByteArray × Int)} {o : Nat → Nat} {vs : List Value} {m : Mk} {named : ByteArray → Bool} {lit : ByteArray → Option Int} {cut : ByteArray → List S59 × Int} {P : List S34}
theorem YdB (hC : CutC 16 cut) (s : ByteArray) (hs : s.size ≤ maxLen) (he : (cut s).2 ≠ 0) : Calls Try.prog 7 #[.string s] w (TPost ([], (cut s).2) w) := by
 have hC' := Aside0.mk (hC s w hs)
 generalize (cut s).2 = er at he hC' ⊢
 have e1 : (er == 0) = false := beq_eq_false_iff_ne.mpr he
 have e2 : (er != 0) = true := bne_iff_ne.mpr he
 clear he
 go_enter Try.func7, Try.ntmps7
 go_wp2_with fail
 refine hC'.out.mono ?_
 rintro e w1 ⟨v, rfl, hR, hB⟩
 replace hR := Aside0.mk hR
 go_wp2_with fail
 exact bodyPost_ret (v := .tuple #[.slice none 0 0, .int .i64 er]) Z1m rfl ⟨_, rfl, Kd.R_nil _ _ _ _ _, hB⟩
theorem tokens_ok (hA : Jh) (hL : LitC lit) (hlit : ∀ s v, lit s = some v → 0 ≤ v ∧ v < 4294967296) (hN : UR named) (hP : PrimsC 17 P) (hPl : P.length ≤ 1000) (hPs : ∀ p ∈ P, p.f0.size ≤ maxLen ∧ 0 ≤ p.f1 ∧ p.f1 ≤ 4095) (hC : CutC 16 cut) (hK : CutOk cut) (s : ByteArray) (hs : s.size ≤ maxLen) (he : (cut s).2 = 0) :
 Calls Try.prog 7 #[.string s] w (TPost (Ja named (P.map pr).reverse lit XH (cut s).1) w) := by
 have hC' := Aside0.mk (hC s w hs)
 have hkl := hK.len s
 have hkt := Aside0.mk (hK.texts s)
 rw [he] at hC'
 generalize (cut s).1 = l at hkl hkt hC' ⊢
 have hP' := Aside0.mk hP
 have hPs' := Aside0.mk hPs
 clear hP hPs he hC hK
 obtain ⟨r0, hr0⟩ : ∃ r0, Ja named (P.map pr).reverse lit XH l = r0 := ⟨_, rfl⟩
 rw [hr0]
 have hr := Aside0.mk hr0
 clear hr0
 go_enter Try.func7, Try.ntmps7
 go_wp2_with fail
 refine hC'.out.mono ?_
 rintro e w1 ⟨v, rfl, hR, hB⟩
 have hmm : (Instr.makeMap 52 none).run Try.prog w1 = .ok (.map (some w1.heap.size)) (w1.alloc (.map #[] 0)) := rfl
 have hBm := Yc (Below.refl w1.heap.size w1) (.map #[] 0)
 have hD := (World.ownsMap_made (H := Unit) w1 Try.prog 9 (plainElem (H := Unit) Try.prog 3))
 have hRm := Kd.R_below hR hBm
 have hsz1 : w1.heap.size < (w1.alloc (.map #[] 0)).heap.size := hD.lt
 obtain ⟨A0, c0, rfl⟩ := Kd.R_slice hR
 replace hR := Aside0.mk hR
 replace hRm := Aside0.mk hRm
 replace hD := Aside0.mk hD
 have hB1 := Aside0.mk (hB.trans (Below.mono hBm hB.size))
 have hle := Aside0.mk hB.size
 clear hB hBm hC'
 go_wp2_with fail
 refine (hP'.out _).mono ?_
 rintro e w3 ⟨vp, rfl, hRp, hB3⟩
 obtain ⟨Ap, cp, rfl, hcp, -⟩ := Kd.R_reads hRp
 have hgs : (w1.alloc (.map #[] 0)).heap.size = w1.heap.size + 1 := World.size_alloc _ _
 have hbx := Xa (w1.alloc (.map #[] 0)) (.cells #[.slice A0 l.length c0, .slice none 0 0, .map (some w1.heap.size), .int .i64 2048, .bool false, .string ⟨#[]⟩, .int .i64 0, .slice none 0 0, .slice none 0 0, .slice none 0 0, .slice none 0 0, .slice none 0 0] 57)
 have hBx := Yc (Below.refl (w1.alloc (.map #[] 0)).heap.size (w1.alloc (.map #[] 0))) (.cells #[.slice A0 l.length c0, .slice none 0 0, .map (some w1.heap.size), .int .i64 2048, .bool false, .string ⟨#[]⟩, .int .i64 0, .slice none 0 0, .slice none 0 0, .slice none 0 0, .slice none 0 0, .slice none 0 0] 57)
 rw [hgs] at hbx
 have hMk := Mx.make hbx (Nat.le_trans hle.out (Nat.le_succ _)) hle.out (Kd.R_below hRm.out hBx) (hD.out.kept (Um hBx none) Z3)
 have hM3 := hMk.below hB3
 have hB4 := hB1.out.trans ((Below.mono hBx (by rw [hgs]; exact Nat.le_succ_of_le hle.out)).trans (Below.mono hB3 hMk.st.base_le))
 generalize ((w1.alloc (.map #[] 0)).alloc (.cells #[.slice A0 l.length c0, .slice none 0 0, .map (some w1.heap.size), .int .i64 2048, .bool false, .string ⟨#[]⟩, .int .i64 0, .slice none 0 0, .slice none 0 0, .slice none 0 0, .slice none 0 0, .slice none 0 0] 57)).heap.size = bp at hRp hB3
 generalize (fun k => if k = w1.heap.size + 1 then 0 else if k = w1.heap.size then 3 else 1) = o3 at hM3 hMk
 generalize [Value.slice A0 l.length c0, .slice none 0 0, .map (some w1.heap.size), .int .i64 2048, .bool false, .string ⟨#[]⟩, .int .i64 0, .slice none 0 0, .slice none 0 0, .slice none 0 0, .slice none 0 0, .slice none 0 0] = vs3 at hM3 hMk
 clear hbx hBx hMk hD hRm hR hB1 hmm hsz1 hgs hB3
 generalize w1.heap.size = gm at hM3 ⊢
 replace hM3 := Aside0.mk hM3
 replace hB4 := Aside0.mk hB4
 replace hRp := Aside0.mk hRp
 go_wp2_with fail
 go_loopg [25] P.length (fun gg s25 wr => ∃ (kk : Nat) (o1 : Nat → Nat) (vs1 : List Value), kk ≤ P.length ∧ P.length - kk ≤ gg ∧ s25 = .int .i64 kk ∧ Aside0 (Below w.heap.size w wr) ∧ Aside0 (Mx wr w.heap.size (gm + 1) ((P.take kk).map pr).reverse o1 vs1 (Un l)) ∧ Aside0 (Kd.R k34 34 wr bp (fun _ => True) (.slice Ap P.length cp) P))
 case atStart => exact ⟨0, o3, vs3, Nat.zero_le _, Z0, rfl, hB4, (by simpa using hM3), hRp⟩
 case round =>
  obtain ⟨kk, o1, vs1, hkk, hg, rfl, HB, HM, HR⟩ := hrel
  by_cases hlt : kk < P.length
  ·have hltz : (kk : Int) < (P.length : Int) := by omega
   obtain ⟨A, c, eL, _, hC⟩ := Kd.R_reads HR.out
   injection eL with eL1 _ eL3
   subst eL1 eL3
   obtain ⟨ad, e, g0, g1⟩ := at_T34 hC (kk : Int) Z0 hltz
   cases e
   have hrd : Ydj P (kk : Int) = P[kk]'hlt := by simp [Ydj, List.getD_eq_getElem?_getD, hlt]
   rw [Int.toNat_natCast, hrd] at g0 g1
   have htk := Aside0.mk (show ((P.take (kk + 1)).map pr).reverse = pr (P[kk]'hlt) :: ((P.take kk).map pr).reverse by rw [List.take_add_one, List.getElem?_eq_getElem hlt, Option.toList_some, List.map_append, List.reverse_append]; rfl)
   have hp := Aside0.mk (hPs'.out _ (List.getElem_mem hlt))
   generalize P[kk]'hlt = p at g0 g1 htk hp
   have hgk := Aside0.mk (show P.length - (kk + 1) < gk ∧ kk + 1 ≤ P.length by omega)
   have hprl := Aside0.mk (show ((P.take kk).map pr).reverse.length ≤ 1000 by simp; omega)
   have hBn := Yc (Below.refl wr.heap.size wr) (.cells #[.string p.f0, .int .i64 p.f1] 34)
   have hbx := Xa wr (.cells #[.string p.f0, .int .i64 p.f1] 34)
   have hMn := Aside0.mk (HM.out.below hBn)
   have hRn := Aside0.mk (Kd.R_below HR.out hBn)
   have hBB := Aside0.mk (HB.out.trans (Below.mono hBn HM.out.st.base_le))
   clear hBn hg hrd hC
   go_wp2_with fail
   generalize wr.alloc (.cells #[.string p.f0, .int .i64 p.f1] 34) = wn at hbx hMn hRn hBB ⊢
   generalize wr.heap.size = gb at hbx ⊢
   have hdr := YY (Below.refl wn.heap.size wn)
   have hMd := hMn.out.below hdr
   have hRd := Kd.R_below hRn.out hdr
   have hBd := hBB.out.trans (Below.mono hdr hMn.out.st.base_le)
   have hbd := XZ hbx
   clear hdr hbx
   obtain ⟨v0, A1, c1, b, A7, c7, A8, c8, A9, c9, A10, c10, A11, c11, rfl⟩ := hMd.cells
   refine Uk (ds := [8]) (S := fun w' => w'.cell? ⟨gm + 1, 2, none⟩ = some (.map (some b)) ∧ w'.cell? ⟨gb, 0, none⟩ = some (.string p.f0) ∧ w'.cell? ⟨gb, 1, none⟩ = some (.int .i64 p.f1)) Z2 rfl rfl ⟨hMd.st.cell 2 rfl, (Ya hbd 0).trans rfl, (Ya hbd 1).trans rfl⟩ (fun tb hS => ?_)
   generalize wn.drew = wd at hMd hRd hBd hbd hS ⊢
   refine seg_ [(0, 29), (1, 30), (2, 31), (3, 32), (4, 33), (5, 34), (6, 35), (7, 36)] tb hS Z2 (fun _ _ _ _ h => h) (a' := ?_) ?_ ?_
   rotate_left
   ·repeat (first | exact Seg.nil | (refine Seg.on (v := ?_) (a1 := ?_) rfl rfl Z7 ?_ ?_ ?_; rotate_left 2; (rintro w' hS; go_split_ands; go_simp; with_reducible rfl); (simp only [Act.put, List.setIfInBounds_toArray, List.set_cons_zero, List.set_cons_succ, YH, YJ]; rfl)))
   obtain ⟨b', n, D, hv, hob, hbb, hn, hA', hD⟩ := hMd.map
   cases hv
   have hmx : maxLen = 9223372036854775807 := rfl
   have hcw : (Lit.int .i64 p.f1).wf = true := WalkArith.wf_i64 (Zo hp.out)
   have hlt9 : n < maxLen := by have := hprl.out; have h9 : n ≤ ((Un l).names ++ ((P.take kk).map pr).reverse).length := hn; rw [List.length_append] at h9; have h8 : (Un l).names.length = 0 := rfl; omega
   have hpe := plainElem_int (P := Try.prog) (e := 3) (q := .i64) (H := Unit) Try.underlying3 hcw
   replace hMd := Aside0.mk hMd
   replace hA' := Aside0.mk hA'
   replace hpe := Aside0.mk hpe
   clear hmx hcw
   refine JL 8 tb rfl Z2 ?_
   refine wpList_mapUpdate_own _ rfl _ _ _ 52 rfl 9 3 (string_keyed Try.underlying9) Try.underlying52 (plainElem Try.prog 3) b n D rfl hD hlt9 _ _ _ rfl rfl (key9 hp.out.1) _ _ hpe.out ?_
   intro w7 hown1 hg1
   have h7 := hMd.out.named1 rfl hob hbb hn hA'.out hD p.f0 p.f1 hg1 hown1
   have hR7 : Kd.R k34 34 w7 bp (fun _ => True) (.slice (some ad) P.length cp) P := Kd.R_mono (Kd.R_step (w1 := w7) (Kd.R_mono (ok' := fun k => k ≠ b) (Kd.R_bound hRd) (fun k hk e => by
    obtain ⟨_, _, _, q, hq, cells, hc⟩ := hk
    obtain ⟨es, clock, hbk, _⟩ := hD
    rw [e, hbk] at hc
    cases hc)) (fun k hk hlt => hg1.block k hlt (fun e => hk (by injection e)))) (fun _ _ => trivial)
   have hB7 := Below.grown hBd hg1 hMd.out.st.base_le (fun k e => by cases e; exact hbb)
   have h8 : Mx w7 w.heap.size (gm + 1) (pr p :: ((P.take kk).map pr).reverse) o1 _ (Un l) := ⟨h7.st, h7.len⟩
   rw [← htk.out] at h8
   replace h8 := Aside0.mk h8
   replace hR7 := Aside0.mk hR7
   replace hB7 := Aside0.mk hB7
   clear hown1 hg1 h7 hD hlt9 hbd hRd hBd
   refine ql_ (end_ tb Z2 ?_)
   go_wp2_with fail
   go_roundg (P.length - (kk + 1))
   case measure => exact hgk.out.1
   case rel => exact ⟨kk + 1, o1, _, hgk.out.2, Nat.le_refl _, Zy, hB7, h8, hR7⟩
  ·have hkk2 : kk = P.length := by omega
   subst hkk2
   have hM5 := HM.out
   rw [List.take_of_length_le (Nat.le_refl _)] at hM5
   clear hg HR hRp hM3 hB4 HM
   have hb5 := HB.out
   clear HB
   obtain ⟨PR, hPR⟩ : ∃ PR, (P.map pr).reverse = PR := ⟨_, rfl⟩
   rw [hPR] at hM5
   have hPRl : PR.length ≤ 1000 := by rw [← hPR]; simpa using hPl
   have hPRc : ∀ p ∈ PR, 0 ≤ p.2 ∧ p.2 ≤ 4095 := fun p hp => by
    rw [← hPR, List.mem_reverse, List.mem_map] at hp
    obtain ⟨q, hq, rfl⟩ := hp
    exact (hPs'.out q hq).2
   have hI0 : Inv PR 0 0 (Un l) := Ycg hPRc hkt.out
   have hI0' := Aside0.mk hI0
   have hPR' := Aside0.mk hPR
   clear hI0 hPR hPRc hkt hPs' hP'
   replace hM5 := Aside0.mk hM5
   replace hb5 := Aside0.mk hb5
   go_wp2_with fail
   go_loopg [10] l.length (fun gg s10 wq => ∃ (kk : Nat) (m : Mk) (o2 : Nat → Nat) (vs2 : List Value), kk ≤ l.length ∧ m.inp.length ≤ l.length - kk ∧ l.length - kk ≤ gg ∧ Aside0 (Inv PR (3 * kk) kk m) ∧ Aside0 (allP named PR lit (l.length - kk) m = allP named PR lit l.length (Un l)) ∧ Aside0 (Below w.heap.size w wq) ∧ Aside0 (Mx wq w.heap.size (gm + 1) PR o2 vs2 m))
   case atStart => exact ⟨0, Un l, o1, vs1, Nat.zero_le _, Nat.le_refl _, Z0, hI0', ⟨rfl⟩, hb5, hM5⟩
   case round =>
    obtain ⟨kk, m, o2, vs2, hk1, hk2, hg, HI, HA, HB, HM⟩ := hrel
    obtain ⟨v0, A1, c1, b, A7, c7, A8, c8, A9, c9, A10, c10, A11, c11, rfl⟩ := HM.out.cells
    have hin : inF w.heap.size m.inp wr (fun k => o2 k = 0 + 1 + 0) v0 := HM.out.st.row 0 _ _ rfl rfl
    cases hmi : m.inp with
    | nil =>
      rw [hmi] at hin
      obtain ⟨A, c, rfl⟩ := in_nil hin
      have k0 := HM.out.st.cell 0 rfl
      have k4 := HM.out.st.cell 4 rfl
      have hall : allP named PR lit l.length (Un l) = .inl m := by
       rw [← HA.out]
       cases l.length - kk with
       | zero => rfl
       | succ k => unfold allP; rw [hmi]
      have hres : Ja named PR lit XH l = if m.opn then ([], 13) else (aimP XH (m.add 0), 0) := by
       unfold Ja
       rw [hall]
      have hI := HI.out
      rw [hPR'.out] at hr
      rw [hres] at hr
      have hkk : kk ≤ 5000 := by omega
      clear hin hg hmi hall hres hk2 HA
      cases hop : m.opn with
      | true =>
        rw [hop] at k4 hr
        clear hop
        go_wp2_with fail
        rw [← hr.out]
        exact bodyPost_ret (v := .tuple #[.slice none 0 0, .int .i64 13]) Z1m rfl ⟨_, rfl, Kd.R_nil _ _ _ _ _, HB.out⟩
      | false =>
        rw [hop] at k4 hr
        have hIa := hI.add 0 0 emp Z0 Z0 XK
        have hwt := Yad hIa.wt
        have hol := Aside0.mk (Yad hI.wt).1
        have hB0 := Aside0.mk HB.out
        have hM0 := Aside0.mk HM.out
        have hld := Aside0.mk hIa.leads
        have hfit := Aside0.mk (fun t ht => (hIa.out t ht).1)
        have hlen := Aside0.mk (show 0 < (m.add 0 0 emp).out.length ∧ (m.add 0 0 emp).out.length < 1000000000 ∧ (m.add 0 0 emp).leads.length < 1000000000 by
         refine ⟨(by simp [Mk.add]), ?_, ?_⟩
         ·have := hwt.1; omega
         ·have := hwt.2.2.2.2.1; omega)
        have hrr : r0 = (aimP XH (m.add 0 0 emp), 0) := by rw [← hr.out]; rfl
        have hrr' := Aside0.mk hrr
        clear hop hI hIa hwt hrr
        go_wp2_with fail
        refine (YW hM0.out 0 0 ⟨#[]⟩ (Zo hol.out)).mono ?_
        rintro e w5 ⟨rfl, hB5, o5, vs5, h5⟩
        have hB6 := Aside0.mk (hB0.out.trans hB5)
        replace h5 := Aside0.mk h5
        clear hB5
        go_wp2_with fail
        refine (aim_calls h5.out hfit.out hlen.out.1 hlen.out.2.1 hlen.out.2.2 (fun l hl => ⟨(hld.out l hl).1, (hld.out l hl).2⟩)).mono ?_
        rintro e w6 ⟨rfl, hB7, o6, vs6, h6⟩
        have hB8 := Aside0.mk (hB6.out.trans hB7)
        obtain ⟨v0, A1, c1, b, A7, c7, A8, c8, A9, c9, A10, c10, A11, c11, rfl⟩ := h6.cells
        have k1 := h6.st.cell 1 rfl
        have hRo := Aside0.mk (h6.st.row 1 _ _ rfl rfl : Kd.R k37 37 w6 w.heap.size _ (.slice A1 (aimP XH (m.add 0 0 emp)).length c1) (aimP XH (m.add 0 0 emp)))
        replace h6 := Aside0.mk h6
        clear hB7
        go_wp2_with fail
        rw [hrr'.out]
        exact bodyPost_ret (v := .tuple #[.slice A1 (aimP XH (m.add 0 0 ⟨#[]⟩)).length c1, .int .i64 0]) Z1m rfl ⟨_, rfl, Kd.R_mono hRo.out (fun _ _ => trivial), hB8.out⟩
    | cons x r =>
      rw [hmi] at hin
      obtain ⟨ad, c, rfl, hc, hb63, g0, g1, g2, hri⟩ := in_cons3 hin
      obtain ⟨A', hsl, hA'⟩ := YcA ad r.length c hc
      have hin' := hri A' hA'
      have k0 := HM.out.st.cell 0 rfl
      have f0 := HM.out.st.free 0
      have hxs := Aside0.mk (HI.out.inp x (by rw [hmi]; exact List.mem_cons_self))
      have hIr := HI.out.take hmi
      have hkl2 : kk < l.length := by rw [hmi, List.length_cons] at hk2; omega
      have hHA : allP named PR lit (l.length - kk) m = match tokP named PR lit { m with inp := r } x with
       | .inr e => .inr e
       | .inl m1 => allP named PR lit (l.length - (kk + 1)) m1 := by
       obtain ⟨j, hj⟩ : ∃ j, l.length - kk = j + 1 := ⟨l.length - kk - 1, Z0⟩
       rw [hj, show l.length - (kk + 1) = j by omega]
       exact allP_cons j hmi
      have hHA' := Aside0.mk (hHA.symm.trans HA.out)
      have hrl : r.length ≤ l.length - (kk + 1) := by rw [hmi, List.length_cons] at hk2; omega
      have hBn := Yc (Below.refl wr.heap.size wr) (.cells #[.int .i64 x.f0, .string x.f1, .int .i64 x.f2] 59)
      have hbx := Xa wr (.cells #[.int .i64 x.f0, .string x.f1, .int .i64 x.f2] 59)
      have hMa := HM.out.below hBn
      have hina : inF w.heap.size r (wr.alloc (.cells #[.int .i64 x.f0, .string x.f1, .int .i64 x.f2] 59)) (fun k => o2 k = 1) (.slice A' r.length (c - 1)) := (loc_in w.heap.size r).move hin' (fun k hk _ hlt => ⟨hBn.block k hlt, hk⟩)
      have hMs := hMa.setIn hina
      have hgn := blk_ne hMa.st.box hbx Z1
      have hbs := Yc1 (p := ⟨gm + 1, 0, none⟩) hbx (Ne.symm hgn) (.slice A' r.length (c - 1))
      have hBs := (HB.out.trans (Below.mono hBn HM.out.st.base_le)).setCell (p := ⟨gm + 1, 0, none⟩) HM.out.st.hb (.slice A' r.length (c - 1))
      have ka := hMa.st.cell 0 rfl
      have fa := hMa.st.free 0
      have e0 : ((r.length : Int) + 1 == 0) = false := by simp; omega
      have p0 : ((0 : Int) < (r.length : Int) + 1) = True := eq_true Z0
      have d0 : decide ((0 : Int) < (r.length : Int) + 1) = true := decide_eq_true Z0
      have p1 : ((1 : Int) ≤ (r.length : Int) + 1) = True := eq_true Z0
      have p2 : ((r.length : Int) + 1 ≤ (c : Int)) = True := eq_true Z0
      have hgk := Aside0.mk (show l.length - (kk + 1) < gk ∧ kk + 1 ≤ l.length ∧ r.length ≤ l.length - (kk + 1) by omega)
      have hkk : kk < 5000 := by omega
      replace hMs := Aside0.mk hMs
      replace hBs := Aside0.mk hBs
      replace hbs := Aside0.mk hbs
      replace hIr := Aside0.mk hIr
      have hmi' := Aside0.mk hmi
      clear hMa hina hBn hbx hin hin' hri hA' hHA hmi hk2 hg hgn hrl hkl2
      rw [hPR'.out] at hr
      go_upto_region 13 with (fail)
      generalize (wr.alloc (.cells #[.int .i64 x.f0, .string x.f1, .int .i64 x.f2] 59)).setCell ⟨gm + 1, 0, none⟩ (.slice A' r.length (c - 1)) = ws at hMs hBs hbs ⊢
      generalize wr.heap.size = gx at hbs ⊢
      have x0 : ws.cell? ⟨gx, 0, none⟩ = some (.int .i64 x.f0) := (Ya hbs.out 0).trans rfl
      have x1 : ws.cell? ⟨gx, 1, none⟩ = some (.string x.f1) := (Ya hbs.out 1).trans rfl
      obtain ⟨mr, hmr⟩ : ∃ mr, ({ m with inp := r } : Mk) = mr := ⟨_, rfl⟩
      rw [hmr] at hMs hIr hHA'
      have hmri := Aside0.mk (show mr.inp = r by rw [← hmr])
      clear hmr k0 f0 g0 g1 g2 ka fa hsl e0 p0 d0 p1 p2
      have hOk := Aside0.mk (hIr.out.ok Z0 Z0 Z0)
      have hmx : maxLen = 9223372036854775807 := rfl
      by_cases hx1 : x.f0 = 1
      ·have ht : tokP named PR lit mr x = oneP named PR lit mr x.f1 := by unfold tokP; rw [if_pos hx1]
       rw [ht] at hHA'
       have hinv := Aside0.mk (fun m1 => YbK (m1 := m1) (named := named) hlit hIr.out x hxs.out)
       rw [ht] at hinv
       have hC := Aside0.mk (one_any hA hL hN hMs.out hOk.out x.f1 (Zo hxs.out))
       have her := Aside0.mk (fun c => err_one (named := named) (prims := PR) (lit := lit) (m := mr) (s := x.f1) (c := c))
       have hin1 := Aside0.mk (fun m1 => one_inp (named := named) (prims := PR) (lit := lit) (m := mr) (s := x.f1) (m1 := m1))
       obtain ⟨r1, hr1⟩ : ∃ r1, oneP named PR lit mr x.f1 = r1 := ⟨_, rfl⟩
       rw [hr1] at hHA' hinv hC her hin1
       rw [hx1] at x0
       clear hx1 ht hr1 hmx
       go_wp2_with fail
       refine hC.out.mono ?_
       rcases r1 with m1 | c1
       ·rintro e w5 ⟨hB5, rfl, o5, vs5, h5⟩
        have hB6 := Aside0.mk (hBs.out.trans hB5)
        replace h5 := Aside0.mk h5
        have hI5 := Aside0.mk ((hinv.out m1 rfl).more (W' := 3 * (kk + 1)) (L' := kk + 1) Z0 (Nat.le_refl _))
        have hi5 := Aside0.mk (show m1.inp.length ≤ l.length - (kk + 1) by have := hin1.out m1 rfl; rw [hmri.out] at this; have := hgk.out; omega)
        go_wp2_with fail
        go_roundg (l.length - (kk + 1))
        case measure => exact hgk.out.1
        case rel => exact ⟨kk + 1, m1, o5, vs5, hgk.out.2.1, hi5.out, Nat.le_refl _, hI5, hHA', hB6, h5⟩
       ·rintro e w5 ⟨hB5, rfl⟩
        have hB6 := Aside0.mk (hBs.out.trans hB5)
        have hc1 := her.out c1 rfl
        have q1 : (c1 == 0) = false := beq_eq_false_iff_ne.mpr hc1
        have q2 : (c1 != 0) = true := bne_iff_ne.mpr hc1
        clear hc1
        go_wp2_with fail
        have hres : r0 = ([], c1) := by
         rw [← hr.out]
         unfold Ja
         rw [← hHA'.out]
        rw [hres]
        exact bodyPost_ret (v := .tuple #[.slice none 0 0, .int .i64 c1]) Z1m rfl ⟨_, rfl, Kd.R_nil _ _ _ _ _, hB6.out⟩
      ·have e1 : (x.f0 == 1) = false := beq_eq_false_iff_ne.mpr hx1
       by_cases hx3 : x.f0 = 3
       ·have ht : tokP named PR lit mr x = .inl ((mr.add 18 0 x.f1).add 144) := by unfold tokP; rw [if_neg hx1, if_pos hx3]
        have hinv := Aside0.mk (YbK (m1 := (mr.add 18 0 x.f1).add 144) (named := named) hlit hIr.out x hxs.out ht)
        rw [ht] at hHA'
        have hol := Aside0.mk hOk.out.out
        rw [hx3] at x0
        clear hx1 ht hmx hx3 e1
        go_wp2_with fail
        refine (YW hMs.out 18 0 x.f1 (Zo hol.out)).mono ?_
        rintro e w5 ⟨rfl, hB5, o5, vs5, h5⟩
        have hB6 := Aside0.mk (hBs.out.trans hB5)
        replace h5 := Aside0.mk h5
        go_wp2_with fail
        refine (YW h5.out 144 0 ⟨#[]⟩ (by have := hol.out; simp [Mk.add]; omega)).mono ?_
        rintro e w6 ⟨rfl, hB7, o6, vs6, h6⟩
        have hB8 := Aside0.mk (hB6.out.trans hB7)
        replace h6 := Aside0.mk h6
        have hI5 := Aside0.mk (hinv.out.more (W' := 3 * (kk + 1)) (L' := kk + 1) Z0 (Nat.le_refl _))
        have hi5 := Aside0.mk (show ((mr.add 18 0 x.f1).add 144).inp.length ≤ l.length - (kk + 1) by show mr.inp.length ≤ _; rw [hmri.out]; exact hgk.out.2.2)
        clear hB5 hB7
        go_wp2_with fail
        go_roundg (l.length - (kk + 1))
        case measure => exact hgk.out.1
        case rel => exact ⟨kk + 1, _, o6, vs6, hgk.out.2.1, hi5.out, Nat.le_refl _, hI5, hHA', hB8, h6⟩
       ·have ht : tokP named PR lit mr x = .inl (mr.add 18 0 x.f1) := by unfold tokP; rw [if_neg hx1, if_neg hx3]
        have hinv := Aside0.mk (YbK (m1 := mr.add 18 0 x.f1) (named := named) hlit hIr.out x hxs.out ht)
        rw [ht] at hHA'
        have hol := Aside0.mk hOk.out.out
        have e3 : (x.f0 == 3) = false := beq_eq_false_iff_ne.mpr hx3
        clear hx1 ht hmx hx3
        go_wp2_with fail
        refine (YW hMs.out 18 0 x.f1 (Zo hol.out)).mono ?_
        rintro e w5 ⟨rfl, hB5, o5, vs5, h5⟩
        have hB6 := Aside0.mk (hBs.out.trans hB5)
        replace h5 := Aside0.mk h5
        have hI5 := Aside0.mk (hinv.out.more (W' := 3 * (kk + 1)) (L' := kk + 1) Z0 (Nat.le_refl _))
        have hi5 := Aside0.mk (show (mr.add 18 0 x.f1).inp.length ≤ l.length - (kk + 1) by show mr.inp.length ≤ _; rw [hmri.out]; exact hgk.out.2.2)
        clear hB5
        go_wp2_with fail
        go_roundg (l.length - (kk + 1))
        case measure => exact hgk.out.1
        case rel => exact ⟨kk + 1, _, o5, vs5, hgk.out.2.1, hi5.out, Nat.le_refl _, hI5, hHA', hB6, h5⟩
end
end Go.Proofs.Ytehmhgpogpbjiaa.Fcc
namespace Go.Proofs.Ytehmhgpogpbjiaa.Fcc
open Go.RowKit Go.Proofs.Ytehmhgpogpbjiaa Go.Proofs.YtehmhgpogpbjiaaW.PrintWords Go.Proofs.YtehmhgpogpbjiaaW.PrintLast Go.Proofs.YtehmhgpogpbjiaaW.PrintMore Go.Proofs.Ytehmhgpogpbjiaa.PFccTokens
noncomputable def cutP (s : ByteArray) : List S59 × Int :=
 if s.size ≤ 4096 then fin [] (Classical.choose (Ycp (s.size : Int) _ s.data.toList (Nat.lt_succ_self _))) else ([], 3)
theorem cutP_ev (s : ByteArray) : Ev (fun k => YR.f k s) (cutP s) ∧ Ev (fun k => Ye.f k s) (cutP s) := by
 unfold cutP
 by_cases h : s.size ≤ 4096
 ·rw [if_pos h]
  exact cuts s h (Classical.choose_spec (Ycp (s.size : Int) _ s.data.toList (Nat.lt_succ_self _)))
 ·rw [if_neg h]
  constructor
  ·simp only [YR.f, show (s.size : Int) > 4096 by omega, ↓reduceIte]
   exact Ev.now _
  ·simp only [Ye.f, show (s.size : Int) > 4096 by omega, ↓reduceIte]
   exact Ev.now _
theorem JX : CutC 16 cutP := by
 intro s W hs
 obtain ⟨k, h⟩ := (cutP_ev s).1.rounds
 exact YR.calls k s (cutP s).1 (cutP s).2 W h
theorem cutP_eq {s : ByteArray} {k : Nat} {r : List S59 × Int} (h : YR.f k s = some r) : cutP s = r := by
 obtain ⟨K, hK⟩ := (cutP_ev s).1
 obtain ⟨K2, hK2⟩ := Ev.of (g := fun k => YR.f k s) (YR.mono s) h
 have e1 := hK (max K K2) (Nat.le_max_left _ _)
 have e2 := hK2 (max K K2) (Nat.le_max_right _ _)
 exact Option.some.inj (e1.symm.trans e2)
theorem Ydm (t r : List UInt8) : (limL t r).2.1.length ≤ 255 := by
 unfold limL; split
 ·simp
 ·simp; omega
theorem Yb4 {acc l : List UInt8} {e : Int} {t r : List UInt8} (h : UD acc l e t r) : t.length ≤ 255 := by
 induction h with
 | none _ => simp
 | fin _ => exact Ydm _ _
 | blank _ _ => exact Ydm _ _
 | bad _ _ _ => simp
 | noend _ _ => simp
 | nohex _ _ _ => simp
 | hex _ _ _ _ ih => exact ih
theorem byt_size (l : List UInt8) : (byt l).size = l.length := rfl
theorem JM {M : Nat} {x : S59} {q : Int × List S59} (hx : x.f1.size ≤ M) (h : ∀ t ∈ q.2, t.f1.size ≤ M) : ∀ t ∈ (consT x q).2, t.f1.size ≤ M := by
 unfold consT; split
 ·intro t ht
  rcases List.mem_cons.1 ht with rfl | ht
  ·exact hx
  ·exact h t ht
 ·intro t ht; cases ht
theorem cut_texts {N : Int} {l : List UInt8} {q : Int × List S59} {M : Nat} (hM : 255 ≤ M) (h : CutR N l q) : l.length ≤ M → ∀ t ∈ q.2, t.f1.size ≤ M := by
 induction h with
 | done _ => intro _ t ht; cases ht
 | lineEnd _ _ _ _ => intro _ t ht; cases ht
 | line hL h0 hw hu hq ih => intro hl; have := Xd hu; have := XM hL h0; exact ih Z0
 | noParen _ _ _ _ => intro _ t ht; cases ht
 | paren hL h0 hw hu hq ih => intro hl; have := Xd hu; have := XM hL h0; exact ih Z0
 | bare _ _ _ _ _ _ => intro _ t ht; cases ht
 | noPrint _ _ _ _ _ => intro _ t ht; cases ht
 | longPrint _ _ _ _ _ _ => intro _ t ht; cases ht
 | print hL h0 hw hr hu ht hq ih =>
   intro hl
   have := Xd hu; have h2 := XM hL h0; rw [hr] at h2; simp at h2
   exact JM (by rw [byt_size]; omega) (ih Z0)
 | noQuot _ _ _ _ _ _ => intro _ t ht; cases ht
 | quot hL h0 hw hr hq hc ih =>
   intro hl
   have := Js hq rfl; have h2 := XM hL h0; rw [hr] at h2; simp at h2
   exact JM (by have := Yb4 hq; rw [byt_size]; omega) (ih Z0)
 | word hL h0 hw hq ih =>
   intro hl
   have h2 := XM hL h0
   have h4 : ∀ X : List UInt8, (XP X).length ≤ X.length := fun X => Nat.le_trans (Nat.le_add_right _ _) (Nat.le_of_eq (UT X))
   refine JM ?_ (ih Z0)
   rw [byt_size, List.length_map]
   refine Nat.le_trans (h4 _) ?_
   rw [← hL]
   exact Nat.le_trans (YbQ _) hl
theorem cut_ok : CutOk cutP := by
 constructor
 ·intro s
  unfold cutP
  by_cases h : s.size ≤ 4096
  ·rw [if_pos h]
   have hc := cut_count (Classical.choose_spec (Ycp (s.size : Int) _ s.data.toList (Nat.lt_succ_self _)))
   have hl : s.data.toList.length = s.size := by simp
   replace hc := Nat.le_trans hc (Nat.le_of_eq hl)
   unfold fin; dsimp only; split
   ·simp; omega
   ·simp
  ·rw [if_neg h]; simp
 ·intro s
  unfold cutP
  by_cases h : s.size ≤ 4096
  ·rw [if_pos h]
   have hl : s.data.toList.length = s.size := by simp
   have hc := cut_texts (M := 4096) Z0 (Classical.choose_spec (Ycp (s.size : Int) _ s.data.toList (Nat.lt_succ_self _))) Z0
   unfold fin; dsimp only; split
   ·simpa using hc
   ·simp
  ·rw [if_neg h]; simp
theorem hexL_len : ∀ {l : List UInt8} {h : Option Nat} {y : List UInt8}, hexL l h = some y → y.length ≤ l.length
 | [], none, y, h => by simp [hexL] at h; subst h; simp
 | [], some _, y, h => by simp [hexL] at h
 | b :: l, h, y, e => by
   unfold hexL at e
   split at e
   ·exact Nat.le_succ_of_le (hexL_len e)
   split at e
   ·cases e
   split at e
   ·exact Nat.le_succ_of_le (hexL_len e)
   ·rw [Option.map_eq_some_iff] at e
    obtain ⟨r, hr, rfl⟩ := e
    have := hexL_len hr
    simp only [List.length_cons]
    omega
theorem quot_sum {acc l : List UInt8} {e : Int} {t r : List UInt8} (h : UD acc l e t r) (he : e = 0) : t.length + r.length ≤ acc.length + l.length := by
 have hl : ∀ a b : List UInt8, (limL a b).2.1.length ≤ a.length := fun a b => by unfold limL; split <;> simp
 induction h with
 | none _ => cases he
 | fin h => have := Xd h; refine Nat.le_trans (Nat.add_le_add_right (hl _ _) _) ?_; simp at this ⊢; omega
 | blank h _ => have := Xd h; refine Nat.le_trans (Nat.add_le_add_right (hl _ _) _) ?_; simp at this ⊢; omega
 | bad _ _ _ => cases he
 | noend _ _ => cases he
 | nohex _ _ _ => cases he
 | hex h1 h2 h3 _ ih =>
   have a := Xd h1
   have b := Xd h2
   have c := ih he
   have d := hexL_len h3
   simp at a c
   omega
def CutB (n : Nat) (l : List S59) : Prop := (l.map (fun t => t.f1.size)).sum ≤ n ∧ ∀ t ∈ l, t.f0 ≠ 1 → t.f1.size ≤ 255
theorem CutB.nil (n : Nat) : CutB n [] := ⟨Z3, fun t h => by cases h⟩
theorem CutB.cons {n k : Nat} {x : S59} {q : Int × List S59} (h : CutB n q.2) (hx : x.f0 ≠ 1 → x.f1.size ≤ 255) (hn : x.f1.size + n ≤ k) : CutB k (consT x q).2 := by
 unfold consT; split
 ·refine ⟨(by simp only [List.map_cons, List.sum_cons]; have := h.1; omega), fun t ht => ?_⟩
  rcases List.mem_cons.1 ht with rfl | ht
  ·exact hx
  ·exact h.2 t ht
 ·exact CutB.nil _
theorem CutB.up {n k : Nat} {l : List S59} (h : CutB n l) (hn : n ≤ k) : CutB k l := ⟨Nat.le_trans h.1 hn, h.2⟩
theorem cut_sum {N : Int} {l : List UInt8} {q : Int × List S59} (h : CutR N l q) : CutB l.length q.2 := by
 induction h with
 | done _ => exact CutB.nil _
 | lineEnd _ _ _ _ => exact CutB.nil _
 | line hL h0 hw hu hq ih => have := Xd hu; have := XM hL h0; exact ih.up Z0
 | noParen _ _ _ _ => exact CutB.nil _
 | paren hL h0 hw hu hq ih => have := Xd hu; have := XM hL h0; exact ih.up Z0
 | bare _ _ _ _ _ _ => exact CutB.nil _
 | noPrint _ _ _ _ _ => exact CutB.nil _
 | longPrint _ _ _ _ _ _ => exact CutB.nil _
 | print hL h0 hw hr hu ht hq ih =>
   have := Xd hu; have h2 := XM hL h0; rw [hr] at h2; simp at h2
   exact ih.cons (fun _ => by rw [byt_size]; omega) (by rw [byt_size]; omega)
 | noQuot _ _ _ _ _ _ => exact CutB.nil _
 | quot hL h0 hw hr hq hc ih =>
   have h3 := quot_sum hq rfl; have h2 := XM hL h0; rw [hr] at h2; simp at h2 h3
   exact ih.cons (fun _ => by have := Yb4 hq; rw [byt_size]; omega) (by rw [byt_size]; omega)
 | word hL h0 hw hq ih =>
   rename_i l L q
   have h2 := UT L
   have h3 := YbQ l
   rw [hL] at h3
   exact ih.cons (fun h => absurd rfl h) (by rw [byt_size, List.length_map]; omega)
theorem cutP_sum (s : ByteArray) : CutB 4096 (cutP s).1 := by
 unfold cutP
 by_cases h : s.size ≤ 4096
 ·rw [if_pos h]
  have hl : s.data.toList.length = s.size := by simp
  have hc := (cut_sum (Classical.choose_spec (Ycp (s.size : Int) _ s.data.toList (Nat.lt_succ_self _)))).up (show _ ≤ 4096 by omega)
  unfold fin; dsimp only; split
  ·simpa using hc
  ·exact CutB.nil _
 ·rw [if_neg h]; exact CutB.nil _
end Go.Proofs.Ytehmhgpogpbjiaa.Fcc
namespace Go.Proofs.Ytehmhgpogpbjiaa.Fcc
open Go.RowKit Go.Proofs.YtehmhgpogpbjiaaW.PrintWords Go.Proofs.YtehmhgpogpbjiaaW.PrintLast Go.Proofs.YtehmhgpogpbjiaaW.PrintMore Go.Proofs.Ytehmhgpogpbjiaa.PFccTokens
set_option maxRecDepth 100000
set_option maxHeartbeats 4000000
theorem Yef : Jh := by
 intro s w
 by_cases h0 : s.toList = ([105, 102] : List UInt8)
 ·have hr : Xc s = true := by unfold Xc; rw [h0]; decide
  simp only [hr, if_true]
  obtain rfl := Xe h0
  clear hr h0
  go_enter Try.func34, Try.ntmps34
  go_wp2_with fail
  exact Zw
 by_cases h1 : s.toList = ([119, 104, 105, 108, 101] : List UInt8)
 ·have hr : Xc s = true := by unfold Xc; rw [h1]; decide
  simp only [hr, if_true]
  obtain rfl := Xe h1
  clear hr h1 h0
  go_enter Try.func34, Try.ntmps34
  go_wp2_with fail
  exact Zw
 by_cases h2 : s.toList = ([101, 108, 115, 101] : List UInt8)
 ·have hr : Xc s = true := by unfold Xc; rw [h2]; decide
  simp only [hr, if_true]
  obtain rfl := Xe h2
  clear hr h2 h0 h1
  go_enter Try.func34, Try.ntmps34
  go_wp2_with fail
  exact Z2u
 by_cases h3 : s.toList = ([116, 104, 101, 110] : List UInt8)
 ·have hr : Xc s = true := by unfold Xc; rw [h3]; decide
  simp only [hr, if_true]
  obtain rfl := Xe h3
  clear hr h3 h0 h1 h2
  go_enter Try.func34, Try.ntmps34
  go_wp2_with fail
  exact Zw
 by_cases h4 : s.toList = ([98, 101, 103, 105, 110] : List UInt8)
 ·have hr : Xc s = true := by unfold Xc; rw [h4]; decide
  simp only [hr, if_true]
  obtain rfl := Xe h4
  clear hr h4 h0 h1 h2 h3
  go_enter Try.func34, Try.ntmps34
  go_wp2_with fail
  exact Zw
 by_cases h5 : s.toList = ([97, 103, 97, 105, 110] : List UInt8)
 ·have hr : Xc s = true := by unfold Xc; rw [h5]; decide
  simp only [hr, if_true]
  obtain rfl := Xe h5
  clear hr h5 h0 h1 h2 h3 h4
  go_enter Try.func34, Try.ntmps34
  go_wp2_with fail
  exact Zw
 by_cases h6 : s.toList = ([117, 110, 116, 105, 108] : List UInt8)
 ·have hr : Xc s = true := by unfold Xc; rw [h6]; decide
  simp only [hr, if_true]
  obtain rfl := Xe h6
  clear hr h6 h0 h1 h2 h3 h4 h5
  go_enter Try.func34, Try.ntmps34
  go_wp2_with fail
  exact Zw
 by_cases h7 : s.toList = ([114, 101, 112, 101, 97, 116] : List UInt8)
 ·have hr : Xc s = true := by unfold Xc; rw [h7]; decide
  simp only [hr, if_true]
  obtain rfl := Xe h7
  clear hr h7 h0 h1 h2 h3 h4 h5 h6
  go_enter Try.func34, Try.ntmps34
  go_wp2_with fail
  exact Z2u
 by_cases h8 : s.toList = ([100, 111] : List UInt8)
 ·have hr : Xc s = true := by unfold Xc; rw [h8]; decide
  simp only [hr, if_true]
  obtain rfl := Xe h8
  clear hr h8 h0 h1 h2 h3 h4 h5 h6 h7
  go_enter Try.func34, Try.ntmps34
  go_wp2_with fail
  exact Zw
 by_cases h9 : s.toList = ([63, 100, 111] : List UInt8)
 ·have hr : Xc s = true := by unfold Xc; rw [h9]; decide
  simp only [hr, if_true]
  obtain rfl := Xe h9
  clear hr h9 h0 h1 h2 h3 h4 h5 h6 h7 h8
  go_enter Try.func34, Try.ntmps34
  go_wp2_with fail
  exact Zw
 by_cases h10 : s.toList = ([108, 111, 111, 112] : List UInt8)
 ·have hr : Xc s = true := by unfold Xc; rw [h10]; decide
  simp only [hr, if_true]
  obtain rfl := Xe h10
  clear hr h10 h0 h1 h2 h3 h4 h5 h6 h7 h8 h9
  go_enter Try.func34, Try.ntmps34
  go_wp2_with fail
  exact Zw
 by_cases h11 : s.toList = ([43, 108, 111, 111, 112] : List UInt8)
 ·have hr : Xc s = true := by unfold Xc; rw [h11]; decide
  simp only [hr, if_true]
  obtain rfl := Xe h11
  clear hr h11 h0 h1 h2 h3 h4 h5 h6 h7 h8 h9 h10
  go_enter Try.func34, Try.ntmps34
  go_wp2_with fail
  exact Zw
 by_cases h12 : s.toList = ([108, 101, 97, 118, 101] : List UInt8)
 ·have hr : Xc s = true := by unfold Xc; rw [h12]; decide
  simp only [hr, if_true]
  obtain rfl := Xe h12
  clear hr h12 h0 h1 h2 h3 h4 h5 h6 h7 h8 h9 h10 h11
  go_enter Try.func34, Try.ntmps34
  go_wp2_with fail
  exact Zw
 by_cases h13 : s.toList = ([99, 97, 115, 101] : List UInt8)
 ·have hr : Xc s = true := by unfold Xc; rw [h13]; decide
  simp only [hr, if_true]
  obtain rfl := Xe h13
  clear hr h13 h0 h1 h2 h3 h4 h5 h6 h7 h8 h9 h10 h11 h12
  go_enter Try.func34, Try.ntmps34
  go_wp2_with fail
  exact Zw
 by_cases h14 : s.toList = ([111, 102] : List UInt8)
 ·have hr : Xc s = true := by unfold Xc; rw [h14]; decide
  simp only [hr, if_true]
  obtain rfl := Xe h14
  clear hr h14 h0 h1 h2 h3 h4 h5 h6 h7 h8 h9 h10 h11 h12 h13
  go_enter Try.func34, Try.ntmps34
  go_wp2_with fail
  exact Zw
 by_cases h15 : s.toList = ([101, 110, 100, 111, 102] : List UInt8)
 ·have hr : Xc s = true := by unfold Xc; rw [h15]; decide
  simp only [hr, if_true]
  obtain rfl := Xe h15
  clear hr h15 h0 h1 h2 h3 h4 h5 h6 h7 h8 h9 h10 h11 h12 h13 h14
  go_enter Try.func34, Try.ntmps34
  go_wp2_with fail
  exact Zw
 by_cases h16 : s.toList = ([101, 110, 100, 99, 97, 115, 101] : List UInt8)
 ·have hr : Xc s = true := by unfold Xc; rw [h16]; decide
  simp only [hr, if_true]
  obtain rfl := Xe h16
  clear hr h16 h0 h1 h2 h3 h4 h5 h6 h7 h8 h9 h10 h11 h12 h13 h14 h15
  go_enter Try.func34, Try.ntmps34
  go_wp2_with fail
  exact Zw
 have hr : Xc s = false := by
  unfold Xc
  simp only [List.mem_cons, List.not_mem_nil, h0, h1, h2, h3, h4, h5, h6, h7, h8, h9, h10, h11, h12, h13, h14, h15, h16, or_self, decide_false]
 simp only [hr, Bool.false_eq_true, if_false]
 have b0 : (s.toList == ([105, 102] : List UInt8)) = false := beq_eq_false_iff_ne.mpr h0
 have b1 : (s.toList == ([119, 104, 105, 108, 101] : List UInt8)) = false := beq_eq_false_iff_ne.mpr h1
 have b2 : (s.toList == ([101, 108, 115, 101] : List UInt8)) = false := beq_eq_false_iff_ne.mpr h2
 have b3 : (s.toList == ([116, 104, 101, 110] : List UInt8)) = false := beq_eq_false_iff_ne.mpr h3
 have b4 : (s.toList == ([98, 101, 103, 105, 110] : List UInt8)) = false := beq_eq_false_iff_ne.mpr h4
 have b5 : (s.toList == ([97, 103, 97, 105, 110] : List UInt8)) = false := beq_eq_false_iff_ne.mpr h5
 have b6 : (s.toList == ([117, 110, 116, 105, 108] : List UInt8)) = false := beq_eq_false_iff_ne.mpr h6
 have b7 : (s.toList == ([114, 101, 112, 101, 97, 116] : List UInt8)) = false := beq_eq_false_iff_ne.mpr h7
 have b8 : (s.toList == ([100, 111] : List UInt8)) = false := beq_eq_false_iff_ne.mpr h8
 have b9 : (s.toList == ([63, 100, 111] : List UInt8)) = false := beq_eq_false_iff_ne.mpr h9
 have b10 : (s.toList == ([108, 111, 111, 112] : List UInt8)) = false := beq_eq_false_iff_ne.mpr h10
 have b11 : (s.toList == ([43, 108, 111, 111, 112] : List UInt8)) = false := beq_eq_false_iff_ne.mpr h11
 have b12 : (s.toList == ([108, 101, 97, 118, 101] : List UInt8)) = false := beq_eq_false_iff_ne.mpr h12
 have b13 : (s.toList == ([99, 97, 115, 101] : List UInt8)) = false := beq_eq_false_iff_ne.mpr h13
 have b14 : (s.toList == ([111, 102] : List UInt8)) = false := beq_eq_false_iff_ne.mpr h14
 have b15 : (s.toList == ([101, 110, 100, 111, 102] : List UInt8)) = false := beq_eq_false_iff_ne.mpr h15
 have b16 : (s.toList == ([101, 110, 100, 99, 97, 115, 101] : List UInt8)) = false := beq_eq_false_iff_ne.mpr h16
 clear hr h0 h1 h2 h3 h4 h5 h6 h7 h8 h9 h10 h11 h12 h13 h14 h15 h16
 go_enter Try.func34, Try.ntmps34
 go_wp2_with fail
 exact bodyPost_ret (v := .slice none 0 0) Zm rfl ⟨_, _, _, rfl, rfl, Below.refl _ _⟩
end Go.Proofs.Ytehmhgpogpbjiaa.Fcc
