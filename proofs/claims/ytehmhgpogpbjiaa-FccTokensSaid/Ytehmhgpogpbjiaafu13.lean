import Derived.Test.Ytehmhgpogpbjiaafu12
set_option linter.unusedVariables false
set_option linter.unusedSimpArgs false
set_option maxRecDepth 100000
set_option maxHeartbeats 8000000
namespace Go.Proofs.Ytehmhgpogpbjiaa.Fcc
section
variable {prims : List (ByteArray × Int)} {m : Mk} {named : ByteArray → Bool} {lit : ByteArray → Option Int} {c : Int}
theorem Jm (h : resolveP m = .inr c) : c ≠ 0 := by
 unfold resolveP at h
 split at h <;> cases h
 decide
theorem Yb4 {x : Int} (h : backP m x = .inr c) : c ≠ 0 := by
 unfold backP at h
 split at h <;> cases h
 decide
theorem Ye6 {s : ByteArray} {r : Res} (h : YI m s = some r) (hr : r = .inr c) : c ≠ 0 := by
 subst hr
 unfold YI at h
 split at h
 ·cases h
 split at h
 ·injection h with h
  split at h
  ·cases h; decide
  ·exact Jm h
 split at h
 ·injection h with h
  exact Jm h
 split at h
 ·cases h
 split at h
 ·injection h with h
  exact Yb4 h
 split at h
 ·injection h with h
  exact Yb4 h
 split at h
 ·injection h with h
  split at h
  ·rename_i hb
   cases h
   exact Yb4 hb
  ·exact Jm h
 ·cases h
theorem err_loop {s : ByteArray} {r : Res} (h : Vg m s = some r) (hr : r = .inr c) : c ≠ 0 := by
 subst hr
 unfold Vg at h
 split at h
 ·cases h
 split at h
 ·cases h
 split at h
 ·injection h with h
  split at h
  ·cases h; decide
  ·cases h
 split at h
 ·injection h with h
  split at h
  ·cases h; decide
  ·cases h
 ·cases h
theorem Ye5 {s : ByteArray} (h : Xg m s = .inr c) : c ≠ 0 := by
 unfold Xg at h
 split at h
 ·cases h
 split at h
 ·cases h; decide
 split at h
 ·cases h; decide
 split at h
 ·cases h
 split at h
 ·cases h
 ·cases h
theorem err_word (h : XY m = .inr c) : c ≠ 0 := by
 unfold XY at h
 split at h
 ·cases h; decide
 split at h
 ·cases h
 ·cases h; decide
theorem YaR {x : Int} (h : XE prims m x = .inr c) : c ≠ 0 := by
 unfold XE at h
 split at h
 ·rename_i hw
  cases h
  exact err_word hw
 split at h
 ·cases h; decide
 ·cases h
theorem Yd8 {s : ByteArray} (h : Xr named s m = .inr c) : c ≠ 0 := by
 unfold Xr at h
 split at h
 ·rename_i hf
  cases h
  rcases freshP_err hf with rfl | rfl <;> decide
 ·split at h <;> cases h
theorem Ye4 {s : ByteArray} (h : YV named m s = .inr c) : c ≠ 0 := by
 by_cases h1 : s.toList = ([105, 110, 115, 116, 97, 110, 99, 101] : List UInt8)
 ·have he : YV named m s = (match (match XY m with
   | .inl (s, m1) => if s.toList = ([118, 97, 108, 117, 101] : List UInt8) then .inl (m1.add 192) else .inr 15
   | .inr _ => .inr 15 : Res) with
  | .inr e => .inr e
  | .inl m1 => Xr named s m1) := by unfold YV; rw [if_pos h1]; rfl
  rw [he] at h
  split at h
  ·rename_i hq
   cases h
   split at hq
   ·split at hq
    ·cases hq
    ·cases hq; decide
   ·cases hq; decide
  ·exact Yd8 h
 ·have he : YV named m s = Xr named s m := by unfold YV; rw [if_neg h1]; rfl
  rw [he] at h
  exact Yd8 h
theorem Ye3 {s : ByteArray} (h : YF prims m s = .inr c) : c ≠ 0 := by
 unfold YF at h
 split at h
 ·split at h
  ·cases h; decide
  ·cases h
 split at h
 ·cases h
 split at h
 ·exact YaR h
 split at h
 ·rename_i r hb
  exact Ye6 hb h
 ·split at h
  ·rename_i r hb
   exact err_loop hb h
  ·exact Ye5 h
theorem err_one {s : ByteArray} (h : oneP named prims lit m s = .inr c) : c ≠ 0 := by
 unfold oneP at h
 split at h
 ·cases h; decide
 split at h
 ·exact Ye3 h
 split at h
 ·exact YaR h
 split at h
 ·exact Ye4 h
 split at h
 ·exact YaR h
 split at h
 ·cases h
 ·split at h
  ·cases h; decide
  ·cases h
theorem YcY (k : Nat) {x : Tin} {r : List Tin} (h : m.inp = x :: r) : allP named prims lit (k + 1) m = match tokP named prims lit { m with inp := r } x with
 | .inr e => .inr e
 | .inl m1 => allP named prims lit k m1 := by
 show (match m.inp with
  | [] => .inl m
  | x :: r => match tokP named prims lit { m with inp := r } x with
    | .inr e => .inr e
    | .inl m1 => allP named prims lit k m1 : Res) = _
 rw [h]
theorem Jl {m1 : Mk} (h : resolveP m = .inl m1) : m1.inp = m.inp := by
 unfold resolveP at h
 split at h <;> cases h
 rfl
theorem Yb2 {x : Int} {m1 : Mk} (h : backP m x = .inl m1) : m1.inp = m.inp := by
 unfold backP at h
 split at h <;> cases h
 rfl
theorem Ye0 {s : ByteArray} {r : Res} {m1 : Mk} (h : YI m s = some r) (hr : r = .inl m1) : m1.inp = m.inp := by
 subst hr
 unfold YI at h
 split at h
 ·cases h; rfl
 split at h
 ·injection h with h
  split at h
  ·cases h
  ·have h9 := Jl h; exact h9
 split at h
 ·injection h with h
  exact Jl h
 split at h
 ·cases h; rfl
 split at h
 ·injection h with h
  exact Yb2 h
 split at h
 ·injection h with h
  exact Yb2 h
 split at h
 ·injection h with h
  split at h
  ·cases h
  ·rename_i hb
   exact (Jl h).trans (Yb2 hb)
 ·cases h
theorem inp_loop {s : ByteArray} {r : Res} {m1 : Mk} (h : Vg m s = some r) (hr : r = .inl m1) : m1.inp = m.inp := by
 subst hr
 unfold Vg at h
 split at h
 ·cases h; rfl
 split at h
 ·cases h; rfl
 split at h
 ·injection h with h
  split at h
  ·cases h
  ·cases h; rfl
 split at h
 ·injection h with h
  split at h
  ·cases h
  ·cases h; rfl
 ·cases h
theorem YeZ {s : ByteArray} {m1 : Mk} (h : Xg m s = .inl m1) : m1.inp = m.inp := by
 unfold Xg at h
 split at h
 ·cases h; rfl
 split at h
 ·cases h
 split at h
 ·cases h
 split at h
 ·cases h; rfl
 split at h
 ·cases h; rfl
 ·cases h; rfl
theorem Yb1 {s : ByteArray} {m1 : Mk} (h : XY m = .inl (s, m1)) : m1.inp.length ≤ m.inp.length := by
 unfold XY at h
 split at h
 ·cases h
 ·rename_i t r hm
  split at h
  ·cases h
   rw [hm]
   exact Nat.le_succ _
  ·cases h
theorem YaK {x : Int} {m1 : Mk} (h : XE prims m x = .inl m1) : m1.inp.length ≤ m.inp.length := by
 unfold XE at h
 split at h
 ·cases h
 ·rename_i hw
  split at h
  ·cases h
  ·cases h
   have h9 := Yb1 hw; exact h9
theorem Yd4 {s : ByteArray} {m1 : Mk} (h : Xr named s m = .inl m1) : m1.inp.length ≤ m.inp.length := by
 unfold Xr at h
 split at h
 ·cases h
 ·rename_i s' c m2 hf
  have h2 : m2.inp.length ≤ m.inp.length := by
   unfold XO at hf
   split at hf
   ·cases hf
   ·rename_i hw
    split at hf
    ·cases hf
    split at hf
    ·cases hf
    ·cases hf
     have h9 := Yb1 hw; exact h9
  split at h <;> cases h <;> exact h2
theorem YeY {s : ByteArray} {m1 : Mk} (h : YV named m s = .inl m1) : m1.inp.length ≤ m.inp.length := by
 by_cases h1 : s.toList = ([105, 110, 115, 116, 97, 110, 99, 101] : List UInt8)
 ·have he : YV named m s = (match (match XY m with
   | .inl (s, m1) => if s.toList = ([118, 97, 108, 117, 101] : List UInt8) then .inl (m1.add 192) else .inr 15
   | .inr _ => .inr 15 : Res) with
  | .inr e => .inr e
  | .inl m1 => Xr named s m1) := by unfold YV; rw [if_pos h1]; rfl
  rw [he] at h
  split at h
  ·cases h
  ·rename_i hq
   split at hq
   ·rename_i hw
    split at hq
    ·cases hq
     have h9 := Yb1 hw; exact Nat.le_trans (Yd4 h) h9
    ·cases hq
   ·cases hq
 ·have he : YV named m s = Xr named s m := by unfold YV; rw [if_neg h1]; rfl
  rw [he] at h
  exact Yd4 h
theorem YeX {s : ByteArray} {m1 : Mk} (h : YF prims m s = .inl m1) : m1.inp.length ≤ m.inp.length := by
 unfold YF at h
 split at h
 ·split at h
  ·cases h
  ·cases h; exact Nat.le_refl _
 split at h
 ·cases h; exact Nat.le_refl _
 split at h
 ·exact YaK h
 split at h
 ·rename_i r hb
  exact Nat.le_of_eq (congrArg List.length (Ye0 hb h))
 ·split at h
  ·rename_i r hb
   exact Nat.le_of_eq (congrArg List.length (inp_loop hb h))
  ·exact Nat.le_of_eq (congrArg List.length (YeZ h))
theorem one_inp {s : ByteArray} {m1 : Mk} (h : oneP named prims lit m s = .inl m1) : m1.inp.length ≤ m.inp.length := by
 unfold oneP at h
 split at h
 ·cases h
 split at h
 ·exact YeX h
 split at h
 ·exact YaK h
 split at h
 ·exact YeY h
 split at h
 ·exact YaK h
 split at h
 ·cases h; exact Nat.le_refl _
 ·split at h
  ·cases h
  ·cases h; exact Nat.le_refl _
end
end Go.Proofs.Ytehmhgpogpbjiaa.Fcc
namespace Go.Proofs.Ytehmhgpogpbjiaa.Fcc
open Go.RowKit Go.Proofs.YtehmhgpogpbjiaaW.PrintWords Go.Proofs.YtehmhgpogpbjiaaW.PrintLast Go.Proofs.YtehmhgpogpbjiaaW.PrintMore Go.Proofs.Ytehmhgpogpbjiaa.PFccTokens
open Go.Maps (string_keyed)
def Yfg (r : List Tk × Int) (w : World) (e : Ending) (w' : World) : Prop := ∃ v, e = .returned (.tuple #[v, .int .i64 r.2]) ∧ Kd.R k37 37 w' w.heap.size (fun _ => True) v r.1 ∧ Below w.heap.size w w'
structure CutOk (cut : ByteArray → List S59 × Int) : Prop where
 len : ∀ s, (cut s).1.length ≤ 5000
 texts : ∀ s, ∀ t ∈ (cut s).1, t.f1.size ≤ 4096
section
variable {w : World} {base g : Nat} {prims : List (ByteArray × Int)} {o : Nat → Nat} {vs : List Value} {m : Mk} {named : ByteArray → Bool} {lit : ByteArray → Option Int} {cut : ByteArray → List S59 × Int} {P : List S34}
theorem Yek (hC : CutC 16 cut) (s : ByteArray) (hs : s.size ≤ maxLen) (he : (cut s).2 ≠ 0) : Calls Try.prog 7 #[.string s] w (Yfg ([], (cut s).2) w) := by
 have hC' := Aside0.mk (hC s w hs)
 generalize (cut s).2 = er at he hC' ⊢
 have e1 : (er == 0) = false := beq_eq_false_iff_ne.mpr he
 have e2 : (er != 0) = true := bne_iff_ne.mpr he
 clear he
 go_enter Try.func7, Try.ntmps7
 go_wp2_with fail
 refine hC'.out.mono ?_
 rintro e w1 ⟨v, rfl, hR, hB⟩
 replace hR := Aside0.mk hR
 go_wp2_with fail
 exact bodyPost_ret (v := .tuple #[.slice none 0 0, .int .i64 er]) Z1v rfl ⟨_, rfl, Kd.R_nil _ _ _ _ _, hB⟩
theorem tokens_ok (hA : Jn) (hL : LitC lit) (hlit : ∀ s v, lit s = some v → 0 ≤ v ∧ v < 4294967296) (hN : UZ named) (hP : PrimsC 17 P) (hPl : P.length ≤ 1000) (hPs : ∀ p ∈ P, p.f0.size ≤ maxLen ∧ 0 ≤ p.f1 ∧ p.f1 ≤ 4095) (hC : CutC 16 cut) (hK : CutOk cut) (s : ByteArray) (hs : s.size ≤ maxLen) (he : (cut s).2 = 0) :
 Calls Try.prog 7 #[.string s] w (Yfg (Uj named (P.map pr).reverse lit VB (cut s).1) w) := by
 have hC' := Aside0.mk (hC s w hs)
 have hkl := hK.len s
 have hkt := Aside0.mk (hK.texts s)
 rw [he] at hC'
 generalize (cut s).1 = l at hkl hkt hC' ⊢
 have hP' := Aside0.mk hP
 have hPs' := Aside0.mk hPs
 clear hP hPs he hC hK
 obtain ⟨r0, hr0⟩ : ∃ r0, Uj named (P.map pr).reverse lit VB l = r0 := ⟨_, rfl⟩
 rw [hr0]
 have hr := Aside0.mk hr0
 clear hr0
 go_enter Try.func7, Try.ntmps7
 go_wp2_with fail
 refine hC'.out.mono ?_
 rintro e w1 ⟨v, rfl, hR, hB⟩
 have hmm : (Instr.makeMap 52 none).run Try.prog w1 = .ok (.map (some w1.heap.size)) (w1.alloc (.map #[] 0)) := rfl
 have hBm := Yl (Below.refl w1.heap.size w1) (.map #[] 0)
 have hD := (World.ownsMap_made (H := Unit) w1 Try.prog 9 (plainElem (H := Unit) Try.prog 3))
 have hRm := Kd.R_below hR hBm
 have hsz1 : w1.heap.size < (w1.alloc (.map #[] 0)).heap.size := hD.lt
 obtain ⟨A0, c0, rfl⟩ := Kd.R_slice hR
 replace hR := Aside0.mk hR
 replace hRm := Aside0.mk hRm
 replace hD := Aside0.mk hD
 have hB1 := Aside0.mk (hB.trans (Below.mono hBm hB.size))
 have hle := Aside0.mk hB.size
 clear hB hBm hC'
 go_wp2_with fail
 refine (hP'.out _).mono ?_
 rintro e w3 ⟨vp, rfl, hRp, hB3⟩
 obtain ⟨Ap, cp, rfl, hcp, -⟩ := Kd.R_reads hRp
 have hgs : (w1.alloc (.map #[] 0)).heap.size = w1.heap.size + 1 := World.size_alloc _ _
 have hbx := XN (w1.alloc (.map #[] 0)) (.cells #[.slice A0 l.length c0, .slice none 0 0, .map (some w1.heap.size), .int .i64 2048, .bool false, .string ⟨#[]⟩, .int .i64 0, .slice none 0 0, .slice none 0 0, .slice none 0 0, .slice none 0 0, .slice none 0 0] 57)
 have hBx := Yl (Below.refl (w1.alloc (.map #[] 0)).heap.size (w1.alloc (.map #[] 0))) (.cells #[.slice A0 l.length c0, .slice none 0 0, .map (some w1.heap.size), .int .i64 2048, .bool false, .string ⟨#[]⟩, .int .i64 0, .slice none 0 0, .slice none 0 0, .slice none 0 0, .slice none 0 0, .slice none 0 0] 57)
 rw [hgs] at hbx
 have hMk := Mx.make hbx (Nat.le_trans hle.out (Nat.le_succ _)) hle.out (Kd.R_below hRm.out hBx) (hD.out.kept (VY hBx none) Z6)
 have hM3 := hMk.below hB3
 have hB4 := hB1.out.trans ((Below.mono hBx (by rw [hgs]; exact Nat.le_succ_of_le hle.out)).trans (Below.mono hB3 hMk.st.base_le))
 generalize ((w1.alloc (.map #[] 0)).alloc (.cells #[.slice A0 l.length c0, .slice none 0 0, .map (some w1.heap.size), .int .i64 2048, .bool false, .string ⟨#[]⟩, .int .i64 0, .slice none 0 0, .slice none 0 0, .slice none 0 0, .slice none 0 0, .slice none 0 0] 57)).heap.size = bp at hRp hB3
 generalize (fun k => if k = w1.heap.size + 1 then 0 else if k = w1.heap.size then 3 else 1) = o3 at hM3 hMk
 generalize [Value.slice A0 l.length c0, .slice none 0 0, .map (some w1.heap.size), .int .i64 2048, .bool false, .string ⟨#[]⟩, .int .i64 0, .slice none 0 0, .slice none 0 0, .slice none 0 0, .slice none 0 0, .slice none 0 0] = vs3 at hM3 hMk
 clear hbx hBx hMk hD hRm hR hB1 hmm hsz1 hgs hB3
 generalize w1.heap.size = gm at hM3 ⊢
 replace hM3 := Aside0.mk hM3
 replace hB4 := Aside0.mk hB4
 replace hRp := Aside0.mk hRp
 go_wp2_with fail
 go_loopg [25] P.length (fun gg s25 wr => ∃ (kk : Nat) (o1 : Nat → Nat) (vs1 : List Value), kk ≤ P.length ∧ P.length - kk ≤ gg ∧ s25 = .int .i64 kk ∧ Aside0 (Below w.heap.size w wr) ∧ Aside0 (Mx wr w.heap.size (gm + 1) ((P.take kk).map pr).reverse o1 vs1 (UH l)) ∧ Aside0 (Kd.R k34 34 wr bp (fun _ => True) (.slice Ap P.length cp) P))
 case atStart => exact ⟨0, o3, vs3, Nat.zero_le _, Z0, rfl, hB4, (by simpa using hM3), hRp⟩
 case round =>
  obtain ⟨kk, o1, vs1, hkk, hg, rfl, HB, HM, HR⟩ := hrel
  by_cases hlt : kk < P.length
  ·have hltz : (kk : Int) < (P.length : Int) := by omega
   obtain ⟨A, c, eL, _, hC⟩ := Kd.R_reads HR.out
   injection eL with eL1 _ eL3
   subst eL1 eL3
   obtain ⟨ad, e, g0, g1⟩ := at_T34 hC (kk : Int) Z0 hltz
   cases e
   have hrd : rd_T34 P (kk : Int) = P[kk]'hlt := by simp [rd_T34, List.getD_eq_getElem?_getD, hlt]
   rw [Int.toNat_natCast, hrd] at g0 g1
   have htk := Aside0.mk (show ((P.take (kk + 1)).map pr).reverse = pr (P[kk]'hlt) :: ((P.take kk).map pr).reverse by rw [List.take_add_one, List.getElem?_eq_getElem hlt, Option.toList_some, List.map_append, List.reverse_append]; rfl)
   have hp := Aside0.mk (hPs'.out _ (List.getElem_mem hlt))
   generalize P[kk]'hlt = p at g0 g1 htk hp
   have hgk := Aside0.mk (show P.length - (kk + 1) < gk ∧ kk + 1 ≤ P.length by omega)
   have hprl := Aside0.mk (show ((P.take kk).map pr).reverse.length ≤ 1000 by simp; omega)
   have hBn := Yl (Below.refl wr.heap.size wr) (.cells #[.string p.f0, .int .i64 p.f1] 34)
   have hbx := XN wr (.cells #[.string p.f0, .int .i64 p.f1] 34)
   have hMn := Aside0.mk (HM.out.below hBn)
   have hRn := Aside0.mk (Kd.R_below HR.out hBn)
   have hBB := Aside0.mk (HB.out.trans (Below.mono hBn HM.out.st.base_le))
   clear hBn hg hrd hC
   go_wp2_with fail
   generalize wr.alloc (.cells #[.string p.f0, .int .i64 p.f1] 34) = wn at hbx hMn hRn hBB ⊢
   generalize wr.heap.size = gb at hbx ⊢
   have hdr := YM (Below.refl wn.heap.size wn)
   have hMd := hMn.out.below hdr
   have hRd := Kd.R_below hRn.out hdr
   have hBd := hBB.out.trans (Below.mono hdr hMn.out.st.base_le)
   have hbd := Xq hbx
   clear hdr hbx
   obtain ⟨v0, A1, c1, b, A7, c7, A8, c8, A9, c9, A10, c10, A11, c11, rfl⟩ := hMd.cells
   refine VS (ds := [8]) (S := fun w' => w'.cell? ⟨gm + 1, 2, none⟩ = some (.map (some b)) ∧ w'.cell? ⟨gb, 0, none⟩ = some (.string p.f0) ∧ w'.cell? ⟨gb, 1, none⟩ = some (.int .i64 p.f1)) Z2 rfl rfl ⟨hMd.st.cell 2 rfl, (Yc hbd 0).trans rfl, (Yc hbd 1).trans rfl⟩ (fun tb hS => ?_)
   generalize wn.drew = wd at hMd hRd hBd hbd hS ⊢
   refine seg_ [(0, 29), (1, 30), (2, 31), (3, 32), (4, 33), (5, 34), (6, 35), (7, 36)] tb hS Z2 (fun _ _ _ _ h => h) (a' := ?_) ?_ ?_
   rotate_left
   ·repeat (first | exact Seg.nil | (refine Seg.on (v := ?_) (a1 := ?_) rfl rfl Z4 ?_ ?_ ?_; rotate_left 2; (rintro w' hS; go_split_ands; go_simp; with_reducible rfl); (simp only [Act.put, List.setIfInBounds_toArray, List.set_cons_zero, List.set_cons_succ, Yy, YA]; rfl)))
   obtain ⟨b', n, D, hv, hob, hbb, hn, hA', hD⟩ := hMd.map
   cases hv
   have hmx : maxLen = 9223372036854775807 := rfl
   have hcw : (Lit.int .i64 p.f1).wf = true := WalkArith.wf_i64 (Zo hp.out)
   have hlt9 : n < maxLen := by have := hprl.out; have h9 : n ≤ ((UH l).names ++ ((P.take kk).map pr).reverse).length := hn; rw [List.length_append] at h9; have h8 : (UH l).names.length = 0 := rfl; omega
   have hpe := plainElem_int (P := Try.prog) (e := 3) (q := .i64) (H := Unit) Try.underlying3 hcw
   replace hMd := Aside0.mk hMd
   replace hA' := Aside0.mk hA'
   replace hpe := Aside0.mk hpe
   clear hmx hcw
   refine UI 8 tb rfl Z2 ?_
   refine wpList_mapUpdate_own _ rfl _ _ _ 52 rfl 9 3 (string_keyed Try.underlying9) Try.underlying52 (plainElem Try.prog 3) b n D rfl hD hlt9 _ _ _ rfl rfl (key9 hp.out.1) _ _ hpe.out ?_
   intro w7 hown1 hg1
   have h7 := hMd.out.named1 rfl hob hbb hn hA'.out hD p.f0 p.f1 hg1 hown1
   have hR7 : Kd.R k34 34 w7 bp (fun _ => True) (.slice (some ad) P.length cp) P := Kd.R_mono (Kd.R_step (w1 := w7) (Kd.R_mono (ok' := fun k => k ≠ b) (Kd.R_bound hRd) (fun k hk e => by
    obtain ⟨_, _, _, q, hq, cells, hc⟩ := hk
    obtain ⟨es, clock, hbk, _⟩ := hD
    rw [e, hbk] at hc
    cases hc)) (fun k hk hlt => hg1.block k hlt (fun e => hk (by injection e)))) (fun _ _ => trivial)
   have hB7 := Below.grown hBd hg1 hMd.out.st.base_le (fun k e => by cases e; exact hbb)
   have h8 : Mx w7 w.heap.size (gm + 1) (pr p :: ((P.take kk).map pr).reverse) o1 _ (UH l) := ⟨h7.st, h7.len⟩
   rw [← htk.out] at h8
   replace h8 := Aside0.mk h8
   replace hR7 := Aside0.mk hR7
   replace hB7 := Aside0.mk hB7
   clear hown1 hg1 h7 hD hlt9 hbd hRd hBd
   refine ql_ (end_ tb Z2 ?_)
   go_wp2_with fail
   go_roundg (P.length - (kk + 1))
   case measure => exact hgk.out.1
   case rel => exact ⟨kk + 1, o1, _, hgk.out.2, Nat.le_refl _, ZE, hB7, h8, hR7⟩
  ·have hkk2 : kk = P.length := by omega
   subst hkk2
   have hM5 := HM.out
   rw [List.take_of_length_le (Nat.le_refl _)] at hM5
   clear hg HR hRp hM3 hB4 HM
   have hb5 := HB.out
   clear HB
   obtain ⟨PR, hPR⟩ : ∃ PR, (P.map pr).reverse = PR := ⟨_, rfl⟩
   rw [hPR] at hM5
   have hPRl : PR.length ≤ 1000 := by rw [← hPR]; simpa using hPl
   have hPRc : ∀ p ∈ PR, 0 ≤ p.2 ∧ p.2 ≤ 4095 := fun p hp => by
    rw [← hPR, List.mem_reverse, List.mem_map] at hp
    obtain ⟨q, hq, rfl⟩ := hp
    exact (hPs'.out q hq).2
   have hI0 : Inv PR 0 0 (UH l) := YcO hPRc hkt.out
   have hI0' := Aside0.mk hI0
   have hPR' := Aside0.mk hPR
   clear hI0 hPR hPRc hkt hPs' hP'
   replace hM5 := Aside0.mk hM5
   replace hb5 := Aside0.mk hb5
   go_wp2_with fail
   go_loopg [10] l.length (fun gg s10 wq => ∃ (kk : Nat) (m : Mk) (o2 : Nat → Nat) (vs2 : List Value), kk ≤ l.length ∧ m.inp.length ≤ l.length - kk ∧ l.length - kk ≤ gg ∧ Aside0 (Inv PR (3 * kk) kk m) ∧ Aside0 (allP named PR lit (l.length - kk) m = allP named PR lit l.length (UH l)) ∧ Aside0 (Below w.heap.size w wq) ∧ Aside0 (Mx wq w.heap.size (gm + 1) PR o2 vs2 m))
   case atStart => exact ⟨0, UH l, o1, vs1, Nat.zero_le _, Nat.le_refl _, Z0, hI0', ⟨rfl⟩, hb5, hM5⟩
   case round =>
    obtain ⟨kk, m, o2, vs2, hk1, hk2, hg, HI, HA, HB, HM⟩ := hrel
    obtain ⟨v0, A1, c1, b, A7, c7, A8, c8, A9, c9, A10, c10, A11, c11, rfl⟩ := HM.out.cells
    have hin : inF w.heap.size m.inp wr (fun k => o2 k = 0 + 1 + 0) v0 := HM.out.st.row 0 _ _ rfl rfl
    cases hmi : m.inp with
    | nil =>
      rw [hmi] at hin
      obtain ⟨A, c, rfl⟩ := in_nil hin
      have k0 := HM.out.st.cell 0 rfl
      have k4 := HM.out.st.cell 4 rfl
      have hall : allP named PR lit l.length (UH l) = .inl m := by
       rw [← HA.out]
       cases l.length - kk with
       | zero => rfl
       | succ k => unfold allP; rw [hmi]
      have hres : Uj named PR lit VB l = if m.opn then ([], 13) else (aimP VB (m.add 0), 0) := by
       unfold Uj
       rw [hall]
      have hI := HI.out
      rw [hPR'.out] at hr
      rw [hres] at hr
      have hkk : kk ≤ 5000 := by omega
      clear hin hg hmi hall hres hk2 HA
      cases hop : m.opn with
      | true =>
        rw [hop] at k4 hr
        clear hop
        go_wp2_with fail
        rw [← hr.out]
        exact bodyPost_ret (v := .tuple #[.slice none 0 0, .int .i64 13]) Z1v rfl ⟨_, rfl, Kd.R_nil _ _ _ _ _, HB.out⟩
      | false =>
        rw [hop] at k4 hr
        have hIa := hI.add 0 0 emp Z0 Z0 XH
        have hwt := Xf hIa.wt
        have hol := Aside0.mk (Xf hI.wt).1
        have hB0 := Aside0.mk HB.out
        have hM0 := Aside0.mk HM.out
        have hld := Aside0.mk hIa.leads
        have hfit := Aside0.mk (fun t ht => (hIa.out t ht).1)
        have hlen := Aside0.mk (show 0 < (m.add 0 0 emp).out.length ∧ (m.add 0 0 emp).out.length < 1000000000 ∧ (m.add 0 0 emp).leads.length < 1000000000 by
         refine ⟨(by simp [Mk.add]), ?_, ?_⟩
         ·have := hwt.1; omega
         ·have := hwt.2.2.2.2.1; omega)
        have hrr : r0 = (aimP VB (m.add 0 0 emp), 0) := by rw [← hr.out]; rfl
        have hrr' := Aside0.mk hrr
        clear hop hI hIa hwt hrr
        go_wp2_with fail
        refine (YW hM0.out 0 0 ⟨#[]⟩ (Zo hol.out)).mono ?_
        rintro e w5 ⟨rfl, hB5, o5, vs5, h5⟩
        have hB6 := Aside0.mk (hB0.out.trans hB5)
        replace h5 := Aside0.mk h5
        clear hB5
        go_wp2_with fail
        refine (aim_calls h5.out hfit.out hlen.out.1 hlen.out.2.1 hlen.out.2.2 (fun l hl => ⟨(hld.out l hl).1, (hld.out l hl).2⟩)).mono ?_
        rintro e w6 ⟨rfl, hB7, o6, vs6, h6⟩
        have hB8 := Aside0.mk (hB6.out.trans hB7)
        obtain ⟨v0, A1, c1, b, A7, c7, A8, c8, A9, c9, A10, c10, A11, c11, rfl⟩ := h6.cells
        have k1 := h6.st.cell 1 rfl
        have hRo := Aside0.mk (h6.st.row 1 _ _ rfl rfl : Kd.R k37 37 w6 w.heap.size _ (.slice A1 (aimP VB (m.add 0 0 emp)).length c1) (aimP VB (m.add 0 0 emp)))
        replace h6 := Aside0.mk h6
        clear hB7
        go_wp2_with fail
        rw [hrr'.out]
        exact bodyPost_ret (v := .tuple #[.slice A1 (aimP VB (m.add 0 0 ⟨#[]⟩)).length c1, .int .i64 0]) Z1v rfl ⟨_, rfl, Kd.R_mono hRo.out (fun _ _ => trivial), hB8.out⟩
    | cons x r =>
      rw [hmi] at hin
      obtain ⟨ad, c, rfl, hc, hb63, g0, g1, g2, hri⟩ := in_cons3 hin
      obtain ⟨A', hsl, hA'⟩ := Yda ad r.length c hc
      have hin' := hri A' hA'
      have k0 := HM.out.st.cell 0 rfl
      have f0 := HM.out.st.free 0
      have hxs := Aside0.mk (HI.out.inp x (by rw [hmi]; exact List.mem_cons_self))
      have hIr := HI.out.take hmi
      have hkl2 : kk < l.length := by rw [hmi, List.length_cons] at hk2; omega
      have hHA : allP named PR lit (l.length - kk) m = match tokP named PR lit { m with inp := r } x with
       | .inr e => .inr e
       | .inl m1 => allP named PR lit (l.length - (kk + 1)) m1 := by
       obtain ⟨j, hj⟩ : ∃ j, l.length - kk = j + 1 := ⟨l.length - kk - 1, Z0⟩
       rw [hj, show l.length - (kk + 1) = j by omega]
       exact YcY j hmi
      have hHA' := Aside0.mk (hHA.symm.trans HA.out)
      have hrl : r.length ≤ l.length - (kk + 1) := by rw [hmi, List.length_cons] at hk2; omega
      have hBn := Yl (Below.refl wr.heap.size wr) (.cells #[.int .i64 x.f0, .string x.f1, .int .i64 x.f2] 59)
      have hbx := XN wr (.cells #[.int .i64 x.f0, .string x.f1, .int .i64 x.f2] 59)
      have hMa := HM.out.below hBn
      have hina : inF w.heap.size r (wr.alloc (.cells #[.int .i64 x.f0, .string x.f1, .int .i64 x.f2] 59)) (fun k => o2 k = 1) (.slice A' r.length (c - 1)) := (loc_in w.heap.size r).move hin' (fun k hk _ hlt => ⟨hBn.block k hlt, hk⟩)
      have hMs := hMa.setIn hina
      have hgn := blk_ne hMa.st.box hbx Z1
      have hbs := YaX (p := ⟨gm + 1, 0, none⟩) hbx (Ne.symm hgn) (.slice A' r.length (c - 1))
      have hBs := (HB.out.trans (Below.mono hBn HM.out.st.base_le)).setCell (p := ⟨gm + 1, 0, none⟩) HM.out.st.hb (.slice A' r.length (c - 1))
      have ka := hMa.st.cell 0 rfl
      have fa := hMa.st.free 0
      have e0 : ((r.length : Int) + 1 == 0) = false := by simp; omega
      have p0 : ((0 : Int) < (r.length : Int) + 1) = True := eq_true Z0
      have d0 : decide ((0 : Int) < (r.length : Int) + 1) = true := decide_eq_true Z0
      have p1 : ((1 : Int) ≤ (r.length : Int) + 1) = True := eq_true Z0
      have p2 : ((r.length : Int) + 1 ≤ (c : Int)) = True := eq_true Z0
      have hgk := Aside0.mk (show l.length - (kk + 1) < gk ∧ kk + 1 ≤ l.length ∧ r.length ≤ l.length - (kk + 1) by omega)
      have hkk : kk < 5000 := by omega
      replace hMs := Aside0.mk hMs
      replace hBs := Aside0.mk hBs
      replace hbs := Aside0.mk hbs
      replace hIr := Aside0.mk hIr
      have hmi' := Aside0.mk hmi
      clear hMa hina hBn hbx hin hin' hri hA' hHA hmi hk2 hg hgn hrl hkl2
      rw [hPR'.out] at hr
      go_upto_region 13 with (fail)
      generalize (wr.alloc (.cells #[.int .i64 x.f0, .string x.f1, .int .i64 x.f2] 59)).setCell ⟨gm + 1, 0, none⟩ (.slice A' r.length (c - 1)) = ws at hMs hBs hbs ⊢
      generalize wr.heap.size = gx at hbs ⊢
      have x0 : ws.cell? ⟨gx, 0, none⟩ = some (.int .i64 x.f0) := (Yc hbs.out 0).trans rfl
      have x1 : ws.cell? ⟨gx, 1, none⟩ = some (.string x.f1) := (Yc hbs.out 1).trans rfl
      obtain ⟨mr, hmr⟩ : ∃ mr, ({ m with inp := r } : Mk) = mr := ⟨_, rfl⟩
      rw [hmr] at hMs hIr hHA'
      have hmri := Aside0.mk (show mr.inp = r by rw [← hmr])
      clear hmr k0 f0 g0 g1 g2 ka fa hsl e0 p0 d0 p1 p2
      have hOk := Aside0.mk (hIr.out.ok Z0 Z0 Z0)
      have hmx : maxLen = 9223372036854775807 := rfl
      by_cases hx1 : x.f0 = 1
      ·have ht : tokP named PR lit mr x = oneP named PR lit mr x.f1 := by unfold tokP; rw [if_pos hx1]
       rw [ht] at hHA'
       have hinv := Aside0.mk (fun m1 => Yb0 (m1 := m1) (named := named) hlit hIr.out x hxs.out)
       rw [ht] at hinv
       have hC := Aside0.mk (one_any hA hL hN hMs.out hOk.out x.f1 (Zo hxs.out))
       have her := Aside0.mk (fun c => err_one (named := named) (prims := PR) (lit := lit) (m := mr) (s := x.f1) (c := c))
       have hin1 := Aside0.mk (fun m1 => one_inp (named := named) (prims := PR) (lit := lit) (m := mr) (s := x.f1) (m1 := m1))
       obtain ⟨r1, hr1⟩ : ∃ r1, oneP named PR lit mr x.f1 = r1 := ⟨_, rfl⟩
       rw [hr1] at hHA' hinv hC her hin1
       rw [hx1] at x0
       clear hx1 ht hr1 hmx
       go_wp2_with fail
       refine hC.out.mono ?_
       rcases r1 with m1 | c1
       ·rintro e w5 ⟨hB5, rfl, o5, vs5, h5⟩
        have hB6 := Aside0.mk (hBs.out.trans hB5)
        replace h5 := Aside0.mk h5
        have hI5 := Aside0.mk ((hinv.out m1 rfl).more (W' := 3 * (kk + 1)) (L' := kk + 1) Z0 (Nat.le_refl _))
        have hi5 := Aside0.mk (show m1.inp.length ≤ l.length - (kk + 1) by have := hin1.out m1 rfl; rw [hmri.out] at this; have := hgk.out; omega)
        go_wp2_with fail
        go_roundg (l.length - (kk + 1))
        case measure => exact hgk.out.1
        case rel => exact ⟨kk + 1, m1, o5, vs5, hgk.out.2.1, hi5.out, Nat.le_refl _, hI5, hHA', hB6, h5⟩
       ·rintro e w5 ⟨hB5, rfl⟩
        have hB6 := Aside0.mk (hBs.out.trans hB5)
        have hc1 := her.out c1 rfl
        have q1 : (c1 == 0) = false := beq_eq_false_iff_ne.mpr hc1
        have q2 : (c1 != 0) = true := bne_iff_ne.mpr hc1
        clear hc1
        go_wp2_with fail
        have hres : r0 = ([], c1) := by
         rw [← hr.out]
         unfold Uj
         rw [← hHA'.out]
        rw [hres]
        exact bodyPost_ret (v := .tuple #[.slice none 0 0, .int .i64 c1]) Z1v rfl ⟨_, rfl, Kd.R_nil _ _ _ _ _, hB6.out⟩
      ·have e1 : (x.f0 == 1) = false := beq_eq_false_iff_ne.mpr hx1
       by_cases hx3 : x.f0 = 3
       ·have ht : tokP named PR lit mr x = .inl ((mr.add 18 0 x.f1).add 144) := by unfold tokP; rw [if_neg hx1, if_pos hx3]
        have hinv := Aside0.mk (Yb0 (m1 := (mr.add 18 0 x.f1).add 144) (named := named) hlit hIr.out x hxs.out ht)
        rw [ht] at hHA'
        have hol := Aside0.mk hOk.out.out
        rw [hx3] at x0
        clear hx1 ht hmx hx3 e1
        go_wp2_with fail
        refine (YW hMs.out 18 0 x.f1 (Zo hol.out)).mono ?_
        rintro e w5 ⟨rfl, hB5, o5, vs5, h5⟩
        have hB6 := Aside0.mk (hBs.out.trans hB5)
        replace h5 := Aside0.mk h5
        go_wp2_with fail
        refine (YW h5.out 144 0 ⟨#[]⟩ (by have := hol.out; simp [Mk.add]; omega)).mono ?_
        rintro e w6 ⟨rfl, hB7, o6, vs6, h6⟩
        have hB8 := Aside0.mk (hB6.out.trans hB7)
        replace h6 := Aside0.mk h6
        have hI5 := Aside0.mk (hinv.out.more (W' := 3 * (kk + 1)) (L' := kk + 1) Z0 (Nat.le_refl _))
        have hi5 := Aside0.mk (show ((mr.add 18 0 x.f1).add 144).inp.length ≤ l.length - (kk + 1) by show mr.inp.length ≤ _; rw [hmri.out]; exact hgk.out.2.2)
        clear hB5 hB7
        go_wp2_with fail
        go_roundg (l.length - (kk + 1))
        case measure => exact hgk.out.1
        case rel => exact ⟨kk + 1, _, o6, vs6, hgk.out.2.1, hi5.out, Nat.le_refl _, hI5, hHA', hB8, h6⟩
       ·have ht : tokP named PR lit mr x = .inl (mr.add 18 0 x.f1) := by unfold tokP; rw [if_neg hx1, if_neg hx3]
        have hinv := Aside0.mk (Yb0 (m1 := mr.add 18 0 x.f1) (named := named) hlit hIr.out x hxs.out ht)
        rw [ht] at hHA'
        have hol := Aside0.mk hOk.out.out
        have e3 : (x.f0 == 3) = false := beq_eq_false_iff_ne.mpr hx3
        clear hx1 ht hmx hx3
        go_wp2_with fail
        refine (YW hMs.out 18 0 x.f1 (Zo hol.out)).mono ?_
        rintro e w5 ⟨rfl, hB5, o5, vs5, h5⟩
        have hB6 := Aside0.mk (hBs.out.trans hB5)
        replace h5 := Aside0.mk h5
        have hI5 := Aside0.mk (hinv.out.more (W' := 3 * (kk + 1)) (L' := kk + 1) Z0 (Nat.le_refl _))
        have hi5 := Aside0.mk (show (mr.add 18 0 x.f1).inp.length ≤ l.length - (kk + 1) by show mr.inp.length ≤ _; rw [hmri.out]; exact hgk.out.2.2)
        clear hB5
        go_wp2_with fail
        go_roundg (l.length - (kk + 1))
        case measure => exact hgk.out.1
        case rel => exact ⟨kk + 1, _, o5, vs5, hgk.out.2.1, hi5.out, Nat.le_refl _, hI5, hHA', hB6, h5⟩
end
end Go.Proofs.Ytehmhgpogpbjiaa.Fcc
namespace Go.Proofs.Ytehmhgpogpbjiaa.Fcc
open Go.RowKit Go.Proofs.YtehmhgpogpbjiaaW.PrintWords Go.Proofs.YtehmhgpogpbjiaaW.PrintLast Go.Proofs.YtehmhgpogpbjiaaW.PrintMore Go.Proofs.Ytehmhgpogpbjiaa.PFccTokens
def primsL : List S34 := [⟨⟨#[105]⟩, 25⟩, ⟨⟨#[106]⟩, 26⟩, ⟨⟨#[101, 120, 101, 99, 117, 116, 101]⟩, 29⟩, ⟨⟨#[43]⟩, 30⟩, ⟨⟨#[45]⟩, 31⟩, ⟨⟨#[42]⟩, 32⟩, ⟨⟨#[47]⟩, 33⟩, ⟨⟨#[109, 111, 100]⟩, 34⟩, ⟨⟨#[97, 110, 100]⟩, 35⟩, ⟨⟨#[111, 114]⟩, 36⟩, ⟨⟨#[120, 111, 114]⟩, 37⟩, ⟨⟨#[105, 110, 118, 101, 114, 116]⟩, 38⟩, ⟨⟨#[108, 115, 104, 105, 102, 116]⟩, 39⟩, ⟨⟨#[114, 115, 104, 105, 102, 116]⟩, 40⟩, ⟨⟨#[62, 62, 97]⟩, 41⟩, ⟨⟨#[47, 109, 111, 100]⟩, 42⟩, ⟨⟨#[117, 47, 109, 111, 100]⟩, 43⟩, ⟨⟨#[110, 101, 103, 97, 116, 101]⟩, 44⟩, ⟨⟨#[97, 98, 115]⟩, 45⟩, ⟨⟨#[109, 105, 110]⟩, 46⟩, ⟨⟨#[109, 97, 120]⟩, 47⟩, ⟨⟨#[62, 114]⟩, 48⟩, ⟨⟨#[114, 62]⟩, 49⟩, ⟨⟨#[114, 64]⟩, 50⟩, ⟨⟨#[48, 61]⟩, 52⟩, ⟨⟨#[48, 60, 62]⟩, 53⟩, ⟨⟨#[48, 60]⟩, 54⟩, ⟨⟨#[48, 60, 61]⟩, 55⟩, ⟨⟨#[48, 62]⟩, 56⟩, ⟨⟨#[48, 62, 61]⟩, 57⟩, ⟨⟨#[60]⟩, 58⟩, ⟨⟨#[62]⟩, 59⟩, ⟨⟨#[61]⟩, 60⟩, ⟨⟨#[60, 62]⟩, 61⟩, ⟨⟨#[117, 62]⟩, 62⟩, ⟨⟨#[117, 60, 61]⟩, 63⟩, ⟨⟨#[117, 60]⟩, 64⟩, ⟨⟨#[117, 62, 61]⟩, 65⟩, ⟨⟨#[62, 61]⟩, 66⟩, ⟨⟨#[60, 61]⟩, 67⟩, ⟨⟨#[100, 114, 111, 112]⟩, 70⟩, ⟨⟨#[100, 117, 112]⟩, 71⟩, ⟨⟨#[111, 118, 101, 114]⟩, 72⟩, ⟨⟨#[115, 119, 97, 112]⟩, 73⟩, ⟨⟨#[114, 111, 116]⟩, 74⟩, ⟨⟨#[45, 114, 111, 116]⟩, 75⟩, ⟨⟨#[116, 117, 99, 107]⟩, 76⟩, ⟨⟨#[110, 105, 112]⟩, 77⟩, ⟨⟨#[112, 105, 99, 107]⟩, 78⟩, ⟨⟨#[114, 111, 108, 108]⟩, 79⟩, ⟨⟨#[63, 100, 117, 112]⟩, 80⟩, ⟨⟨#[100, 101, 112, 116, 104]⟩, 81⟩, ⟨⟨#[50, 100, 114, 111, 112]⟩, 82⟩, ⟨⟨#[50, 100, 117, 112]⟩, 83⟩, ⟨⟨#[50, 111, 118, 101, 114]⟩, 84⟩, ⟨⟨#[50, 115, 119, 97, 112]⟩, 85⟩, ⟨⟨#[50, 114, 111, 116]⟩, 86⟩, ⟨⟨#[50, 47]⟩, 87⟩, ⟨⟨#[117, 50, 47]⟩, 88⟩, ⟨⟨#[50, 42]⟩, 89⟩, ⟨⟨#[43, 33]⟩, 108⟩, ⟨⟨#[64]⟩, 109⟩, ⟨⟨#[119, 64]⟩, 111⟩, ⟨⟨#[99, 64]⟩, 113⟩, ⟨⟨#[33]⟩, 114⟩, ⟨⟨#[119, 33]⟩, 116⟩, ⟨⟨#[99, 33]⟩, 117⟩, ⟨⟨#[109, 111, 118, 101]⟩, 120⟩, ⟨⟨#[102, 105, 108, 108]⟩, 121⟩, ⟨⟨#[99, 111, 109, 112]⟩, 122⟩, ⟨⟨#[108, 98, 115, 112, 108, 105, 116]⟩, 126⟩, ⟨⟨#[98, 108, 106, 111, 105, 110]⟩, 127⟩, ⟨⟨#[119, 98, 102, 108, 105, 112]⟩, 128⟩, ⟨⟨#[117, 112, 99]⟩, 129⟩, ⟨⟨#[108, 99, 99]⟩, 130⟩, ⟨⟨#[117, 110, 108, 111, 111, 112]⟩, 137⟩, ⟨⟨#[97, 108, 108, 111, 99, 45, 109, 101, 109]⟩, 139⟩, ⟨⟨#[101, 109, 105, 116]⟩, 143⟩, ⟨⟨#[116, 121, 112, 101]⟩, 144⟩, ⟨⟨#[99, 114]⟩, 146⟩, ⟨⟨#[117, 46]⟩, 155⟩, ⟨⟨#[46]⟩, 157⟩, ⟨⟨#[98, 97, 115, 101, 33]⟩, 160⟩, ⟨⟨#[45, 49]⟩, 164⟩, ⟨⟨#[48]⟩, 165⟩, ⟨⟨#[49]⟩, 166⟩, ⟨⟨#[50]⟩, 167⟩, ⟨⟨#[51]⟩, 168⟩, ⟨⟨#[98, 108]⟩, 169⟩, ⟨⟨#[104, 101, 114, 101]⟩, 173⟩, ⟨⟨#[117, 109, 42]⟩, 212⟩, ⟨⟨#[117, 109, 47, 109, 111, 100]⟩, 213⟩, ⟨⟨#[100, 43]⟩, 216⟩, ⟨⟨#[100, 45]⟩, 217⟩, ⟨⟨#[112, 114, 111, 112, 101, 114, 116, 121]⟩, 272⟩, ⟨⟨#[101, 110, 99, 111, 100, 101, 45, 105, 110, 116]⟩, 273⟩, ⟨⟨#[101, 110, 99, 111, 100, 101, 43]⟩, 274⟩, ⟨⟨#[101, 110, 99, 111, 100, 101, 45, 115, 116, 114, 105, 110, 103]⟩, 276⟩, ⟨⟨#[110, 101, 119, 45, 100, 101, 118, 105, 99, 101]⟩, 287⟩, ⟨⟨#[102, 105, 110, 105, 115, 104, 45, 100, 101, 118, 105, 99, 101]⟩, 295⟩, ⟨⟨#[115, 109, 47, 114, 101, 109]⟩, 469⟩, ⟨⟨#[109, 121, 45, 115, 101, 108, 102]⟩, 515⟩, ⟨⟨#[109, 121, 45, 112, 97, 114, 101, 110, 116]⟩, 522⟩, ⟨⟨#[36, 99, 97, 108, 108, 45, 109, 101, 116, 104, 111, 100]⟩, 526⟩, ⟨⟨#[99, 97, 116, 99, 104]⟩, 535⟩, ⟨⟨#[116, 104, 114, 111, 119]⟩, 536⟩, ⟨⟨#[103, 101, 116, 45, 109, 121, 45, 112, 114, 111, 112, 101, 114, 116, 121]⟩, 538⟩, ⟨⟨#[100, 101, 99, 111, 100, 101, 45, 105, 110, 116]⟩, 539⟩, ⟨⟨#[100, 101, 99, 111, 100, 101, 45, 115, 116, 114, 105, 110, 103]⟩, 540⟩, ⟨⟨#[100, 101, 108, 101, 116, 101, 45, 112, 114, 111, 112, 101, 114, 116, 121]⟩, 542⟩, ⟨⟨#[102, 109, 47, 109, 111, 100]⟩, 725⟩]
def YdI (l : List S34) : List Value := l.flatMap fun x => [.string x.f0, .int .i64 x.f1]
theorem UU {w : World} {base : Nat} {ok : Nat → Prop} : ∀ l : List S34, Reps (k34.M w base ok) 2 l (YdI l)
 | [] => Reps.none _ _
 | x :: l => Reps.c2 (k34_mkM _ _ _ x) (UU l)
set_option maxRecDepth 1000000
set_option maxHeartbeats 20000000
theorem Ya9 : PrimsC 17 primsL := by
 intro w
 go_enter Try.func17, Try.ntmps17
 go_wp2_with ((with_reducible refine Uf (N := 112) rfl ?_); refine Kd.R_lit k34 (w0 := w) w.heap.size 34 rfl (N := 112) rfl (xs := primsL) (inner := YdI primsL) (ok := fun _ => True) (okp := fun _ => True) Z2 (UU _) (fun _ hk => hk) trivial (Below.refl _ _) (Nat.le_refl _) Z1 ?_; intro v w1 ho hb hg hat)
 go_ret
 exact ⟨_, rfl, ho, hb⟩
theorem Yay : PrimsC 10 primsL := by
 intro w
 go_enter Try.func10, Try.ntmps10
 go_wp2_with ((with_reducible refine Uf (N := 112) rfl ?_); refine Kd.R_lit k34 (w0 := w) w.heap.size 34 rfl (N := 112) rfl (xs := primsL) (inner := YdI primsL) (ok := fun _ => True) (okp := fun _ => True) Z2 (UU _) (fun _ hk => hk) trivial (Below.refl _ _) (Nat.le_refl _) Z1 ?_; intro v w1 ho hb hg hat)
 go_ret
 exact ⟨_, rfl, ho, hb⟩
end Go.Proofs.Ytehmhgpogpbjiaa.Fcc
namespace Go.Proofs.Ytehmhgpogpbjiaa
open Go.RowKit Go.Proofs.YtehmhgpogpbjiaaW.PrintWords Go.Proofs.Ytehmhgpogpbjiaa.PFccTokens
def isB (b : UInt8) : Bool := decide (b.toNat ≤ 32)
def upL (c : UInt8) : List UInt8 → Option (List UInt8 × List UInt8)
 | [] => none
 | b :: l => if b = c then some ([], l) else (upL c l).map fun p => (b :: p.1, p.2)
theorem Ja {c : UInt8} : ∀ {l t r : List UInt8}, upL c l = some (t, r) → l = t ++ c :: r ∧ c ∉ t
 | [], t, r, h => by cases h
 | b :: l, t, r, h => by
   unfold upL at h
   by_cases e : b = c
   ·rw [if_pos e] at h
    injection h with h
    injection h with h1 h2
    subst h1 h2 e
    exact ⟨rfl, Z6⟩
   ·rw [if_neg e] at h
    cases hu : upL c l with
    | none => rw [hu] at h; cases h
    | some p =>
      rw [hu] at h
      obtain ⟨p1, p2⟩ := p
      injection h with h
      injection h with h1 h2
      subst h1 h2
      obtain ⟨h3, h4⟩ := Ja hu
      exact ⟨(by rw [h3]; rfl), (by simp [h4, Ne.symm e])⟩
theorem Xi {c : UInt8} {l t r : List UInt8} (h : upL c l = some (t, r)) : l.length = t.length + 1 + r.length := by
 rw [(Ja h).1]; simp; omega
def hexv (b : UInt8) : Option Nat :=
 if 48 ≤ b.toNat ∧ b.toNat ≤ 57 then some (b.toNat - 48) else if 97 ≤ b.toNat ∧ b.toNat ≤ 102 then some (b.toNat - 87) else if 65 ≤ b.toNat ∧ b.toNat ≤ 70 then some (b.toNat - 55) else none
theorem hexv_lt {b : UInt8} {v : Nat} (h : hexv b = some v) : v < 16 := by
 unfold hexv at h
 split at h
 ·injection h; omega
 split at h
 ·injection h; omega
 split at h
 ·injection h; omega
 ·cases h
def hexL : List UInt8 → Option Nat → Option (List UInt8)
 | [], none => some []
 | [], some _ => none
 | b :: l, h => if isB b then hexL l h else match hexv b with
   | none => none
   | some v => match h with
     | none => hexL l (some v)
     | some u => (hexL l none).map fun r => UInt8.ofNat (u * 16 + v) :: r
def limL (t r : List UInt8) : Int × List UInt8 × List UInt8 := if t.length > 255 then (3, [], r) else (0, t, r)
inductive UY : List UInt8 → List UInt8 → Int → List UInt8 → List UInt8 → Prop
 | none {acc l : List UInt8} : upL 34 l = none → UY acc l 15 [] []
 | fin {acc l t : List UInt8} : upL 34 l = some (t, []) → UY acc l (limL (acc ++ t) []).1 (limL (acc ++ t) []).2.1 []
 | blank {acc l t r : List UInt8} {b : UInt8} : upL 34 l = some (t, b :: r) → isB b = true → UY acc l (limL (acc ++ t) []).1 (limL (acc ++ t) []).2.1 (b :: r)
 | bad {acc l t r : List UInt8} {b : UInt8} : upL 34 l = some (t, b :: r) → isB b = false → b ≠ 40 → UY acc l 15 [] []
 | noend {acc l t r : List UInt8} : upL 34 l = some (t, 40 :: r) → upL 41 r = none → UY acc l 15 [] []
 | nohex {acc l t r x r2 : List UInt8} : upL 34 l = some (t, 40 :: r) → upL 41 r = some (x, r2) → hexL x none = none → UY acc l 15 [] []
 | hex {acc l t r x r2 y t' r' : List UInt8} {e : Int} : upL 34 l = some (t, 40 :: r) → upL 41 r = some (x, r2) → hexL x none = some y → UY (acc ++ t ++ y) r2 e t' r' → UY acc l e t' r'
theorem quot_ex : ∀ (n : Nat) (acc l : List UInt8), l.length < n → ∃ e t r, UY acc l e t r := by
 intro n
 induction n with
 | zero => intro acc l h; omega
 | succ n ih =>
   intro acc l h
   cases hu : upL 34 l with
   | none => exact ⟨_, _, _, .none hu⟩
   | some p =>
     obtain ⟨t, r⟩ := p
     cases r with
     | nil => exact ⟨_, _, _, .fin hu⟩
     | cons b r =>
       cases hb : isB b with
       | true => exact ⟨_, _, _, .blank hu hb⟩
       | false =>
         by_cases e : b = 40
         ·subst e
          cases h2 : upL 41 r with
          | none => exact ⟨_, _, _, .noend hu h2⟩
          | some q =>
            obtain ⟨x, r2⟩ := q
            cases h3 : hexL x none with
            | none => exact ⟨_, _, _, .nohex hu h2 h3⟩
            | some y =>
              have h4 := Xi hu
              have h5 := Xi h2
              simp at h4
              obtain ⟨e, t', r', hq⟩ := ih (acc ++ t ++ y) r2 Z0
              exact ⟨e, t', r', .hex hu h2 h3 hq⟩
         ·exact ⟨_, _, _, .bad hu hb e⟩
def Um (b : UInt8) : UInt8 := if 65 ≤ b.toNat ∧ b.toNat ≤ 90 then b + 32 else b
def byt (l : List UInt8) : ByteArray := ⟨l.toArray⟩
def consT (x : S59) (r : Int × List S59) : Int × List S59 := if r.1 = 0 then (0, x :: r.2) else (r.1, [])
def XR (l : List UInt8) : List UInt8 := l.takeWhile fun b => !isB b
def XC (l : List UInt8) : List UInt8 := l.dropWhile fun b => !isB b
theorem UJ (l : List UInt8) : XR l ++ XC l = l := List.takeWhile_append_dropWhile
theorem Jw (l : List UInt8) : (XR l).length + (XC l).length = l.length := by
 rw [← List.length_append, UJ]
theorem YcU {l r : List UInt8} {b : UInt8} (h : l.dropWhile isB = b :: r) : isB b = false := by
 induction l with
 | nil => cases h
 | cons a l ih =>
   rw [List.dropWhile_cons] at h
   split at h
   ·exact ih h
   ·rename_i hb
    injection h with h1 h2
    subst h1
    simpa using hb
theorem Yd9 (l : List UInt8) : (l.dropWhile isB).length ≤ l.length := (List.dropWhile_sublist _).length_le
theorem YdP {b : UInt8} {r : List UInt8} (h : isB b = false) : 0 < (XR (b :: r)).length := by
 unfold XR
 rw [List.takeWhile_cons, if_pos (by simp [h])]
 simp
theorem JA {acc l : List UInt8} {e : Int} {t r : List UInt8} (h : UY acc l e t r) (he : e = 0) : r.length < l.length := by
 induction h with
 | none _ => cases he
 | fin h => have := Xi h; simp at this ⊢; omega
 | blank h _ => have := Xi h; simp at this ⊢; omega
 | bad _ _ _ => cases he
 | noend _ _ => cases he
 | nohex _ _ _ => cases he
 | hex h1 h2 _ _ ih =>
   have a := Xi h1
   have b := Xi h2
   have c := ih he
   simp at a
   omega
def Ud (w : List UInt8) : Prop := w = [92] ∨ w = [40] ∨ w = [46, 40] ∨ w = [34] ∨ w = [46, 34]
instance (w : List UInt8) : Decidable (Ud w) := by unfold Ud; infer_instance
inductive CutR (N : Int) : List UInt8 → Int × List S59 → Prop
 | done {l : List UInt8} : l.dropWhile isB = [] → CutR N l (0, [])
 | lineEnd {l L : List UInt8} : l.dropWhile isB = L → L ≠ [] → XR L = [92] → upL 10 (XC L) = none → CutR N l (0, [])
 | line {l L t r : List UInt8} {q : Int × List S59} : l.dropWhile isB = L → L ≠ [] → XR L = [92] → upL 10 (XC L) = some (t, r) → CutR N r q → CutR N l q
 | noParen {l L : List UInt8} : l.dropWhile isB = L → L ≠ [] → XR L = [40] → upL 41 (XC L) = none → CutR N l (15, [])
 | paren {l L t r : List UInt8} {q : Int × List S59} : l.dropWhile isB = L → L ≠ [] → XR L = [40] → upL 41 (XC L) = some (t, r) → CutR N r q → CutR N l q
 | bare {l L : List UInt8} : l.dropWhile isB = L → L ≠ [] → Ud (XR L) → XR L ≠ [92] → XR L ≠ [40] → XC L = [] → CutR N l (15, [])
 | noPrint {l L r : List UInt8} {b : UInt8} : l.dropWhile isB = L → L ≠ [] → XR L = [46, 40] → XC L = b :: r → upL 41 r = none → CutR N l (15, [])
 | longPrint {l L r t r2 : List UInt8} {b : UInt8} : l.dropWhile isB = L → L ≠ [] → XR L = [46, 40] → XC L = b :: r → upL 41 r = some (t, r2) → 255 < t.length → CutR N l (3, [])
 | print {l L r t r2 : List UInt8} {b : UInt8} {q : Int × List S59} : l.dropWhile isB = L → L ≠ [] → XR L = [46, 40] → XC L = b :: r → upL 41 r = some (t, r2) → t.length ≤ 255 → CutR N r2 q → CutR N l (consT ⟨3, byt t, N - L.length⟩ q)
 | noQuot {l L r t r2 : List UInt8} {b : UInt8} {e : Int} : l.dropWhile isB = L → L ≠ [] → XR L = [34] ∨ XR L = [46, 34] → XC L = b :: r → UY [] r e t r2 → e ≠ 0 → CutR N l (e, [])
 | quot {l L r t r2 : List UInt8} {b : UInt8} {q : Int × List S59} : l.dropWhile isB = L → L ≠ [] → XR L = [34] ∨ XR L = [46, 34] → XC L = b :: r → UY [] r 0 t r2 → CutR N r2 q → CutR N l (consT ⟨if XR L = [34] then 2 else 3, byt t, N - L.length⟩ q)
 | word {l L : List UInt8} {q : Int × List S59} : l.dropWhile isB = L → L ≠ [] → ¬ Ud (XR L) → CutR N (XC L) q → CutR N l (consT ⟨1, byt ((XR L).map Um), N - L.length⟩ q)
theorem Va {l L : List UInt8} (h : l.dropWhile isB = L) (h0 : L ≠ []) : (XC L).length < l.length := by
 cases L with
 | nil => exact absurd rfl h0
 | cons b r =>
   have h1 := YdP (r := r) (YcU h)
   have h2 := Jw (b :: r)
   have h3 := Yd9 l
   rw [h] at h3
   omega
theorem Yeb (N : Int) : ∀ (n : Nat) (l : List UInt8), l.length < n → ∃ q, CutR N l q := by
 intro n
 induction n with
 | zero => intro l h; omega
 | succ n ih =>
   intro l h
   by_cases h0 : l.dropWhile isB = []
   ·exact ⟨_, .done h0⟩
   obtain ⟨L, hL⟩ : ∃ L, l.dropWhile isB = L := ⟨_, rfl⟩
   rw [hL] at h0
   have hlt := Va hL h0
   by_cases w1 : XR L = [92]
   ·cases hu : upL 10 (XC L) with
    | none => exact ⟨_, .lineEnd hL h0 w1 hu⟩
    | some p =>
      obtain ⟨t, r⟩ := p
      have := Xi hu
      obtain ⟨q, hq⟩ := ih r Z0
      exact ⟨_, .line hL h0 w1 hu hq⟩
   by_cases w2 : XR L = [40]
   ·cases hu : upL 41 (XC L) with
    | none => exact ⟨_, .noParen hL h0 w2 hu⟩
    | some p =>
      obtain ⟨t, r⟩ := p
      have := Xi hu
      obtain ⟨q, hq⟩ := ih r Z0
      exact ⟨_, .paren hL h0 w2 hu hq⟩
   by_cases ws : Ud (XR L)
   ·cases hr : XC L with
    | nil => exact ⟨_, .bare hL h0 ws w1 w2 hr⟩
    | cons b r =>
      rw [hr] at hlt
      simp at hlt
      by_cases w3 : XR L = [46, 40]
      ·cases hu : upL 41 r with
       | none => exact ⟨_, .noPrint hL h0 w3 hr hu⟩
       | some p =>
         obtain ⟨t, r2⟩ := p
         have := Xi hu
         by_cases ht : 255 < t.length
         ·exact ⟨_, .longPrint hL h0 w3 hr hu ht⟩
         ·obtain ⟨q, hq⟩ := ih r2 Z0
          exact ⟨_, .print hL h0 w3 hr hu Z0 hq⟩
      ·have w4 : XR L = [34] ∨ XR L = [46, 34] := by
        rcases ws with a | a | a | a | a
        ·exact absurd a w1
        ·exact absurd a w2
        ·exact absurd a w3
        ·exact .inl a
        ·exact .inr a
       obtain ⟨e, t, r2, hq⟩ := quot_ex _ [] r (Nat.lt_succ_self _)
       by_cases he : e = 0
       ·subst he
        have := JA hq rfl
        obtain ⟨q, hq2⟩ := ih r2 Z0
        exact ⟨_, .quot hL h0 w4 hr hq hq2⟩
       ·exact ⟨_, .noQuot hL h0 w4 hr hq he⟩
   ·obtain ⟨q, hq⟩ := ih (XC L) Z0
    exact ⟨_, .word hL h0 ws hq⟩
end Go.Proofs.Ytehmhgpogpbjiaa
namespace Go.Proofs.Ytehmhgpogpbjiaa.PFccTokens
open Go.RowKit Go.Proofs.YtehmhgpogpbjiaaW.PrintWords Go.Proofs.YtehmhgpogpbjiaaW.PrintLast Go.Proofs.YtehmhgpogpbjiaaW.PrintMore
theorem bE {α β : Type} {o : Option α} {f : α → Option β} {r : β} (H : o.bind f = some r) : ∃ y, Aside0 (o = some y) ∧ f y = some r := by
 obtain ⟨y, h, h2⟩ := Option.bind_eq_some_iff.mp H
 exact ⟨y, ⟨h⟩, h2⟩
theorem aE {α : Type} (a : α) : ∃ y, Aside0 (y = a) := ⟨a, ⟨rfl⟩⟩
theorem eqB {α : Type} [BEq α] [LawfulBEq α] {a b : α} (h : a = b) : (a == b) = true ∧ (a != b) = false := ⟨beq_iff_eq.mpr h, bne_eq_false_iff_eq.mpr h⟩
theorem neB {α : Type} [BEq α] [LawfulBEq α] {a b : α} (h : ¬ a = b) : (a == b) = false ∧ (a != b) = true := ⟨beq_eq_false_iff_ne.mpr h, bne_iff_ne.mpr h⟩
theorem XS {p : Prop} (h : p := by
 repeat' first | (with_reducible first | apply ih0 | apply ih1 | apply ih2 | apply ih3 | apply ih4 | apply ih5 | apply ih6 | apply ih7 | exact LeO.refl _ | exact LeO.none _ | refine LeO.ite ?_ ?_ | refine LeO.bind ?_ (fun _ => ?_)) | (first | apply ih0 | apply ih1 | apply ih2 | apply ih3 | apply ih4 | apply ih5 | apply ih6 | apply ih7 | exact LeO.none _ | refine LeO.ite ?_ ?_ | refine LeO.bind ?_ (fun _ => ?_))
 done) : p := h
end Go.Proofs.Ytehmhgpogpbjiaa.PFccTokens
