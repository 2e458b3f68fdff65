/- An error's number is none of nothing. -/
import Derived.Test.Ytehmhgpogpbjiaafw20
import Derived.Test.Ytehmhgpogpbjiaafw12
import Derived.Test.Ytehmhgpogpbjiaafw17
namespace Go.Proofs.Ytehmhgpogpbjiaa.Fcc
set_option linter.unusedVariables false
section
variable {prims : List (ByteArray × Int)} {m : Mk} {named : ByteArray → Bool} {lit : ByteArray → Option Int} {c : Int}
theorem err_resolve (h : resolveP m = .inr c) : c ≠ 0 := by
  unfold resolveP at h
  split at h <;> cases h
  decide
theorem err_back {x : Int} (h : backP m x = .inr c) : c ≠ 0 := by
  unfold backP at h
  split at h <;> cases h
  decide
theorem err_branch {s : ByteArray} {r : Res} (h : branchP m s = some r) (hr : r = .inr c) : c ≠ 0 := by
  subst hr
  unfold branchP at h
  split at h
  · cases h
  split at h
  · injection h with h
    split at h
    · cases h; decide
    · exact err_resolve h
  split at h
  · injection h with h
    exact err_resolve h
  split at h
  · cases h
  split at h
  · injection h with h
    exact err_back h
  split at h
  · injection h with h
    exact err_back h
  split at h
  · injection h with h
    split at h
    · rename_i hb
      cases h
      exact err_back hb
    · exact err_resolve h
  · cases h
theorem err_loop {s : ByteArray} {r : Res} (h : loopP m s = some r) (hr : r = .inr c) : c ≠ 0 := by
  subst hr
  unfold loopP at h
  split at h
  · cases h
  split at h
  · cases h
  split at h
  · injection h with h
    split at h
    · cases h; decide
    · cases h
  split at h
  · injection h with h
    split at h
    · cases h; decide
    · cases h
  · cases h
theorem err_choose {s : ByteArray} (h : chooseP m s = .inr c) : c ≠ 0 := by
  unfold chooseP at h
  split at h
  · cases h
  split at h
  · cases h; decide
  split at h
  · cases h; decide
  split at h
  · cases h
  split at h
  · cases h
  · cases h
theorem err_word (h : wordP m = .inr c) : c ≠ 0 := by
  unfold wordP at h
  split at h
  · cases h; decide
  split at h
  · cases h
  · cases h; decide
theorem err_named {x : Int} (h : namedP prims m x = .inr c) : c ≠ 0 := by
  unfold namedP at h
  split at h
  · rename_i hw
    cases h
    exact err_word hw
  split at h
  · cases h; decide
  · cases h
theorem err_rest {s : ByteArray} (h : defRest named s m = .inr c) : c ≠ 0 := by
  unfold defRest at h
  split at h
  · rename_i hf
    cases h
    rcases freshP_err hf with rfl | rfl <;> decide
  · split at h <;> cases h
theorem err_define {s : ByteArray} (h : defineP named m s = .inr c) : c ≠ 0 := by
  by_cases h1 : s.toList = ([105, 110, 115, 116, 97, 110, 99, 101] : List UInt8)
  · have he : defineP named m s = (match (match wordP m with
      | .inl (s, m1) => if s.toList = ([118, 97, 108, 117, 101] : List UInt8) then .inl (m1.add 192) else .inr 15
      | .inr _ => .inr 15 : Res) with
    | .inr e => .inr e
    | .inl m1 => defRest named s m1) := by unfold defineP; rw [if_pos h1]; rfl
    rw [he] at h
    split at h
    · rename_i hq
      cases h
      split at hq
      · split at hq
        · cases hq
        · cases hq; decide
      · cases hq; decide
    · exact err_rest h
  · have he : defineP named m s = defRest named s m := by unfold defineP; rw [if_neg h1]; rfl
    rw [he] at h
    exact err_rest h
theorem err_within {s : ByteArray} (h : withinP prims m s = .inr c) : c ≠ 0 := by
  unfold withinP at h
  split at h
  · split at h
    · cases h; decide
    · cases h
  split at h
  · cases h
  split at h
  · exact err_named h
  split at h
  · rename_i r hb
    exact err_branch hb h
  · split at h
    · rename_i r hb
      exact err_loop hb h
    · exact err_choose h
theorem err_one {s : ByteArray} (h : oneP named prims lit m s = .inr c) : c ≠ 0 := by
  unfold oneP at h
  split at h
  · cases h; decide
  split at h
  · exact err_within h
  split at h
  · exact err_named h
  split at h
  · exact err_define h
  split at h
  · exact err_named h
  split at h
  · cases h
  · split at h
    · cases h; decide
    · cases h
theorem allP_cons (k : Nat) {x : Tin} {r : List Tin} (h : m.inp = x :: r) : allP named prims lit (k + 1) m = match tokP named prims lit { m with inp := r } x with
    | .inr e => .inr e
    | .inl m1 => allP named prims lit k m1 := by
  show (match m.inp with
    | [] => .inl m
    | x :: r => match tokP named prims lit { m with inp := r } x with
      | .inr e => .inr e
      | .inl m1 => allP named prims lit k m1 : Res) = _
  rw [h]
/-! The input gets no longer. -/
theorem inp_resolve {m1 : Mk} (h : resolveP m = .inl m1) : m1.inp = m.inp := by
  unfold resolveP at h
  split at h <;> cases h
  rfl
theorem inp_back {x : Int} {m1 : Mk} (h : backP m x = .inl m1) : m1.inp = m.inp := by
  unfold backP at h
  split at h <;> cases h
  rfl
theorem inp_branch {s : ByteArray} {r : Res} {m1 : Mk} (h : branchP m s = some r) (hr : r = .inl m1) : m1.inp = m.inp := by
  subst hr
  unfold branchP at h
  split at h
  · cases h; rfl
  split at h
  · injection h with h
    split at h
    · cases h
    · have h9 := inp_resolve h; exact h9
  split at h
  · injection h with h
    exact inp_resolve h
  split at h
  · cases h; rfl
  split at h
  · injection h with h
    exact inp_back h
  split at h
  · injection h with h
    exact inp_back h
  split at h
  · injection h with h
    split at h
    · cases h
    · rename_i hb
      exact (inp_resolve h).trans (inp_back hb)
  · cases h
theorem inp_loop {s : ByteArray} {r : Res} {m1 : Mk} (h : loopP m s = some r) (hr : r = .inl m1) : m1.inp = m.inp := by
  subst hr
  unfold loopP at h
  split at h
  · cases h; rfl
  split at h
  · cases h; rfl
  split at h
  · injection h with h
    split at h
    · cases h
    · cases h; rfl
  split at h
  · injection h with h
    split at h
    · cases h
    · cases h; rfl
  · cases h
theorem inp_choose {s : ByteArray} {m1 : Mk} (h : chooseP m s = .inl m1) : m1.inp = m.inp := by
  unfold chooseP at h
  split at h
  · cases h; rfl
  split at h
  · cases h
  split at h
  · cases h
  split at h
  · cases h; rfl
  split at h
  · cases h; rfl
  · cases h; rfl
theorem inp_word {s : ByteArray} {m1 : Mk} (h : wordP m = .inl (s, m1)) : m1.inp.length ≤ m.inp.length := by
  unfold wordP at h
  split at h
  · cases h
  · rename_i t r hm
    split at h
    · cases h
      rw [hm]
      exact Nat.le_succ _
    · cases h
theorem inp_named {x : Int} {m1 : Mk} (h : namedP prims m x = .inl m1) : m1.inp.length ≤ m.inp.length := by
  unfold namedP at h
  split at h
  · cases h
  · rename_i hw
    split at h
    · cases h
    · cases h
      have h9 := inp_word hw; exact h9
theorem inp_rest {s : ByteArray} {m1 : Mk} (h : defRest named s m = .inl m1) : m1.inp.length ≤ m.inp.length := by
  unfold defRest at h
  split at h
  · cases h
  · rename_i s' c m2 hf
    have h2 : m2.inp.length ≤ m.inp.length := by
      unfold freshP at hf
      split at hf
      · cases hf
      · rename_i hw
        split at hf
        · cases hf
        split at hf
        · cases hf
        · cases hf
          have h9 := inp_word hw; exact h9
    split at h <;> cases h <;> exact h2
theorem inp_define {s : ByteArray} {m1 : Mk} (h : defineP named m s = .inl m1) : m1.inp.length ≤ m.inp.length := by
  by_cases h1 : s.toList = ([105, 110, 115, 116, 97, 110, 99, 101] : List UInt8)
  · have he : defineP named m s = (match (match wordP m with
      | .inl (s, m1) => if s.toList = ([118, 97, 108, 117, 101] : List UInt8) then .inl (m1.add 192) else .inr 15
      | .inr _ => .inr 15 : Res) with
    | .inr e => .inr e
    | .inl m1 => defRest named s m1) := by unfold defineP; rw [if_pos h1]; rfl
    rw [he] at h
    split at h
    · cases h
    · rename_i hq
      split at hq
      · rename_i hw
        split at hq
        · cases hq
          have h9 := inp_word hw; exact Nat.le_trans (inp_rest h) h9
        · cases hq
      · cases hq
  · have he : defineP named m s = defRest named s m := by unfold defineP; rw [if_neg h1]; rfl
    rw [he] at h
    exact inp_rest h
theorem inp_within {s : ByteArray} {m1 : Mk} (h : withinP prims m s = .inl m1) : m1.inp.length ≤ m.inp.length := by
  unfold withinP at h
  split at h
  · split at h
    · cases h
    · cases h; exact Nat.le_refl _
  split at h
  · cases h; exact Nat.le_refl _
  split at h
  · exact inp_named h
  split at h
  · rename_i r hb
    exact Nat.le_of_eq (congrArg List.length (inp_branch hb h))
  · split at h
    · rename_i r hb
      exact Nat.le_of_eq (congrArg List.length (inp_loop hb h))
    · exact Nat.le_of_eq (congrArg List.length (inp_choose h))
theorem one_inp {s : ByteArray} {m1 : Mk} (h : oneP named prims lit m s = .inl m1) : m1.inp.length ≤ m.inp.length := by
  unfold oneP at h
  split at h
  · cases h
  split at h
  · exact inp_within h
  split at h
  · exact inp_named h
  split at h
  · exact inp_define h
  split at h
  · exact inp_named h
  split at h
  · cases h; exact Nat.le_refl _
  · split at h
    · cases h
    · cases h; exact Nat.le_refl _
end
end Go.Proofs.Ytehmhgpogpbjiaa.Fcc

/- Tokens: walked. -/
namespace Go.Proofs.Ytehmhgpogpbjiaa.Fcc
open Go.RowKit Go.Proofs.YtehmhgpogpbjiaaW.PrintWords Go.Proofs.YtehmhgpogpbjiaaW.PrintLast Go.Proofs.YtehmhgpogpbjiaaW.PrintMore Go.Proofs.Ytehmhgpogpbjiaa.PFccTokens
open Go.Maps (string_keyed)
set_option linter.unusedVariables false
set_option linter.unusedSimpArgs false
/-- What Tokens leaves. -/
def TPost (r : List Tk × Int) (w : World) (e : Ending) (w' : World) : Prop := ∃ v, e = .returned (.tuple #[v, .int .i64 r.2]) ∧ Kd.R k37 37 w' w.heap.size (fun _ => True) v r.1 ∧ Below w.heap.size w w'
structure CutOk (cut : ByteArray → List S59 × Int) : Prop where
  len : ∀ s, (cut s).1.length ≤ 5000
  texts : ∀ s, ∀ t ∈ (cut s).1, t.f1.size ≤ 4096
section
variable {w : World} {base g : Nat} {prims : List (ByteArray × Int)} {o : Nat → Nat} {vs : List Value} {m : Mk} {named : ByteArray → Bool} {lit : ByteArray → Option Int} {cut : ByteArray → List S59 × Int} {P : List S34}
set_option maxRecDepth 100000 in
set_option maxHeartbeats 4000000 in
theorem tokens_err (hC : CutC 16 cut) (s : ByteArray) (hs : s.size ≤ maxLen) (he : (cut s).2 ≠ 0) : Calls Try.prog 7 #[.string s] w (TPost ([], (cut s).2) w) := by
  have hC' := Aside0.mk (hC s w hs)
  generalize (cut s).2 = er at he hC' ⊢
  have e1 : (er == 0) = false := beq_eq_false_iff_ne.mpr he
  have e2 : (er != 0) = true := bne_iff_ne.mpr he
  clear he
  go_enter Try.func7, Try.ntmps7
  go_wp2_with fail
  refine hC'.out.mono ?_
  rintro e w1 ⟨v, rfl, hR, hB⟩
  replace hR := Aside0.mk hR
  go_wp2_with fail
  exact bodyPost_ret (v := .tuple #[.slice none 0 0, .int .i64 er]) (by simp [results, Try.results7, go_sem]) rfl ⟨_, rfl, Kd.R_nil _ _ _ _ _, hB⟩
set_option maxRecDepth 100000 in
set_option maxHeartbeats 4000000 in
theorem tokens_ok (hA : ActsC) (hL : LitC lit) (hlit : ∀ s v, lit s = some v → 0 ≤ v ∧ v < 4294967296) (hN : NamedC named) (hP : PrimsC 17 P) (hPl : P.length ≤ 1000) (hPs : ∀ p ∈ P, p.f0.size ≤ maxLen ∧ 0 ≤ p.f1 ∧ p.f1 ≤ 4095) (hC : CutC 16 cut) (hK : CutOk cut) (s : ByteArray) (hs : s.size ≤ maxLen) (he : (cut s).2 = 0) :
    Calls Try.prog 7 #[.string s] w (TPost (tokensP named (P.map pr).reverse lit sizeP (cut s).1) w) := by
  have hC' := Aside0.mk (hC s w hs)
  have hkl := hK.len s
  have hkt := Aside0.mk (hK.texts s)
  rw [he] at hC'
  generalize (cut s).1 = l at hkl hkt hC' ⊢
  have hP' := Aside0.mk hP
  have hPs' := Aside0.mk hPs
  clear hP hPs he hC hK
  obtain ⟨r0, hr0⟩ : ∃ r0, tokensP named (P.map pr).reverse lit sizeP l = r0 := ⟨_, rfl⟩
  rw [hr0]
  have hr := Aside0.mk hr0
  clear hr0
  go_enter Try.func7, Try.ntmps7
  go_wp2_with fail
  refine hC'.out.mono ?_
  rintro e w1 ⟨v, rfl, hR, hB⟩
  have hmm : (Instr.makeMap 52 none).run Try.prog w1 = .ok (.map (some w1.heap.size)) (w1.alloc (.map #[] 0)) := rfl
  have hBm := below_alloc (Below.refl w1.heap.size w1) (.map #[] 0)
  have hD := (World.ownsMap_made (H := Unit) w1 Try.prog 9 (plainElem (H := Unit) Try.prog 3))
  have hRm := Kd.R_below hR hBm
  have hsz1 : w1.heap.size < (w1.alloc (.map #[] 0)).heap.size := hD.lt
  obtain ⟨A0, c0, rfl⟩ := Kd.R_slice hR
  replace hR := Aside0.mk hR
  replace hRm := Aside0.mk hRm
  replace hD := Aside0.mk hD
  have hB1 := Aside0.mk (hB.trans (Below.mono hBm hB.size))
  have hle := Aside0.mk hB.size
  clear hB hBm hC'
  go_wp2_with fail
  refine (hP'.out _).mono ?_
  rintro e w3 ⟨vp, rfl, hRp, hB3⟩
  obtain ⟨Ap, cp, rfl, hcp, -⟩ := Kd.R_reads hRp
  have hgs : (w1.alloc (.map #[] 0)).heap.size = w1.heap.size + 1 := World.size_alloc _ _
  have hbx := blk_new (w1.alloc (.map #[] 0)) (.cells #[.slice A0 l.length c0, .slice none 0 0, .map (some w1.heap.size), .int .i64 2048, .bool false, .string ⟨#[]⟩, .int .i64 0, .slice none 0 0, .slice none 0 0, .slice none 0 0, .slice none 0 0, .slice none 0 0] 57)
  have hBx := below_alloc (Below.refl (w1.alloc (.map #[] 0)).heap.size (w1.alloc (.map #[] 0))) (.cells #[.slice A0 l.length c0, .slice none 0 0, .map (some w1.heap.size), .int .i64 2048, .bool false, .string ⟨#[]⟩, .int .i64 0, .slice none 0 0, .slice none 0 0, .slice none 0 0, .slice none 0 0, .slice none 0 0] 57)
  rw [hgs] at hbx
  have hMk := Mx.make hbx (Nat.le_trans hle.out (Nat.le_succ _)) hle.out (Kd.R_below hRm.out hBx) (hD.out.kept (grown_of_below hBx none) (by simp))
  have hM3 := hMk.below hB3
  have hB4 := hB1.out.trans ((Below.mono hBx (by rw [hgs]; exact Nat.le_succ_of_le hle.out)).trans (Below.mono hB3 hMk.st.base_le))
  generalize ((w1.alloc (.map #[] 0)).alloc (.cells #[.slice A0 l.length c0, .slice none 0 0, .map (some w1.heap.size), .int .i64 2048, .bool false, .string ⟨#[]⟩, .int .i64 0, .slice none 0 0, .slice none 0 0, .slice none 0 0, .slice none 0 0, .slice none 0 0] 57)).heap.size = bp at hRp hB3
  generalize (fun k => if k = w1.heap.size + 1 then 0 else if k = w1.heap.size then 3 else 1) = o3 at hM3 hMk
  generalize [Value.slice A0 l.length c0, .slice none 0 0, .map (some w1.heap.size), .int .i64 2048, .bool false, .string ⟨#[]⟩, .int .i64 0, .slice none 0 0, .slice none 0 0, .slice none 0 0, .slice none 0 0, .slice none 0 0] = vs3 at hM3 hMk
  clear hbx hBx hMk hD hRm hR hB1 hmm hsz1 hgs hB3
  generalize w1.heap.size = gm at hM3 ⊢
  replace hM3 := Aside0.mk hM3
  replace hB4 := Aside0.mk hB4
  replace hRp := Aside0.mk hRp
  go_wp2_with fail
  go_loopg [25] P.length (fun gg s25 wr => ∃ (kk : Nat) (o1 : Nat → Nat) (vs1 : List Value), kk ≤ P.length ∧ P.length - kk ≤ gg ∧ s25 = .int .i64 kk ∧ Aside0 (Below w.heap.size w wr) ∧ Aside0 (Mx wr w.heap.size (gm + 1) ((P.take kk).map pr).reverse o1 vs1 (start l)) ∧ Aside0 (Kd.R k34 34 wr bp (fun _ => True) (.slice Ap P.length cp) P))
  case atStart => exact ⟨0, o3, vs3, Nat.zero_le _, by omega, rfl, hB4, by simpa using hM3, hRp⟩
  case round =>
    obtain ⟨kk, o1, vs1, hkk, hg, rfl, HB, HM, HR⟩ := hrel
    by_cases hlt : kk < P.length
    · have hltz : (kk : Int) < (P.length : Int) := by omega
      obtain ⟨A, c, eL, _, hC⟩ := Kd.R_reads HR.out
      injection eL with eL1 _ eL3
      subst eL1 eL3
      obtain ⟨ad, e, g0, g1⟩ := at_T34 hC (kk : Int) (by omega) hltz
      cases e
      have hrd : rd_T34 P (kk : Int) = P[kk]'hlt := by simp [rd_T34, List.getD_eq_getElem?_getD, hlt]
      rw [Int.toNat_natCast, hrd] at g0 g1
      have htk := Aside0.mk (show ((P.take (kk + 1)).map pr).reverse = pr (P[kk]'hlt) :: ((P.take kk).map pr).reverse by rw [List.take_add_one, List.getElem?_eq_getElem hlt, Option.toList_some, List.map_append, List.reverse_append]; rfl)
      have hp := Aside0.mk (hPs'.out _ (List.getElem_mem hlt))
      generalize P[kk]'hlt = p at g0 g1 htk hp
      have hgk := Aside0.mk (show P.length - (kk + 1) < gk ∧ kk + 1 ≤ P.length by omega)
      have hprl := Aside0.mk (show ((P.take kk).map pr).reverse.length ≤ 1000 by simp; omega)
      have hBn := below_alloc (Below.refl wr.heap.size wr) (.cells #[.string p.f0, .int .i64 p.f1] 34)
      have hbx := blk_new wr (.cells #[.string p.f0, .int .i64 p.f1] 34)
      have hMn := Aside0.mk (HM.out.below hBn)
      have hRn := Aside0.mk (Kd.R_below HR.out hBn)
      have hBB := Aside0.mk (HB.out.trans (Below.mono hBn HM.out.st.base_le))
      clear hBn hg hrd hC
      go_wp2_with fail
      generalize wr.alloc (.cells #[.string p.f0, .int .i64 p.f1] 34) = wn at hbx hMn hRn hBB ⊢
      generalize wr.heap.size = gb at hbx ⊢
      have hdr := below_drew (Below.refl wn.heap.size wn)
      have hMd := hMn.out.below hdr
      have hRd := Kd.R_below hRn.out hdr
      have hBd := hBB.out.trans (Below.mono hdr hMn.out.st.base_le)
      have hbd := blk_drew hbx
      clear hdr hbx
      obtain ⟨v0, A1, c1, b, A7, c7, A8, c8, A9, c9, A10, c10, A11, c11, rfl⟩ := hMd.cells
      refine begin_ (ds := [8]) (S := fun w' => w'.cell? ⟨gm + 1, 2, none⟩ = some (.map (some b)) ∧ w'.cell? ⟨gb, 0, none⟩ = some (.string p.f0) ∧ w'.cell? ⟨gb, 1, none⟩ = some (.int .i64 p.f1)) (by kernel_rfl) rfl rfl ⟨hMd.st.cell 2 rfl, (blk_cell hbd 0).trans rfl, (blk_cell hbd 1).trans rfl⟩ (fun tb hS => ?_)
      generalize wn.drew = wd at hMd hRd hBd hbd hS ⊢
      refine seg_ [(0, 29), (1, 30), (2, 31), (3, 32), (4, 33), (5, 34), (6, 35), (7, 36)] tb hS (by kernel_rfl) (fun _ _ _ _ h => h) (a' := ?_) ?_ ?_
      rotate_left
      · repeat (first | exact Seg.nil | (refine Seg.on (v := ?_) (a1 := ?_) rfl rfl (by rfl) ?_ ?_ ?_; rotate_left 2; (rintro w' hS; go_split_ands; go_simp; with_reducible rfl); (simp only [Act.put, List.setIfInBounds_toArray, List.set_cons_zero, List.set_cons_succ, i64_w, i32_w]; rfl)))
      obtain ⟨b', n, D, hv, hob, hbb, hn, hA', hD⟩ := hMd.map
      cases hv
      have hmx : maxLen = 9223372036854775807 := rfl
      have hcw : (Lit.int .i64 p.f1).wf = true := WalkArith.wf_i64 (by have := hp.out; omega)
      have hlt9 : n < maxLen := by have := hprl.out; have h9 : n ≤ ((start l).names ++ ((P.take kk).map pr).reverse).length := hn; rw [List.length_append] at h9; have h8 : (start l).names.length = 0 := rfl; omega
      have hpe := plainElem_int (P := Try.prog) (e := 3) (q := .i64) (H := Unit) Try.underlying3 hcw
      replace hMd := Aside0.mk hMd
      replace hA' := Aside0.mk hA'
      replace hpe := Aside0.mk hpe
      clear hmx hcw
      refine effl_ 8 tb rfl (by kernel_rfl) ?_
      refine wpList_mapUpdate_own _ rfl _ _ _ 52 rfl 9 3 (string_keyed Try.underlying9) Try.underlying52 (plainElem Try.prog 3) b n D rfl hD hlt9 _ _ _ rfl rfl (key9 hp.out.1) _ _ hpe.out ?_
      intro w7 hown1 hg1
      have h7 := hMd.out.named1 rfl hob hbb hn hA'.out hD p.f0 p.f1 hg1 hown1
      have hR7 : Kd.R k34 34 w7 bp (fun _ => True) (.slice (some ad) P.length cp) P := Kd.R_mono (Kd.R_step (w1 := w7) (Kd.R_mono (ok' := fun k => k ≠ b) (Kd.R_bound hRd) (fun k hk e => by
        obtain ⟨_, _, _, q, hq, cells, hc⟩ := hk
        obtain ⟨es, clock, hbk, _⟩ := hD
        rw [e, hbk] at hc
        cases hc)) (fun k hk hlt => hg1.block k hlt (fun e => hk (by injection e)))) (fun _ _ => trivial)
      have hB7 := Below.grown hBd hg1 hMd.out.st.base_le (fun k e => by cases e; exact hbb)
      have h8 : Mx w7 w.heap.size (gm + 1) (pr p :: ((P.take kk).map pr).reverse) o1 _ (start l) := ⟨h7.st, h7.len⟩
      rw [← htk.out] at h8
      replace h8 := Aside0.mk h8
      replace hR7 := Aside0.mk hR7
      replace hB7 := Aside0.mk hB7
      clear hown1 hg1 h7 hD hlt9 hbd hRd hBd
      refine ql_ (end_ tb (by kernel_rfl) ?_)
      go_wp2_with fail
      go_roundg (P.length - (kk + 1))
      case measure => exact hgk.out.1
      case rel => exact ⟨kk + 1, o1, _, hgk.out.2, Nat.le_refl _, by go_num, hB7, h8, hR7⟩
    · have hkk2 : kk = P.length := by omega
      subst hkk2
      have hM5 := HM.out
      rw [List.take_of_length_le (Nat.le_refl _)] at hM5
      clear hg HR hRp hM3 hB4 HM
      have hb5 := HB.out
      clear HB
      obtain ⟨PR, hPR⟩ : ∃ PR, (P.map pr).reverse = PR := ⟨_, rfl⟩
      rw [hPR] at hM5
      have hPRl : PR.length ≤ 1000 := by rw [← hPR]; simpa using hPl
      have hPRc : ∀ p ∈ PR, 0 ≤ p.2 ∧ p.2 ≤ 4095 := fun p hp => by
        rw [← hPR, List.mem_reverse, List.mem_map] at hp
        obtain ⟨q, hq, rfl⟩ := hp
        exact (hPs'.out q hq).2
      have hI0 : Inv PR 0 0 (start l) := inv_start hPRc hkt.out
      have hI0' := Aside0.mk hI0
      have hPR' := Aside0.mk hPR
      clear hI0 hPR hPRc hkt hPs' hP'
      replace hM5 := Aside0.mk hM5
      replace hb5 := Aside0.mk hb5
      go_wp2_with fail
      go_loopg [10] l.length (fun gg s10 wq => ∃ (kk : Nat) (m : Mk) (o2 : Nat → Nat) (vs2 : List Value), kk ≤ l.length ∧ m.inp.length ≤ l.length - kk ∧ l.length - kk ≤ gg ∧ Aside0 (Inv PR (3 * kk) kk m) ∧ Aside0 (allP named PR lit (l.length - kk) m = allP named PR lit l.length (start l)) ∧ Aside0 (Below w.heap.size w wq) ∧ Aside0 (Mx wq w.heap.size (gm + 1) PR o2 vs2 m))
      case atStart => exact ⟨0, start l, o1, vs1, Nat.zero_le _, Nat.le_refl _, by omega, hI0', ⟨rfl⟩, hb5, hM5⟩
      case round =>
        obtain ⟨kk, m, o2, vs2, hk1, hk2, hg, HI, HA, HB, HM⟩ := hrel
        obtain ⟨v0, A1, c1, b, A7, c7, A8, c8, A9, c9, A10, c10, A11, c11, rfl⟩ := HM.out.cells
        have hin : inF w.heap.size m.inp wr (fun k => o2 k = 0 + 1 + 0) v0 := HM.out.st.row 0 _ _ rfl rfl
        cases hmi : m.inp with
        | nil =>
          rw [hmi] at hin
          obtain ⟨A, c, rfl⟩ := in_nil hin
          have k0 := HM.out.st.cell 0 rfl
          have k4 := HM.out.st.cell 4 rfl
          have hall : allP named PR lit l.length (start l) = .inl m := by
            rw [← HA.out]
            cases l.length - kk with
            | zero => rfl
            | succ k => unfold allP; rw [hmi]
          have hres : tokensP named PR lit sizeP l = if m.opn then ([], 13) else (aimP sizeP (m.add 0), 0) := by
            unfold tokensP
            rw [hall]
          have hI := HI.out
          rw [hPR'.out] at hr
          rw [hres] at hr
          have hkk : kk ≤ 5000 := by omega
          clear hin hg hmi hall hres hk2 HA
          cases hop : m.opn with
          | true =>
            rw [hop] at k4 hr
            clear hop
            go_wp2_with fail
            rw [← hr.out]
            exact bodyPost_ret (v := .tuple #[.slice none 0 0, .int .i64 13]) (by simp [results, Try.results7, go_sem]) rfl ⟨_, rfl, Kd.R_nil _ _ _ _ _, HB.out⟩
          | false =>
            rw [hop] at k4 hr
            have hIa := hI.add 0 0 emp (by omega) (by omega) emp_size
            have hwt := wt_all hIa.wt
            have hol := Aside0.mk (wt_all hI.wt).1
            have hB0 := Aside0.mk HB.out
            have hM0 := Aside0.mk HM.out
            have hld := Aside0.mk hIa.leads
            have hfit := Aside0.mk (fun t ht => (hIa.out t ht).1)
            have hlen := Aside0.mk (show 0 < (m.add 0 0 emp).out.length ∧ (m.add 0 0 emp).out.length < 1000000000 ∧ (m.add 0 0 emp).leads.length < 1000000000 by
              refine ⟨by simp [Mk.add], ?_, ?_⟩
              · have := hwt.1; omega
              · have := hwt.2.2.2.2.1; omega)
            have hrr : r0 = (aimP sizeP (m.add 0 0 emp), 0) := by rw [← hr.out]; rfl
            have hrr' := Aside0.mk hrr
            clear hop hI hIa hwt hrr
            go_wp2_with fail
            refine (add_calls hM0.out 0 0 ⟨#[]⟩ (by have := hol.out; omega)).mono ?_
            rintro e w5 ⟨rfl, hB5, o5, vs5, h5⟩
            have hB6 := Aside0.mk (hB0.out.trans hB5)
            replace h5 := Aside0.mk h5
            clear hB5
            go_wp2_with fail
            refine (aim_calls h5.out hfit.out hlen.out.1 hlen.out.2.1 hlen.out.2.2 (fun l hl => ⟨(hld.out l hl).1, (hld.out l hl).2⟩)).mono ?_
            rintro e w6 ⟨rfl, hB7, o6, vs6, h6⟩
            have hB8 := Aside0.mk (hB6.out.trans hB7)
            obtain ⟨v0, A1, c1, b, A7, c7, A8, c8, A9, c9, A10, c10, A11, c11, rfl⟩ := h6.cells
            have k1 := h6.st.cell 1 rfl
            have hRo := Aside0.mk (h6.st.row 1 _ _ rfl rfl : Kd.R k37 37 w6 w.heap.size _ (.slice A1 (aimP sizeP (m.add 0 0 emp)).length c1) (aimP sizeP (m.add 0 0 emp)))
            replace h6 := Aside0.mk h6
            clear hB7
            go_wp2_with fail
            rw [hrr'.out]
            exact bodyPost_ret (v := .tuple #[.slice A1 (aimP sizeP (m.add 0 0 ⟨#[]⟩)).length c1, .int .i64 0]) (by simp [results, Try.results7, go_sem]) rfl ⟨_, rfl, Kd.R_mono hRo.out (fun _ _ => trivial), hB8.out⟩
        | cons x r =>
          rw [hmi] at hin
          obtain ⟨ad, c, rfl, hc, hb63, g0, g1, g2, hri⟩ := in_cons3 hin
          obtain ⟨A', hsl, hA'⟩ := slice_from1 ad r.length c hc
          have hin' := hri A' hA'
          have k0 := HM.out.st.cell 0 rfl
          have f0 := HM.out.st.free 0
          have hxs := Aside0.mk (HI.out.inp x (by rw [hmi]; exact List.mem_cons_self))
          have hIr := HI.out.take hmi
          have hkl2 : kk < l.length := by rw [hmi, List.length_cons] at hk2; omega
          have hHA : allP named PR lit (l.length - kk) m = match tokP named PR lit { m with inp := r } x with
            | .inr e => .inr e
            | .inl m1 => allP named PR lit (l.length - (kk + 1)) m1 := by
            obtain ⟨j, hj⟩ : ∃ j, l.length - kk = j + 1 := ⟨l.length - kk - 1, by omega⟩
            rw [hj, show l.length - (kk + 1) = j by omega]
            exact allP_cons j hmi
          have hHA' := Aside0.mk (hHA.symm.trans HA.out)
          have hrl : r.length ≤ l.length - (kk + 1) := by rw [hmi, List.length_cons] at hk2; omega
          have hBn := below_alloc (Below.refl wr.heap.size wr) (.cells #[.int .i64 x.f0, .string x.f1, .int .i64 x.f2] 59)
          have hbx := blk_new wr (.cells #[.int .i64 x.f0, .string x.f1, .int .i64 x.f2] 59)
          have hMa := HM.out.below hBn
          have hina : inF w.heap.size r (wr.alloc (.cells #[.int .i64 x.f0, .string x.f1, .int .i64 x.f2] 59)) (fun k => o2 k = 1) (.slice A' r.length (c - 1)) := (loc_in w.heap.size r).move hin' (fun k hk _ hlt => ⟨hBn.block k hlt, hk⟩)
          have hMs := hMa.setIn hina
          have hgn := blk_ne hMa.st.box hbx (by decide)
          have hbs := blk_far (p := ⟨gm + 1, 0, none⟩) hbx (Ne.symm hgn) (.slice A' r.length (c - 1))
          have hBs := (HB.out.trans (Below.mono hBn HM.out.st.base_le)).setCell (p := ⟨gm + 1, 0, none⟩) HM.out.st.hb (.slice A' r.length (c - 1))
          have ka := hMa.st.cell 0 rfl
          have fa := hMa.st.free 0
          have e0 : ((r.length : Int) + 1 == 0) = false := by simp; omega
          have p0 : ((0 : Int) < (r.length : Int) + 1) = True := eq_true (by omega)
          have d0 : decide ((0 : Int) < (r.length : Int) + 1) = true := decide_eq_true (by omega)
          have p1 : ((1 : Int) ≤ (r.length : Int) + 1) = True := eq_true (by omega)
          have p2 : ((r.length : Int) + 1 ≤ (c : Int)) = True := eq_true (by omega)
          have hgk := Aside0.mk (show l.length - (kk + 1) < gk ∧ kk + 1 ≤ l.length ∧ r.length ≤ l.length - (kk + 1) by omega)
          have hkk : kk < 5000 := by omega
          replace hMs := Aside0.mk hMs
          replace hBs := Aside0.mk hBs
          replace hbs := Aside0.mk hbs
          replace hIr := Aside0.mk hIr
          have hmi' := Aside0.mk hmi
          clear hMa hina hBn hbx hin hin' hri hA' hHA hmi hk2 hg hgn hrl hkl2
          rw [hPR'.out] at hr
          go_upto_region 13 with (fail)
          generalize (wr.alloc (.cells #[.int .i64 x.f0, .string x.f1, .int .i64 x.f2] 59)).setCell ⟨gm + 1, 0, none⟩ (.slice A' r.length (c - 1)) = ws at hMs hBs hbs ⊢
          generalize wr.heap.size = gx at hbs ⊢
          have x0 : ws.cell? ⟨gx, 0, none⟩ = some (.int .i64 x.f0) := (blk_cell hbs.out 0).trans rfl
          have x1 : ws.cell? ⟨gx, 1, none⟩ = some (.string x.f1) := (blk_cell hbs.out 1).trans rfl
          obtain ⟨mr, hmr⟩ : ∃ mr, ({ m with inp := r } : Mk) = mr := ⟨_, rfl⟩
          rw [hmr] at hMs hIr hHA'
          have hmri := Aside0.mk (show mr.inp = r by rw [← hmr])
          clear hmr k0 f0 g0 g1 g2 ka fa hsl e0 p0 d0 p1 p2
          have hOk := Aside0.mk (hIr.out.ok (by omega) (by omega) (by omega))
          have hmx : maxLen = 9223372036854775807 := rfl
          by_cases hx1 : x.f0 = 1
          · have ht : tokP named PR lit mr x = oneP named PR lit mr x.f1 := by unfold tokP; rw [if_pos hx1]
            rw [ht] at hHA'
            have hinv := Aside0.mk (fun m1 => inv_tok (m1 := m1) (named := named) hlit hIr.out x hxs.out)
            rw [ht] at hinv
            have hC := Aside0.mk (one_any hA hL hN hMs.out hOk.out x.f1 (by have := hxs.out; omega))
            have her := Aside0.mk (fun c => err_one (named := named) (prims := PR) (lit := lit) (m := mr) (s := x.f1) (c := c))
            have hin1 := Aside0.mk (fun m1 => one_inp (named := named) (prims := PR) (lit := lit) (m := mr) (s := x.f1) (m1 := m1))
            obtain ⟨r1, hr1⟩ : ∃ r1, oneP named PR lit mr x.f1 = r1 := ⟨_, rfl⟩
            rw [hr1] at hHA' hinv hC her hin1
            rw [hx1] at x0
            clear hx1 ht hr1 hmx
            go_wp2_with fail
            refine hC.out.mono ?_
            rcases r1 with m1 | c1
            · rintro e w5 ⟨hB5, rfl, o5, vs5, h5⟩
              have hB6 := Aside0.mk (hBs.out.trans hB5)
              replace h5 := Aside0.mk h5
              have hI5 := Aside0.mk ((hinv.out m1 rfl).more (W' := 3 * (kk + 1)) (L' := kk + 1) (by omega) (Nat.le_refl _))
              have hi5 := Aside0.mk (show m1.inp.length ≤ l.length - (kk + 1) by have := hin1.out m1 rfl; rw [hmri.out] at this; have := hgk.out; omega)
              go_wp2_with fail
              go_roundg (l.length - (kk + 1))
              case measure => exact hgk.out.1
              case rel => exact ⟨kk + 1, m1, o5, vs5, hgk.out.2.1, hi5.out, Nat.le_refl _, hI5, hHA', hB6, h5⟩
            · rintro e w5 ⟨hB5, rfl⟩
              have hB6 := Aside0.mk (hBs.out.trans hB5)
              have hc1 := her.out c1 rfl
              have q1 : (c1 == 0) = false := beq_eq_false_iff_ne.mpr hc1
              have q2 : (c1 != 0) = true := bne_iff_ne.mpr hc1
              clear hc1
              go_wp2_with fail
              have hres : r0 = ([], c1) := by
                rw [← hr.out]
                unfold tokensP
                rw [← hHA'.out]
              rw [hres]
              exact bodyPost_ret (v := .tuple #[.slice none 0 0, .int .i64 c1]) (by simp [results, Try.results7, go_sem]) rfl ⟨_, rfl, Kd.R_nil _ _ _ _ _, hB6.out⟩
          · have e1 : (x.f0 == 1) = false := beq_eq_false_iff_ne.mpr hx1
            by_cases hx3 : x.f0 = 3
            · have ht : tokP named PR lit mr x = .inl ((mr.add 18 0 x.f1).add 144) := by unfold tokP; rw [if_neg hx1, if_pos hx3]
              have hinv := Aside0.mk (inv_tok (m1 := (mr.add 18 0 x.f1).add 144) (named := named) hlit hIr.out x hxs.out ht)
              rw [ht] at hHA'
              have hol := Aside0.mk hOk.out.out
              rw [hx3] at x0
              clear hx1 ht hmx hx3 e1
              go_wp2_with fail
              refine (add_calls hMs.out 18 0 x.f1 (by have := hol.out; omega)).mono ?_
              rintro e w5 ⟨rfl, hB5, o5, vs5, h5⟩
              have hB6 := Aside0.mk (hBs.out.trans hB5)
              replace h5 := Aside0.mk h5
              go_wp2_with fail
              refine (add_calls h5.out 144 0 ⟨#[]⟩ (by have := hol.out; simp [Mk.add]; omega)).mono ?_
              rintro e w6 ⟨rfl, hB7, o6, vs6, h6⟩
              have hB8 := Aside0.mk (hB6.out.trans hB7)
              replace h6 := Aside0.mk h6
              have hI5 := Aside0.mk (hinv.out.more (W' := 3 * (kk + 1)) (L' := kk + 1) (by omega) (Nat.le_refl _))
              have hi5 := Aside0.mk (show ((mr.add 18 0 x.f1).add 144).inp.length ≤ l.length - (kk + 1) by show mr.inp.length ≤ _; rw [hmri.out]; exact hgk.out.2.2)
              clear hB5 hB7
              go_wp2_with fail
              go_roundg (l.length - (kk + 1))
              case measure => exact hgk.out.1
              case rel => exact ⟨kk + 1, _, o6, vs6, hgk.out.2.1, hi5.out, Nat.le_refl _, hI5, hHA', hB8, h6⟩
            · have ht : tokP named PR lit mr x = .inl (mr.add 18 0 x.f1) := by unfold tokP; rw [if_neg hx1, if_neg hx3]
              have hinv := Aside0.mk (inv_tok (m1 := mr.add 18 0 x.f1) (named := named) hlit hIr.out x hxs.out ht)
              rw [ht] at hHA'
              have hol := Aside0.mk hOk.out.out
              have e3 : (x.f0 == 3) = false := beq_eq_false_iff_ne.mpr hx3
              clear hx1 ht hmx hx3
              go_wp2_with fail
              refine (add_calls hMs.out 18 0 x.f1 (by have := hol.out; omega)).mono ?_
              rintro e w5 ⟨rfl, hB5, o5, vs5, h5⟩
              have hB6 := Aside0.mk (hBs.out.trans hB5)
              replace h5 := Aside0.mk h5
              have hI5 := Aside0.mk (hinv.out.more (W' := 3 * (kk + 1)) (L' := kk + 1) (by omega) (Nat.le_refl _))
              have hi5 := Aside0.mk (show (mr.add 18 0 x.f1).inp.length ≤ l.length - (kk + 1) by show mr.inp.length ≤ _; rw [hmri.out]; exact hgk.out.2.2)
              clear hB5
              go_wp2_with fail
              go_roundg (l.length - (kk + 1))
              case measure => exact hgk.out.1
              case rel => exact ⟨kk + 1, _, o5, vs5, hgk.out.2.1, hi5.out, Nat.le_refl _, hI5, hHA', hB6, h5⟩
end
end Go.Proofs.Ytehmhgpogpbjiaa.Fcc

/- Cut, of the program (16) and of the reference (21), as one plain function cutP. -/
namespace Go.Proofs.Ytehmhgpogpbjiaa.Fcc
open Go.RowKit Go.Proofs.Ytehmhgpogpbjiaa Go.Proofs.YtehmhgpogpbjiaaW.PrintWords Go.Proofs.YtehmhgpogpbjiaaW.PrintLast Go.Proofs.YtehmhgpogpbjiaaW.PrintMore Go.Proofs.Ytehmhgpogpbjiaa.PFccTokens
set_option linter.unusedVariables false
set_option linter.unusedSimpArgs false
noncomputable def cutP (s : ByteArray) : List S59 × Int :=
  if s.size ≤ 4096 then fin [] (Classical.choose (cut_ex (s.size : Int) _ s.data.toList (Nat.lt_succ_self _))) else ([], 3)
theorem cutP_ev (s : ByteArray) : Ev (fun k => scan_Cut.f k s) (cutP s) ∧ Ev (fun k => tinderref06_Cut.f k s) (cutP s) := by
  unfold cutP
  by_cases h : s.size ≤ 4096
  · rw [if_pos h]
    exact cuts s h (Classical.choose_spec (cut_ex (s.size : Int) _ s.data.toList (Nat.lt_succ_self _)))
  · rw [if_neg h]
    constructor
    · simp only [scan_Cut.f, show (s.size : Int) > 4096 by omega, ↓reduceIte]
      exact Ev.now _
    · simp only [tinderref06_Cut.f, show (s.size : Int) > 4096 by omega, ↓reduceIte]
      exact Ev.now _
theorem cut_contract : CutC 16 cutP := by
  intro s W hs
  obtain ⟨k, h⟩ := (cutP_ev s).1.rounds
  exact scan_Cut.calls k s (cutP s).1 (cutP s).2 W h
/-- What a text is cut to, found by running the printed function. -/
theorem cutP_eq {s : ByteArray} {k : Nat} {r : List S59 × Int} (h : scan_Cut.f k s = some r) : cutP s = r := by
  obtain ⟨K, hK⟩ := (cutP_ev s).1
  obtain ⟨K2, hK2⟩ := Ev.of (g := fun k => scan_Cut.f k s) (scan_Cut.mono s) h
  have e1 := hK (max K K2) (Nat.le_max_left _ _)
  have e2 := hK2 (max K K2) (Nat.le_max_right _ _)
  exact Option.some.inj (e1.symm.trans e2)
theorem limL_len (t r : List UInt8) : (limL t r).2.1.length ≤ 255 := by
  unfold limL; split
  · simp
  · simp; omega
theorem quot_text {acc l : List UInt8} {e : Int} {t r : List UInt8} (h : QuotR acc l e t r) : t.length ≤ 255 := by
  induction h with
  | none _ => simp
  | fin _ => exact limL_len _ _
  | blank _ _ => exact limL_len _ _
  | bad _ _ _ => simp
  | noend _ _ => simp
  | nohex _ _ _ => simp
  | hex _ _ _ _ ih => exact ih
theorem byt_size (l : List UInt8) : (byt l).size = l.length := rfl
theorem cons_texts {M : Nat} {x : S59} {q : Int × List S59} (hx : x.f1.size ≤ M) (h : ∀ t ∈ q.2, t.f1.size ≤ M) : ∀ t ∈ (consT x q).2, t.f1.size ≤ M := by
  unfold consT; split
  · intro t ht
    rcases List.mem_cons.1 ht with rfl | ht
    · exact hx
    · exact h t ht
  · intro t ht; cases ht
theorem cut_texts {N : Int} {l : List UInt8} {q : Int × List S59} {M : Nat} (hM : 255 ≤ M) (h : CutR N l q) : l.length ≤ M → ∀ t ∈ q.2, t.f1.size ≤ M := by
  induction h with
  | done _ => intro _ t ht; cases ht
  | lineEnd _ _ _ _ => intro _ t ht; cases ht
  | line hL h0 hw hu hq ih => intro hl; have := upL_len hu; have := rest_lt hL h0; exact ih (by omega)
  | noParen _ _ _ _ => intro _ t ht; cases ht
  | paren hL h0 hw hu hq ih => intro hl; have := upL_len hu; have := rest_lt hL h0; exact ih (by omega)
  | bare _ _ _ _ _ _ => intro _ t ht; cases ht
  | noPrint _ _ _ _ _ => intro _ t ht; cases ht
  | longPrint _ _ _ _ _ _ => intro _ t ht; cases ht
  | print hL h0 hw hr hu ht hq ih =>
    intro hl
    have := upL_len hu; have h2 := rest_lt hL h0; rw [hr] at h2; simp at h2
    exact cons_texts (by rw [byt_size]; omega) (ih (by omega))
  | noQuot _ _ _ _ _ _ => intro _ t ht; cases ht
  | quot hL h0 hw hr hq hc ih =>
    intro hl
    have := quot_len hq rfl; have h2 := rest_lt hL h0; rw [hr] at h2; simp at h2
    exact cons_texts (by have := quot_text hq; rw [byt_size]; omega) (ih (by omega))
  | word hL h0 hw hq ih =>
    intro hl
    have h2 := rest_lt hL h0
    have h4 : ∀ X : List UInt8, (wordL X).length ≤ X.length := fun X => Nat.le_trans (Nat.le_add_right _ _) (Nat.le_of_eq (rest_len X))
    refine cons_texts ?_ (ih (by omega))
    rw [byt_size, List.length_map]
    refine Nat.le_trans (h4 _) ?_
    rw [← hL]
    exact Nat.le_trans (drop_len _) hl
theorem cut_ok : CutOk cutP := by
  constructor
  · intro s
    unfold cutP
    by_cases h : s.size ≤ 4096
    · rw [if_pos h]
      have hc := cut_count (Classical.choose_spec (cut_ex (s.size : Int) _ s.data.toList (Nat.lt_succ_self _)))
      have hl : s.data.toList.length = s.size := by simp
      replace hc := Nat.le_trans hc (Nat.le_of_eq hl)
      unfold fin; dsimp only; split
      · simp; omega
      · simp
    · rw [if_neg h]; simp
  · intro s
    unfold cutP
    by_cases h : s.size ≤ 4096
    · rw [if_pos h]
      have hl : s.data.toList.length = s.size := by simp
      have hc := cut_texts (M := 4096) (by omega) (Classical.choose_spec (cut_ex (s.size : Int) _ s.data.toList (Nat.lt_succ_self _))) (by omega)
      unfold fin; dsimp only; split
      · simpa using hc
      · simp
    · rw [if_neg h]; simp
end Go.Proofs.Ytehmhgpogpbjiaa.Fcc

/- What a row of plain words, a blank behind each, is cut to. -/
namespace Go.Proofs.Ytehmhgpogpbjiaa.Fcc
open Go.RowKit Go.Proofs.Ytehmhgpogpbjiaa Go.Proofs.YtehmhgpogpbjiaaW.PrintWords Go.Proofs.YtehmhgpogpbjiaaW.PrintLast Go.Proofs.YtehmhgpogpbjiaaW.PrintMore Go.Proofs.Ytehmhgpogpbjiaa.PFccTokens
set_option linter.unusedVariables false
set_option linter.unusedSimpArgs false
theorem cutP_of {s : ByteArray} (h4 : s.size ≤ 4096) {q : Int × List S59} (h : CutR (s.size : Int) s.data.toList q) : cutP s = fin [] q := by
  obtain ⟨k, hk⟩ := (cuts s h4 h).1.rounds
  exact cutP_eq hk
theorem cut_blank {N : Int} {b : UInt8} {l : List UInt8} {q : Int × List S59} (hb : isB b = true) (h : CutR N l q) : CutR N (b :: l) q := by
  have e : (b :: l).dropWhile isB = l.dropWhile isB := by rw [List.dropWhile_cons, hb]; rfl
  cases h with
  | done h0 => exact .done (e.trans h0)
  | lineEnd hL h0 hw hu => exact .lineEnd (e.trans hL) h0 hw hu
  | line hL h0 hw hu hq => exact .line (e.trans hL) h0 hw hu hq
  | noParen hL h0 hw hu => exact .noParen (e.trans hL) h0 hw hu
  | paren hL h0 hw hu hq => exact .paren (e.trans hL) h0 hw hu hq
  | bare hL h0 a b c d => exact .bare (e.trans hL) h0 a b c d
  | noPrint hL h0 a b c => exact .noPrint (e.trans hL) h0 a b c
  | longPrint hL h0 a b c d => exact .longPrint (e.trans hL) h0 a b c d
  | print hL h0 a b c d hq => exact .print (e.trans hL) h0 a b c d hq
  | noQuot hL h0 a b c d => exact .noQuot (e.trans hL) h0 a b c d
  | quot hL h0 a b c hq => exact .quot (e.trans hL) h0 a b c hq
  | word hL h0 a hq => exact .word (e.trans hL) h0 a hq
def okW (w : List UInt8) : Prop := w ≠ [] ∧ (∀ x ∈ w, isB x = false) ∧ ¬ specW w
theorem take_word {w r : List UInt8} {b : UInt8} (h : ∀ x ∈ w, isB x = false) (hb : isB b = true) : wordL (w ++ b :: r) = w ∧ restL (w ++ b :: r) = b :: r := by
  unfold wordL restL
  induction w with
  | nil => simp [List.takeWhile_cons, List.dropWhile_cons, hb]
  | cons a w ih =>
    have ha := h a (by simp)
    obtain ⟨h1, h2⟩ := ih (fun x hx => h x (by simp [hx]))
    simp [List.takeWhile_cons, List.dropWhile_cons, ha, h1, h2]
theorem cut_word {N : Int} {w r : List UInt8} {b : UInt8} {q : Int × List S59} (hw : okW w) (hb : isB b = true) (h : CutR N r q) : CutR N (w ++ b :: r) (consT ⟨1, byt (w.map small8), N - (w ++ b :: r).length⟩ q) := by
  obtain ⟨h0, h1, h2⟩ := hw
  obtain ⟨e1, e2⟩ := take_word (r := r) h1 hb
  have hd : (w ++ b :: r).dropWhile isB = w ++ b :: r := by
    cases w with
    | nil => exact absurd rfl h0
    | cons a w => simp [List.dropWhile_cons, h1 a (by simp)]
  have := CutR.word (N := N) (q := q) hd (by simp) (by rw [e1]; exact h2) (by rw [e2]; exact cut_blank hb h)
  rwa [e1] at this
def itemsT (l : List (List UInt8 × UInt8)) : List UInt8 := l.flatMap fun p => p.1 ++ [p.2]
theorem cut_items (N : Int) : ∀ l : List (List UInt8 × UInt8), (∀ p ∈ l, okW p.1 ∧ isB p.2 = true) → ∃ ts : List S59, CutR N (itemsT l) (0, ts) ∧ ts.map (fun t => (t.f0, t.f1)) = l.map (fun p => ((1 : Int), byt (p.1.map small8)))
  | [], _ => ⟨[], .done rfl, rfl⟩
  | p :: l, h => by
    obtain ⟨ts, hc, hm⟩ := cut_items N l (fun p hp => h p (by simp [hp]))
    obtain ⟨hw, hb⟩ := h p (by simp)
    have hq := cut_word hw hb hc
    have e : itemsT (p :: l) = p.1 ++ p.2 :: itemsT l := by simp [itemsT]
    rw [← e] at hq
    refine ⟨⟨1, byt (p.1.map small8), N - (itemsT (p :: l)).length⟩ :: ts, ?_, ?_⟩
    · have e2 : consT ⟨1, byt (p.1.map small8), N - (itemsT (p :: l)).length⟩ (0, ts) = (0, ⟨1, byt (p.1.map small8), N - (itemsT (p :: l)).length⟩ :: ts) := rfl
      rwa [e2] at hq
    · simp [hm]
/-- The tokens of a text of plain words. -/
theorem words_cut (l : List (List UInt8 × UInt8)) (h : ∀ p ∈ l, okW p.1 ∧ isB p.2 = true) (hs : (itemsT l).length ≤ 4096) : (cutP (byt (itemsT l))).2 = 0 ∧ (cutP (byt (itemsT l))).1.map (fun t => (t.f0, t.f1)) = l.map (fun p => ((1 : Int), byt (p.1.map small8))) := by
  obtain ⟨ts, hc, hm⟩ := cut_items ((byt (itemsT l)).size : Int) l h
  have e := cutP_of (s := byt (itemsT l)) hs (by simpa [byt] using hc)
  rw [e]
  unfold fin
  exact ⟨rfl, by simpa using hm⟩
end Go.Proofs.Ytehmhgpogpbjiaa.Fcc

/- outer.Acts (34): not empty for the words of the table alone. -/
namespace Go.Proofs.Ytehmhgpogpbjiaa.Fcc
open Go.RowKit Go.Proofs.YtehmhgpogpbjiaaW.PrintWords Go.Proofs.YtehmhgpogpbjiaaW.PrintLast Go.Proofs.YtehmhgpogpbjiaaW.PrintMore Go.Proofs.Ytehmhgpogpbjiaa.PFccTokens
set_option linter.unusedVariables false
set_option linter.unusedSimpArgs false
set_option maxRecDepth 100000
set_option maxHeartbeats 4000000
theorem acts_calls : ActsC := by
  intro s w
  by_cases h0 : s.toList = ([105, 102] : List UInt8)
  · have hr : tableP s = true := by unfold tableP; rw [h0]; decide
    simp only [hr, if_true]
    obtain rfl := str_of h0
    clear hr h0 
    go_enter Try.func34, Try.ntmps34
    go_wp2_with fail
    exact bodyPost_ret (v := .slice (some ⟨w.heap.size, 0, none⟩) 1 1) (by simp [results, Try.results34, go_sem]) rfl ⟨_, _, _, rfl, by decide, below_alloc (Below.refl _ _) _⟩
  by_cases h1 : s.toList = ([119, 104, 105, 108, 101] : List UInt8)
  · have hr : tableP s = true := by unfold tableP; rw [h1]; decide
    simp only [hr, if_true]
    obtain rfl := str_of h1
    clear hr h1 h0
    go_enter Try.func34, Try.ntmps34
    go_wp2_with fail
    exact bodyPost_ret (v := .slice (some ⟨w.heap.size, 0, none⟩) 1 1) (by simp [results, Try.results34, go_sem]) rfl ⟨_, _, _, rfl, by decide, below_alloc (Below.refl _ _) _⟩
  by_cases h2 : s.toList = ([101, 108, 115, 101] : List UInt8)
  · have hr : tableP s = true := by unfold tableP; rw [h2]; decide
    simp only [hr, if_true]
    obtain rfl := str_of h2
    clear hr h2 h0 h1
    go_enter Try.func34, Try.ntmps34
    go_wp2_with fail
    exact bodyPost_ret (v := .slice (some ⟨w.heap.size, 0, none⟩) 2 2) (by simp [results, Try.results34, go_sem]) rfl ⟨_, _, _, rfl, by decide, below_alloc (Below.refl _ _) _⟩
  by_cases h3 : s.toList = ([116, 104, 101, 110] : List UInt8)
  · have hr : tableP s = true := by unfold tableP; rw [h3]; decide
    simp only [hr, if_true]
    obtain rfl := str_of h3
    clear hr h3 h0 h1 h2
    go_enter Try.func34, Try.ntmps34
    go_wp2_with fail
    exact bodyPost_ret (v := .slice (some ⟨w.heap.size, 0, none⟩) 1 1) (by simp [results, Try.results34, go_sem]) rfl ⟨_, _, _, rfl, by decide, below_alloc (Below.refl _ _) _⟩
  by_cases h4 : s.toList = ([98, 101, 103, 105, 110] : List UInt8)
  · have hr : tableP s = true := by unfold tableP; rw [h4]; decide
    simp only [hr, if_true]
    obtain rfl := str_of h4
    clear hr h4 h0 h1 h2 h3
    go_enter Try.func34, Try.ntmps34
    go_wp2_with fail
    exact bodyPost_ret (v := .slice (some ⟨w.heap.size, 0, none⟩) 1 1) (by simp [results, Try.results34, go_sem]) rfl ⟨_, _, _, rfl, by decide, below_alloc (Below.refl _ _) _⟩
  by_cases h5 : s.toList = ([97, 103, 97, 105, 110] : List UInt8)
  · have hr : tableP s = true := by unfold tableP; rw [h5]; decide
    simp only [hr, if_true]
    obtain rfl := str_of h5
    clear hr h5 h0 h1 h2 h3 h4
    go_enter Try.func34, Try.ntmps34
    go_wp2_with fail
    exact bodyPost_ret (v := .slice (some ⟨w.heap.size, 0, none⟩) 1 1) (by simp [results, Try.results34, go_sem]) rfl ⟨_, _, _, rfl, by decide, below_alloc (Below.refl _ _) _⟩
  by_cases h6 : s.toList = ([117, 110, 116, 105, 108] : List UInt8)
  · have hr : tableP s = true := by unfold tableP; rw [h6]; decide
    simp only [hr, if_true]
    obtain rfl := str_of h6
    clear hr h6 h0 h1 h2 h3 h4 h5
    go_enter Try.func34, Try.ntmps34
    go_wp2_with fail
    exact bodyPost_ret (v := .slice (some ⟨w.heap.size, 0, none⟩) 1 1) (by simp [results, Try.results34, go_sem]) rfl ⟨_, _, _, rfl, by decide, below_alloc (Below.refl _ _) _⟩
  by_cases h7 : s.toList = ([114, 101, 112, 101, 97, 116] : List UInt8)
  · have hr : tableP s = true := by unfold tableP; rw [h7]; decide
    simp only [hr, if_true]
    obtain rfl := str_of h7
    clear hr h7 h0 h1 h2 h3 h4 h5 h6
    go_enter Try.func34, Try.ntmps34
    go_wp2_with fail
    exact bodyPost_ret (v := .slice (some ⟨w.heap.size, 0, none⟩) 2 2) (by simp [results, Try.results34, go_sem]) rfl ⟨_, _, _, rfl, by decide, below_alloc (Below.refl _ _) _⟩
  by_cases h8 : s.toList = ([100, 111] : List UInt8)
  · have hr : tableP s = true := by unfold tableP; rw [h8]; decide
    simp only [hr, if_true]
    obtain rfl := str_of h8
    clear hr h8 h0 h1 h2 h3 h4 h5 h6 h7
    go_enter Try.func34, Try.ntmps34
    go_wp2_with fail
    exact bodyPost_ret (v := .slice (some ⟨w.heap.size, 0, none⟩) 1 1) (by simp [results, Try.results34, go_sem]) rfl ⟨_, _, _, rfl, by decide, below_alloc (Below.refl _ _) _⟩
  by_cases h9 : s.toList = ([63, 100, 111] : List UInt8)
  · have hr : tableP s = true := by unfold tableP; rw [h9]; decide
    simp only [hr, if_true]
    obtain rfl := str_of h9
    clear hr h9 h0 h1 h2 h3 h4 h5 h6 h7 h8
    go_enter Try.func34, Try.ntmps34
    go_wp2_with fail
    exact bodyPost_ret (v := .slice (some ⟨w.heap.size, 0, none⟩) 1 1) (by simp [results, Try.results34, go_sem]) rfl ⟨_, _, _, rfl, by decide, below_alloc (Below.refl _ _) _⟩
  by_cases h10 : s.toList = ([108, 111, 111, 112] : List UInt8)
  · have hr : tableP s = true := by unfold tableP; rw [h10]; decide
    simp only [hr, if_true]
    obtain rfl := str_of h10
    clear hr h10 h0 h1 h2 h3 h4 h5 h6 h7 h8 h9
    go_enter Try.func34, Try.ntmps34
    go_wp2_with fail
    exact bodyPost_ret (v := .slice (some ⟨w.heap.size, 0, none⟩) 1 1) (by simp [results, Try.results34, go_sem]) rfl ⟨_, _, _, rfl, by decide, below_alloc (Below.refl _ _) _⟩
  by_cases h11 : s.toList = ([43, 108, 111, 111, 112] : List UInt8)
  · have hr : tableP s = true := by unfold tableP; rw [h11]; decide
    simp only [hr, if_true]
    obtain rfl := str_of h11
    clear hr h11 h0 h1 h2 h3 h4 h5 h6 h7 h8 h9 h10
    go_enter Try.func34, Try.ntmps34
    go_wp2_with fail
    exact bodyPost_ret (v := .slice (some ⟨w.heap.size, 0, none⟩) 1 1) (by simp [results, Try.results34, go_sem]) rfl ⟨_, _, _, rfl, by decide, below_alloc (Below.refl _ _) _⟩
  by_cases h12 : s.toList = ([108, 101, 97, 118, 101] : List UInt8)
  · have hr : tableP s = true := by unfold tableP; rw [h12]; decide
    simp only [hr, if_true]
    obtain rfl := str_of h12
    clear hr h12 h0 h1 h2 h3 h4 h5 h6 h7 h8 h9 h10 h11
    go_enter Try.func34, Try.ntmps34
    go_wp2_with fail
    exact bodyPost_ret (v := .slice (some ⟨w.heap.size, 0, none⟩) 1 1) (by simp [results, Try.results34, go_sem]) rfl ⟨_, _, _, rfl, by decide, below_alloc (Below.refl _ _) _⟩
  by_cases h13 : s.toList = ([99, 97, 115, 101] : List UInt8)
  · have hr : tableP s = true := by unfold tableP; rw [h13]; decide
    simp only [hr, if_true]
    obtain rfl := str_of h13
    clear hr h13 h0 h1 h2 h3 h4 h5 h6 h7 h8 h9 h10 h11 h12
    go_enter Try.func34, Try.ntmps34
    go_wp2_with fail
    exact bodyPost_ret (v := .slice (some ⟨w.heap.size, 0, none⟩) 1 1) (by simp [results, Try.results34, go_sem]) rfl ⟨_, _, _, rfl, by decide, below_alloc (Below.refl _ _) _⟩
  by_cases h14 : s.toList = ([111, 102] : List UInt8)
  · have hr : tableP s = true := by unfold tableP; rw [h14]; decide
    simp only [hr, if_true]
    obtain rfl := str_of h14
    clear hr h14 h0 h1 h2 h3 h4 h5 h6 h7 h8 h9 h10 h11 h12 h13
    go_enter Try.func34, Try.ntmps34
    go_wp2_with fail
    exact bodyPost_ret (v := .slice (some ⟨w.heap.size, 0, none⟩) 1 1) (by simp [results, Try.results34, go_sem]) rfl ⟨_, _, _, rfl, by decide, below_alloc (Below.refl _ _) _⟩
  by_cases h15 : s.toList = ([101, 110, 100, 111, 102] : List UInt8)
  · have hr : tableP s = true := by unfold tableP; rw [h15]; decide
    simp only [hr, if_true]
    obtain rfl := str_of h15
    clear hr h15 h0 h1 h2 h3 h4 h5 h6 h7 h8 h9 h10 h11 h12 h13 h14
    go_enter Try.func34, Try.ntmps34
    go_wp2_with fail
    exact bodyPost_ret (v := .slice (some ⟨w.heap.size, 0, none⟩) 1 1) (by simp [results, Try.results34, go_sem]) rfl ⟨_, _, _, rfl, by decide, below_alloc (Below.refl _ _) _⟩
  by_cases h16 : s.toList = ([101, 110, 100, 99, 97, 115, 101] : List UInt8)
  · have hr : tableP s = true := by unfold tableP; rw [h16]; decide
    simp only [hr, if_true]
    obtain rfl := str_of h16
    clear hr h16 h0 h1 h2 h3 h4 h5 h6 h7 h8 h9 h10 h11 h12 h13 h14 h15
    go_enter Try.func34, Try.ntmps34
    go_wp2_with fail
    exact bodyPost_ret (v := .slice (some ⟨w.heap.size, 0, none⟩) 1 1) (by simp [results, Try.results34, go_sem]) rfl ⟨_, _, _, rfl, by decide, below_alloc (Below.refl _ _) _⟩
  have hr : tableP s = false := by
    unfold tableP
    simp only [List.mem_cons, List.not_mem_nil, h0, h1, h2, h3, h4, h5, h6, h7, h8, h9, h10, h11, h12, h13, h14, h15, h16, or_self, decide_false]
  simp only [hr, Bool.false_eq_true, if_false]
  have b0 : (s.toList == ([105, 102] : List UInt8)) = false := beq_eq_false_iff_ne.mpr h0
  have b1 : (s.toList == ([119, 104, 105, 108, 101] : List UInt8)) = false := beq_eq_false_iff_ne.mpr h1
  have b2 : (s.toList == ([101, 108, 115, 101] : List UInt8)) = false := beq_eq_false_iff_ne.mpr h2
  have b3 : (s.toList == ([116, 104, 101, 110] : List UInt8)) = false := beq_eq_false_iff_ne.mpr h3
  have b4 : (s.toList == ([98, 101, 103, 105, 110] : List UInt8)) = false := beq_eq_false_iff_ne.mpr h4
  have b5 : (s.toList == ([97, 103, 97, 105, 110] : List UInt8)) = false := beq_eq_false_iff_ne.mpr h5
  have b6 : (s.toList == ([117, 110, 116, 105, 108] : List UInt8)) = false := beq_eq_false_iff_ne.mpr h6
  have b7 : (s.toList == ([114, 101, 112, 101, 97, 116] : List UInt8)) = false := beq_eq_false_iff_ne.mpr h7
  have b8 : (s.toList == ([100, 111] : List UInt8)) = false := beq_eq_false_iff_ne.mpr h8
  have b9 : (s.toList == ([63, 100, 111] : List UInt8)) = false := beq_eq_false_iff_ne.mpr h9
  have b10 : (s.toList == ([108, 111, 111, 112] : List UInt8)) = false := beq_eq_false_iff_ne.mpr h10
  have b11 : (s.toList == ([43, 108, 111, 111, 112] : List UInt8)) = false := beq_eq_false_iff_ne.mpr h11
  have b12 : (s.toList == ([108, 101, 97, 118, 101] : List UInt8)) = false := beq_eq_false_iff_ne.mpr h12
  have b13 : (s.toList == ([99, 97, 115, 101] : List UInt8)) = false := beq_eq_false_iff_ne.mpr h13
  have b14 : (s.toList == ([111, 102] : List UInt8)) = false := beq_eq_false_iff_ne.mpr h14
  have b15 : (s.toList == ([101, 110, 100, 111, 102] : List UInt8)) = false := beq_eq_false_iff_ne.mpr h15
  have b16 : (s.toList == ([101, 110, 100, 99, 97, 115, 101] : List UInt8)) = false := beq_eq_false_iff_ne.mpr h16
  clear hr h0 h1 h2 h3 h4 h5 h6 h7 h8 h9 h10 h11 h12 h13 h14 h15 h16
  go_enter Try.func34, Try.ntmps34
  go_wp2_with fail
  exact bodyPost_ret (v := .slice none 0 0) (by simp [results, Try.results34, go_sem]) rfl ⟨_, _, _, rfl, rfl, Below.refl _ _⟩
end Go.Proofs.Ytehmhgpogpbjiaa.Fcc

/- Prims, of the program (17) and of the reference (10): the same row. -/
namespace Go.Proofs.Ytehmhgpogpbjiaa.Fcc
open Go.RowKit Go.Proofs.YtehmhgpogpbjiaaW.PrintWords Go.Proofs.YtehmhgpogpbjiaaW.PrintLast Go.Proofs.YtehmhgpogpbjiaaW.PrintMore Go.Proofs.Ytehmhgpogpbjiaa.PFccTokens
set_option linter.unusedVariables false
set_option linter.unusedSimpArgs false
def primsL : List S34 := [⟨⟨#[105]⟩, 25⟩, ⟨⟨#[106]⟩, 26⟩, ⟨⟨#[101, 120, 101, 99, 117, 116, 101]⟩, 29⟩, ⟨⟨#[43]⟩, 30⟩, ⟨⟨#[45]⟩, 31⟩, ⟨⟨#[42]⟩, 32⟩, ⟨⟨#[47]⟩, 33⟩, ⟨⟨#[109, 111, 100]⟩, 34⟩, ⟨⟨#[97, 110, 100]⟩, 35⟩, ⟨⟨#[111, 114]⟩, 36⟩, ⟨⟨#[120, 111, 114]⟩, 37⟩, ⟨⟨#[105, 110, 118, 101, 114, 116]⟩, 38⟩, ⟨⟨#[108, 115, 104, 105, 102, 116]⟩, 39⟩, ⟨⟨#[114, 115, 104, 105, 102, 116]⟩, 40⟩, ⟨⟨#[62, 62, 97]⟩, 41⟩, ⟨⟨#[47, 109, 111, 100]⟩, 42⟩, ⟨⟨#[117, 47, 109, 111, 100]⟩, 43⟩, ⟨⟨#[110, 101, 103, 97, 116, 101]⟩, 44⟩, ⟨⟨#[97, 98, 115]⟩, 45⟩, ⟨⟨#[109, 105, 110]⟩, 46⟩, ⟨⟨#[109, 97, 120]⟩, 47⟩, ⟨⟨#[62, 114]⟩, 48⟩, ⟨⟨#[114, 62]⟩, 49⟩, ⟨⟨#[114, 64]⟩, 50⟩, ⟨⟨#[48, 61]⟩, 52⟩, ⟨⟨#[48, 60, 62]⟩, 53⟩, ⟨⟨#[48, 60]⟩, 54⟩, ⟨⟨#[48, 60, 61]⟩, 55⟩, ⟨⟨#[48, 62]⟩, 56⟩, ⟨⟨#[48, 62, 61]⟩, 57⟩, ⟨⟨#[60]⟩, 58⟩, ⟨⟨#[62]⟩, 59⟩, ⟨⟨#[61]⟩, 60⟩, ⟨⟨#[60, 62]⟩, 61⟩, ⟨⟨#[117, 62]⟩, 62⟩, ⟨⟨#[117, 60, 61]⟩, 63⟩, ⟨⟨#[117, 60]⟩, 64⟩, ⟨⟨#[117, 62, 61]⟩, 65⟩, ⟨⟨#[62, 61]⟩, 66⟩, ⟨⟨#[60, 61]⟩, 67⟩, ⟨⟨#[100, 114, 111, 112]⟩, 70⟩, ⟨⟨#[100, 117, 112]⟩, 71⟩, ⟨⟨#[111, 118, 101, 114]⟩, 72⟩, ⟨⟨#[115, 119, 97, 112]⟩, 73⟩, ⟨⟨#[114, 111, 116]⟩, 74⟩, ⟨⟨#[45, 114, 111, 116]⟩, 75⟩, ⟨⟨#[116, 117, 99, 107]⟩, 76⟩, ⟨⟨#[110, 105, 112]⟩, 77⟩, ⟨⟨#[112, 105, 99, 107]⟩, 78⟩, ⟨⟨#[114, 111, 108, 108]⟩, 79⟩, ⟨⟨#[63, 100, 117, 112]⟩, 80⟩, ⟨⟨#[100, 101, 112, 116, 104]⟩, 81⟩, ⟨⟨#[50, 100, 114, 111, 112]⟩, 82⟩, ⟨⟨#[50, 100, 117, 112]⟩, 83⟩, ⟨⟨#[50, 111, 118, 101, 114]⟩, 84⟩, ⟨⟨#[50, 115, 119, 97, 112]⟩, 85⟩, ⟨⟨#[50, 114, 111, 116]⟩, 86⟩, ⟨⟨#[50, 47]⟩, 87⟩, ⟨⟨#[117, 50, 47]⟩, 88⟩, ⟨⟨#[50, 42]⟩, 89⟩, ⟨⟨#[43, 33]⟩, 108⟩, ⟨⟨#[64]⟩, 109⟩, ⟨⟨#[119, 64]⟩, 111⟩, ⟨⟨#[99, 64]⟩, 113⟩, ⟨⟨#[33]⟩, 114⟩, ⟨⟨#[119, 33]⟩, 116⟩, ⟨⟨#[99, 33]⟩, 117⟩, ⟨⟨#[109, 111, 118, 101]⟩, 120⟩, ⟨⟨#[102, 105, 108, 108]⟩, 121⟩, ⟨⟨#[99, 111, 109, 112]⟩, 122⟩, ⟨⟨#[108, 98, 115, 112, 108, 105, 116]⟩, 126⟩, ⟨⟨#[98, 108, 106, 111, 105, 110]⟩, 127⟩, ⟨⟨#[119, 98, 102, 108, 105, 112]⟩, 128⟩, ⟨⟨#[117, 112, 99]⟩, 129⟩, ⟨⟨#[108, 99, 99]⟩, 130⟩, ⟨⟨#[117, 110, 108, 111, 111, 112]⟩, 137⟩, ⟨⟨#[97, 108, 108, 111, 99, 45, 109, 101, 109]⟩, 139⟩, ⟨⟨#[101, 109, 105, 116]⟩, 143⟩, ⟨⟨#[116, 121, 112, 101]⟩, 144⟩, ⟨⟨#[99, 114]⟩, 146⟩, ⟨⟨#[117, 46]⟩, 155⟩, ⟨⟨#[46]⟩, 157⟩, ⟨⟨#[98, 97, 115, 101, 33]⟩, 160⟩, ⟨⟨#[45, 49]⟩, 164⟩, ⟨⟨#[48]⟩, 165⟩, ⟨⟨#[49]⟩, 166⟩, ⟨⟨#[50]⟩, 167⟩, ⟨⟨#[51]⟩, 168⟩, ⟨⟨#[98, 108]⟩, 169⟩, ⟨⟨#[104, 101, 114, 101]⟩, 173⟩, ⟨⟨#[117, 109, 42]⟩, 212⟩, ⟨⟨#[117, 109, 47, 109, 111, 100]⟩, 213⟩, ⟨⟨#[100, 43]⟩, 216⟩, ⟨⟨#[100, 45]⟩, 217⟩, ⟨⟨#[112, 114, 111, 112, 101, 114, 116, 121]⟩, 272⟩, ⟨⟨#[101, 110, 99, 111, 100, 101, 45, 105, 110, 116]⟩, 273⟩, ⟨⟨#[101, 110, 99, 111, 100, 101, 43]⟩, 274⟩, ⟨⟨#[101, 110, 99, 111, 100, 101, 45, 115, 116, 114, 105, 110, 103]⟩, 276⟩, ⟨⟨#[110, 101, 119, 45, 100, 101, 118, 105, 99, 101]⟩, 287⟩, ⟨⟨#[102, 105, 110, 105, 115, 104, 45, 100, 101, 118, 105, 99, 101]⟩, 295⟩, ⟨⟨#[115, 109, 47, 114, 101, 109]⟩, 469⟩, ⟨⟨#[109, 121, 45, 115, 101, 108, 102]⟩, 515⟩, ⟨⟨#[109, 121, 45, 112, 97, 114, 101, 110, 116]⟩, 522⟩, ⟨⟨#[36, 99, 97, 108, 108, 45, 109, 101, 116, 104, 111, 100]⟩, 526⟩, ⟨⟨#[99, 97, 116, 99, 104]⟩, 535⟩, ⟨⟨#[116, 104, 114, 111, 119]⟩, 536⟩, ⟨⟨#[103, 101, 116, 45, 109, 121, 45, 112, 114, 111, 112, 101, 114, 116, 121]⟩, 538⟩, ⟨⟨#[100, 101, 99, 111, 100, 101, 45, 105, 110, 116]⟩, 539⟩, ⟨⟨#[100, 101, 99, 111, 100, 101, 45, 115, 116, 114, 105, 110, 103]⟩, 540⟩, ⟨⟨#[100, 101, 108, 101, 116, 101, 45, 112, 114, 111, 112, 101, 114, 116, 121]⟩, 542⟩, ⟨⟨#[102, 109, 47, 109, 111, 100]⟩, 725⟩]
def cellsOf (l : List S34) : List Value := l.flatMap fun x => [.string x.f0, .int .i64 x.f1]
theorem cellsOf_reps {w : World} {base : Nat} {ok : Nat → Prop} : ∀ l : List S34, Reps (k34.M w base ok) 2 l (cellsOf l)
  | [] => Reps.none _ _
  | x :: l => Reps.c2 (k34_mkM _ _ _ x) (cellsOf_reps l)
set_option maxRecDepth 1000000
set_option maxHeartbeats 20000000
theorem prims_contract : PrimsC 17 primsL := by
  intro w
  go_enter Try.func17, Try.ntmps17
  go_wp2_with ((with_reducible refine gate_dst (N := 112) rfl ?_); refine Kd.R_lit k34 (w0 := w) w.heap.size 34 rfl (N := 112) rfl (xs := primsL) (inner := cellsOf primsL) (ok := fun _ => True) (okp := fun _ => True) (by kernel_rfl) (cellsOf_reps _) (fun _ hk => hk) trivial (Below.refl _ _) (Nat.le_refl _) (by decide) ?_; intro v w1 ho hb hg hat)
  go_ret
  exact ⟨_, rfl, ho, hb⟩
theorem rprims_contract : PrimsC 10 primsL := by
  intro w
  go_enter Try.func10, Try.ntmps10
  go_wp2_with ((with_reducible refine gate_dst (N := 112) rfl ?_); refine Kd.R_lit k34 (w0 := w) w.heap.size 34 rfl (N := 112) rfl (xs := primsL) (inner := cellsOf primsL) (ok := fun _ => True) (okp := fun _ => True) (by kernel_rfl) (cellsOf_reps _) (fun _ hk => hk) trivial (Below.refl _ _) (Nat.le_refl _) (by decide) ?_; intro v w1 ho hb hg hat)
  go_ret
  exact ⟨_, rfl, ho, hb⟩
end Go.Proofs.Ytehmhgpogpbjiaa.Fcc
