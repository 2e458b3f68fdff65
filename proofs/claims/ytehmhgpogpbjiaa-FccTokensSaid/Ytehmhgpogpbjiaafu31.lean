import Derived.Test.Ytehmhgpogpbjiaafu30
set_option linter.unusedVariables false
set_option linter.unusedSimpArgs false
set_option maxRecDepth 100000
set_option maxHeartbeats 8000000
namespace Go.Proofs.Ytehmhgpogpbjiaa.Fcc
open Go.RowKit Go.Proofs.YtehmhgpogpbjiaaW.PrintWords Go.Proofs.YtehmhgpogpbjiaaW.PrintLast Go.Proofs.YtehmhgpogpbjiaaW.PrintMore Go.Proofs.Ytehmhgpogpbjiaa.PFccTokens
abbrev k0V (v : Value) : List Value := [v, .int .i64 0, .slice none 0 0, .slice none 0 0, .slice none 0 0, .int .i64 2048, .bool false, .string ⟨#[]⟩, .int .i64 0, .slice none 0 0, .slice none 0 0, .slice none 0 0, .slice none 0 0, .slice none 0 0, .slice none 0 0, .slice none 0 0]
abbrev f0V : List Value := [.slice none 0 0, .slice none 0 0, .slice none 0 0, .slice none 0 0, .slice none 0 0]
theorem Rx.make {w : World} {base gk gf : Nat} {v : Value} {l : List S59} {ok : Nat → Prop} (hk : w.heap[gk]? = some (.cells (k0V v).toArray 69 (0, 0))) (hf : w.heap[gf]? = some (.cells f0V.toArray 73 (0, 0))) (hbk : base ≤ gk) (hbf : base ≤ gf) (hR : Kd.R k59 59 w base ok v l) :
 Rx w base gk gf (bare (l, none)) (fun k => if k = gk then 0 else if k = gf then 20 else 1) (k0V v) f0V (UH l) := by
 have hne : gf ≠ gk := fun e => by rw [e, hk] at hf; cases hf
 refine ⟨⟨hk, hbk, if_pos rfl, fun i u P hu hP => ?_, fun i P hP => ?_⟩, ⟨hf, hbf, (by show (if gf = gk then 0 else if gf = gf then 20 else 1) = 20; rw [if_neg hne, if_pos rfl]), fun i u P hu hP => ?_, fun i P hP => ?_⟩, rfl, rfl, (by simp [UH]), (by simp [UH])⟩
 ·match i, hu, hP with
  | 0, hu, hP =>
    cases hu
    cases hP
    refine Kd.R_mono (Kd.R_bound hR) (fun k hk' => ?_)
    obtain ⟨_, _, _, q, hq, cells, hc⟩ := hk'
    have h1 : k ≠ gk := fun e => by rw [e, hk] at hc; cases hc; exact absurd hq Z1
    have h2 : k ≠ gf := fun e => by rw [e, hf] at hc; cases hc; exact absurd hq Z1
    show (if k = gk then 0 else if k = gf then 20 else 1) = 1
    rw [if_neg h1, if_neg h2]
  | 1, hu, hP => cases hu; cases hP; show Value.int .i64 0 = .int .i64 ((l.length - l.length : Nat) : Int); rw [Nat.sub_self]; rfl
  | 2, hu, hP => cases hu; cases hP; exact Kd.R_nil _ _ _ _ _
  | 3, hu, hP => cases hu; cases hP; exact Kd.R_nil _ _ _ _ _
  | 4, hu, hP => cases hu; cases hP; exact Kd.R_nil _ _ _ _ _
  | 5, hu, hP => cases hu; cases hP; rfl
  | 6, hu, hP => cases hu; cases hP; rfl
  | 7, hu, hP => cases hu; cases hP; rfl
  | 8, hu, hP => cases hu; cases hP; rfl
  | 9, hu, hP => cases hu; cases hP; exact ⟨Kd.R_nil _ _ _ _ _, fun _ _ _ e => by cases e⟩
  | 10, hu, hP => cases hu; cases hP; trivial
  | 11, hu, hP => cases hu; cases hP; trivial
  | 12, hu, hP => cases hu; cases hP; trivial
  | 13, hu, hP => cases hu; cases hP; trivial
  | 14, hu, hP => cases hu; cases hP; trivial
  | 15, hu, hP => cases hu; cases hP; trivial
  | i + 16, hu, hP => simp at hu
 ·match i, hP with
  | 0, hP => cases hP; exact loc_row _ _ _ _
  | 1, hP => cases hP; exact loc_val _ _
  | 2, hP => cases hP; exact loc_row _ _ _ _
  | 3, hP => cases hP; exact loc_row _ _ _ _
  | 4, hP => cases hP; exact loc_row _ _ _ _
  | 5, hP => cases hP; exact loc_val _ _
  | 6, hP => cases hP; exact loc_val _ _
  | 7, hP => cases hP; exact loc_val _ _
  | 8, hP => cases hP; exact loc_val _ _
  | 9, hP => cases hP; exact loc_g _ _
  | 10, hP => cases hP; exact loc_any _
  | 11, hP => cases hP; exact loc_any _
  | 12, hP => cases hP; exact loc_any _
  | 13, hP => cases hP; exact loc_any _
  | 14, hP => cases hP; exact loc_any _
  | 15, hP => cases hP; exact loc_any _
  | i + 16, hP => simp [rF] at hP
 ·match i, hu, hP with
  | 0, hu, hP => cases hu; cases hP; exact Kd.R_nil _ _ _ _ _
  | 1, hu, hP => cases hu; cases hP; exact Kd.R_nil _ _ _ _ _
  | 2, hu, hP => cases hu; cases hP; exact Kd.R_nil _ _ _ _ _
  | 3, hu, hP => cases hu; cases hP; exact Kd.S_bare (Kd.R_nil _ _ _ _ _)
  | 4, hu, hP => cases hu; cases hP; exact Kd.R_nil _ _ _ _ _
  | i + 5, hu, hP => simp at hu
 ·match i, hP with
  | 0, hP => cases hP; exact loc_row _ _ _ _
  | 1, hP => cases hP; exact loc_row _ _ _ _
  | 2, hP => cases hP; exact loc_row _ _ _ _
  | 3, hP => cases hP; exact loc_rows _ _ _ _
  | 4, hP => cases hP; exact loc_row _ _ _ _
  | i + 5, hP => simp [fF] at hP
theorem Ydd (s : ByteArray) (hs : s.size ≤ maxLen) (he : (cutP s).2 ≠ 0) (w : World) : Calls Try.prog 8 #[.string s] w (Yfg ([], (cutP s).2) w) := by
 have hC' := Aside0.mk (Jz s w hs)
 generalize (cutP s).2 = er at he hC' ⊢
 have e1 : (er == 0) = false := beq_eq_false_iff_ne.mpr he
 have e2 : (er != 0) = true := bne_iff_ne.mpr he
 clear he
 go_enter Try.func8, Try.ntmps8
 go_wp2_with fail
 refine hC'.out.mono ?_
 rintro e w1 ⟨v, rfl, hR, hB⟩
 replace hR := Aside0.mk hR
 go_wp2_with fail
 exact bodyPost_ret (v := .tuple #[.slice none 0 0, .int .i64 er]) Z1w rfl ⟨_, rfl, Kd.R_nil _ _ _ _ _, hB⟩
theorem tok_inp {m m1 : Mk} {x : Tin} (h : tokP YU PL litP m x = .inl m1) : m1.inp.length ≤ m.inp.length := by
 unfold tokP at h
 split at h
 ·exact one_inp h
 split at h
 ·cases h; exact Nat.le_refl _
 ·cases h; exact Nat.le_refl _
theorem tok_err {m : Mk} {x : Tin} {c : Int} (h : tokP YU PL litP m x = .inr c) : c ≠ 0 := by
 unfold tokP at h
 split at h
 ·exact err_one h
 split at h
 ·cases h
 ·cases h
theorem Ydp : ∀ p ∈ PL, 0 ≤ p.2 ∧ p.2 ≤ 4095 := fun p hp => by
 rw [List.mem_reverse, List.mem_map] at hp
 obtain ⟨q, hq, rfl⟩ := hp
 exact (Jh.2 q hq).2
set_option maxHeartbeats 16000000 in
theorem YeC (s : ByteArray) (hs : s.size ≤ maxLen) (he : (cutP s).2 = 0) (w : World) : Calls Try.prog 8 #[.string s] w (Yfg (Uj YU PL litP VB (cutP s).1) w) := by
 have hC' := Aside0.mk (Jz s w hs)
 have hkl := cut_ok.len s
 have hkt := Aside0.mk (cut_ok.texts s)
 rw [he] at hC'
 generalize (cutP s).1 = l at hkl hkt hC' ⊢
 clear he
 obtain ⟨r0, hr0⟩ : ∃ r0, Uj YU PL litP VB l = r0 := ⟨_, rfl⟩
 rw [hr0]
 have hr := Aside0.mk hr0
 clear hr0
 go_enter Try.func8, Try.ntmps8
 go_wp2_with fail
 refine hC'.out.mono ?_
 rintro e w1 ⟨v, rfl, hR, hB⟩
 obtain ⟨A0, c0, rfl⟩ := Kd.R_slice hR
 have hgs : (w1.alloc (.cells (k0V (.slice A0 l.length c0)).toArray 69)).heap.size = w1.heap.size + 1 := World.size_alloc _ _
 have hbk := XN w1 (.cells (k0V (.slice A0 l.length c0)).toArray 69)
 have hbf := XN (w1.alloc (.cells (k0V (.slice A0 l.length c0)).toArray 69)) (.cells f0V.toArray 73)
 rw [hgs] at hbf
 have hle := hB.size
 have h0 := Rx.make (YZ hbk (.cells f0V.toArray 73)) hbf hle (Nat.le_succ_of_le hle) (Kd.R_alloc (Kd.R_alloc hR _) _)
 have hBa := Yl (Yl (Below.refl w1.heap.size w1) (.cells (k0V (.slice A0 l.length c0)).toArray 69)) (.cells f0V.toArray 73)
 have hB1 := Aside0.mk (hB.trans (Below.mono hBa hle))
 replace h0 := Aside0.mk h0
 clear hgs hbk hbf hR hBa hB hC'
 go_wp2_with fail
 generalize (w1.alloc (.cells (k0V (.slice A0 l.length c0)).toArray 69)).alloc (.cells f0V.toArray 73) = w2 at h0 hB1 ⊢
 generalize (fun k => if k = w1.heap.size then 0 else if k = w1.heap.size + 1 then 20 else 1) = o0 at h0
 generalize hgn : w1.heap.size + 1 = gn at h0 ⊢
 generalize w1.heap.size = gm at h0 ⊢
 clear hgn hle
 have hI0 := Aside0.mk (YcO (prims := PL) (l := l) Ydp hkt.out)
 clear hkt
 go_loopg [5] l.length (fun gg s5 wr => ∃ (kk : Nat) (m : Mk) (o2 : Nat → Nat) (vk2 vf2 : List Value), kk ≤ l.length ∧ m.inp.length ≤ l.length - kk ∧ l.length - kk ≤ gg ∧ s5 = .int .i64 0 ∧ Aside0 (Inv PL (3 * kk) kk m) ∧ Aside0 (allP YU PL litP (l.length - kk) m = allP YU PL litP l.length (UH l)) ∧ Aside0 (Below w.heap.size w wr) ∧ Aside0 (Rx wr w.heap.size gm gn (bare (l, none)) o2 vk2 vf2 m))
 case atStart => exact ⟨0, UH l, _, _, _, Nat.zero_le _, Nat.le_refl _, Z0, rfl, hI0, ⟨rfl⟩, hB1, h0⟩
 case round =>
  obtain ⟨kk, m, o2, vk2, vf2, hk1, hk2, hg, rfl, HI, HA, HB, HM⟩ := hrel
  obtain ⟨A1, c1, A2, c2, A3, c3, A4, c4, u9, u10, u11, u12, u13, u14, u15, rfl⟩ := HM.out.kc
  cases hmi : m.inp with
  | cons x r =>
    obtain ⟨j, hj, hjl, hjt, hj1, hT, hr1, hrl⟩ := HM.out.ahead hmi
    change j < l.length at hjl
    change l.length - r.length = j + 1 at hj1
    change r.length ≤ l.length at hrl
    have k0 := HM.out.k.cell 0 rfl
    have k1 := HM.out.k.cell 1 rfl
    rw [hj] at k1
    have hxs := Aside0.mk (HI.out.inp x (by rw [hmi]; exact List.mem_cons_self))
    have hIr := Aside0.mk (HI.out.take hmi)
    have hkl2 : kk < l.length := by rw [hmi, List.length_cons] at hk2; omega
    have hHA : allP YU PL litP (l.length - kk) m = match tokP YU PL litP { m with inp := r } x with
     | .inr e => .inr e
     | .inl m1 => allP YU PL litP (l.length - (kk + 1)) m1 := by
     obtain ⟨j, hj⟩ : ∃ j, l.length - kk = j + 1 := ⟨l.length - kk - 1, Z0⟩
     rw [hj, show l.length - (kk + 1) = j by omega]
     exact YcY j hmi
    have hHA' := Aside0.mk (hHA.symm.trans HA.out)
    have hgk := Aside0.mk (show l.length - (kk + 1) < gk ∧ kk + 1 ≤ l.length ∧ r.length ≤ l.length - (kk + 1) ∧ kk < 5000 by rw [hmi, List.length_cons] at hk2; omega)
    have hjz : (j : Int) < (l.length : Int) := by omega
    have hr1' := Aside0.mk (And.intro hr1 hrl)
    have hj1' := Aside0.mk hj1
    have hjt' := Aside0.mk hjt
    clear hmi hk2 hg hj hj1 hr1 hrl hjt hHA HA HI h0 hB1 hI0
    go_wp2_with fail
    go_quiet (fail)
    have hBq := Yn (Below.refl wr.heap.size wr) nq
    have hX1 := HM.out.below hBq
    have k1' : (wr.drewN nq).cell? ⟨gm, 1, none⟩ = some (.int .i64 (j : Int)) := k1
    have kf' := hX1.k.free 1
    have hS := hX1.step hr1'.out.1 hr1'.out.2
    have hB2 := HB.out.trans (Below.mono hBq HM.out.k.base_le)
    have hgb := hX1.k.hb
    rw [hj1'.out] at hS
    have ej : ((j + 1 : Nat) : Int) = (j : Int) + 1 := by omega
    rw [ej] at hS
    have hB3 := Aside0.mk (hB2.setCell (p := ⟨gm, 1, none⟩) hgb (.int .i64 ((j : Int) + 1)))
    replace hS := Aside0.mk hS
    generalize wr.drewN nq = wq at hX1 k1' kf' hS hB3 ⊢
    clear hX1 hBq hB2 k0 k1 HM HB ej
    go_upto_region 8 with (fail)
    generalize wq.setCell ⟨gm, 1, none⟩ (.int .i64 ((j : Int) + 1)) = w3 at hS hB3 ⊢
    clear k1' kf'
    have hBd : Below w3.heap.size w3 w3.drew := YM (Below.refl _ _)
    have h4 := hS.out.below hBd
    have hB4 := Aside0.mk (hB3.out.trans (Below.mono hBd hS.out.k.base_le))
    have s0 := h4.k.cell 0 rfl
    have s1 := h4.k.cell 1 rfl
    obtain ⟨ad, e, g0, g1, g2⟩ := h4.tok rfl hjt'.out
    cases e
    refine VS (ds := [13]) (S := fun w' => w'.cell? ⟨gm, 0, none⟩ = some (.slice (some ad) l.length c1) ∧ w'.cell? ⟨gm, 1, none⟩ = some (.int .i64 ((j : Int) + 1)) ∧ w'.cell? (ad.add (j * 3)) = some (.int .i64 x.f0) ∧ w'.cell? ⟨(ad.add (j * 3)).block, (ad.add (j * 3)).off + 1, none⟩ = some (.string x.f1) ∧ w'.cell? ⟨(ad.add (j * 3)).block, (ad.add (j * 3)).off + 2, none⟩ = some (.int .i64 x.f2)) Z2 rfl rfl ⟨s0, s1, g0, g1, g2⟩ (fun tb hS => ?_)
    generalize w3.drew = wd at h4 hB4 hS ⊢
    obtain ⟨mr, hmr⟩ : ∃ mr, ({ m with inp := r } : Mk) = mr := ⟨_, rfl⟩
    rw [hmr] at h4 hIr hHA'
    have hmri := Aside0.mk (show mr.inp = r by rw [← hmr])
    replace h4 := Aside0.mk h4
    clear hmr hBd s0 s1 g0 g1 g2
    have e1 : IntKind.i64.wrap ((j : Int) + 1 - 1) = (j : Int) := by rw [IntWalk.i64_in _ Z0]; omega
    have e2 : wrap64 ((j : Int) + 1 - 1) = (j : Int) := by rw [IntWalk.wrap64_in _ ⟨Z0, Z0⟩]; omega
    have e3 : IntKind.i64.wrap (j : Int) = (j : Int) := IntWalk.i64_in _ Z0
    have e4 : wrap64 (j : Int) = (j : Int) := IntWalk.wrap64_in _ ⟨Z0, Z0⟩
    refine seg_ [(0, 43), (1, 44), (2, 45), (3, 46), (4, 47), (5, 48), (6, 49), (7, 50), (8, 51), (9, 52), (10, 53), (11, 54), (12, 55)] tb hS Z2 (fun _ _ _ _ h => h) (a' := ?_) ?_ ?_
    rotate_left
    ·repeat (first | exact Seg.nil | (refine Seg.on (v := ?_) (a1 := ?_) rfl rfl Z4 ?_ ?_ ?_; rotate_left 2; (rintro w' hS; go_split_ands; go_simp; with_reducible rfl); (simp only [Act.put, List.setIfInBounds_toArray, List.set_cons_zero, List.set_cons_succ, Yy, YA]; rfl)))
    clear e1 e2 e3 e4
    refine UI 13 tb rfl Z2 ?_
    go_wp2_with fail
    have hmx : maxLen = 9223372036854775807 := rfl
    refine (YeD h4.out hIr.out (Zo hgk.out) (Zo hgk.out) x (Zo hxs.out)).mono ?_
    rintro e w5 ⟨hB5, hP⟩
    have hB6 := Aside0.mk (hB4.out.trans hB5)
    cases hq : tokP YU PL litP mr x with
    | inl m1 =>
      rw [hq] at hP hHA'
      obtain ⟨rfl, o5, vk5, vf5, h5⟩ := hP
      replace h5 := Aside0.mk h5
      have hI5 := Aside0.mk ((Yb0 YcJ hIr.out x hxs.out hq).more (W' := 3 * (kk + 1)) (L' := kk + 1) Z0 (Nat.le_refl _))
      have hi5 := Aside0.mk (show m1.inp.length ≤ l.length - (kk + 1) by have := tok_inp hq; rw [hmri.out] at this; have := hgk.out; omega)
      clear hq hB5 hmx hS h4 hB4 hIr
      go_wp2_with fail
      refine ql_ ?_
      refine sega_ [(14, 5)] tb Z2 (fun _ _ _ _ h => h) (a' := ?_) ?_ ?_
      rotate_left
      ·repeat (first | exact Seg.nil | (refine Seg.on (v := ?_) (a1 := ?_) rfl rfl Z4 ?_ ?_ ?_; rotate_left 2; (rintro w' hS; go_simp; with_reducible rfl); (simp only [Act.put, List.setIfInBounds_toArray, List.set_cons_zero, List.set_cons_succ, Yy, YA]; rfl)))
      refine end_ tb Z2 ?_
      go_wp2_with fail
      go_roundg (l.length - (kk + 1))
      case measure => exact hgk.out.1
      case rel => exact ⟨kk + 1, m1, o5, vk5, vf5, hgk.out.2.1, hi5.out, Nat.le_refl _, rfl, hI5, hHA', hB6, h5⟩
    | inr c =>
      have hc1 := tok_err hq
      rw [hq] at hP hHA'
      obtain rfl := hP
      have q1 : (c == 0) = false := beq_eq_false_iff_ne.mpr hc1
      have q2 : (c != 0) = true := bne_iff_ne.mpr hc1
      have hres := Aside0.mk (show r0 = ([], c) by
       rw [← hr.out]
       unfold Uj
       rw [← hHA'.out])
      clear hc1 hq hB5 hmx hS h4 hB4 hIr
      go_wp2_with fail
      refine ql_ ?_
      refine sega_ [(14, 5)] tb Z2 (fun _ _ _ _ h => h) (a' := ?_) ?_ ?_
      rotate_left
      ·repeat (first | exact Seg.nil | (refine Seg.on (v := ?_) (a1 := ?_) rfl rfl Z4 ?_ ?_ ?_; rotate_left 2; (rintro w' hS; go_simp; with_reducible rfl); (simp only [Act.put, List.setIfInBounds_toArray, List.set_cons_zero, List.set_cons_succ, Yy, YA]; rfl)))
      refine end_ tb Z2 ?_
      go_wp2_with fail
      rw [hres.out]
      exact bodyPost_ret (v := .tuple #[.slice none 0 0, .int .i64 c]) Z1w rfl ⟨_, rfl, Kd.R_nil _ _ _ _ _, hB6.out⟩
  | nil =>
    have hall : allP YU PL litP l.length (UH l) = .inl m := by
     rw [← HA.out]
     cases l.length - kk with
     | zero => rfl
     | succ k => unfold allP; rw [hmi]
    have hres : Uj YU PL litP VB l = if m.opn then ([], 13) else (aimP VB (m.add 0), 0) := by
     unfold Uj
     rw [hall]
    have k0 := HM.out.k.cell 0 rfl
    have k1 := HM.out.k.cell 1 rfl
    rw [HM.out.none_ahead hmi] at k1
    have hI := HI.out
    rw [hres] at hr
    have hkk : kk ≤ 5000 := by omega
    have k6 := HM.out.k.cell 6 rfl
    clear hg hmi hall hres hk2 HA HI h0 hB1 hI0
    cases hop : m.opn with
    | true =>
      rw [hop] at k6 hr
      clear hop
      go_wp2_with fail
      go_quiet (fail)
      go_wp2_with fail
      rw [← hr.out]
      exact bodyPost_ret (v := .tuple #[.slice none 0 0, .int .i64 13]) Z1w rfl ⟨_, rfl, Kd.R_nil _ _ _ _ _, HB.out.trans (Below.mono (Yn (Below.refl _ _) _) HM.out.k.base_le)⟩
    | false =>
      rw [hop] at k6 hr
      clear hop
      have hIa := hI.add 0 0 emp Z0 Z0 XH
      have hwt := Xf hIa.wt
      have hol := Aside0.mk (Xf hI.wt).1
      have hld := Aside0.mk hIa.leads
      have hfit := Aside0.mk (fun t ht => (hIa.out t ht).1)
      have hlen := Aside0.mk (show 0 < (m.add 0 0 emp).out.length ∧ (m.add 0 0 emp).out.length < 1000000000 ∧ (m.add 0 0 emp).leads.length < 1000000000 by
       refine ⟨(by simp [Mk.add]), ?_, ?_⟩
       ·have := hwt.1; omega
       ·have := hwt.2.2.2.2.1; omega)
      have hrr := Aside0.mk (show r0 = (aimP VB (m.add 0 0 emp), 0) by rw [← hr.out]; rfl)
      clear hI hIa hwt hr
      go_wp2_with fail
      go_quiet (fail)
      have hBq := Yn (Below.refl wr.heap.size wr) nq
      have hX1 := Aside0.mk (HM.out.below hBq)
      have hB2 := Aside0.mk (HB.out.trans (Below.mono hBq HM.out.k.base_le))
      have k6' : (wr.drewN nq).cell? ⟨gm, 6, none⟩ = some (.bool false) := k6
      generalize wr.drewN nq = w4 at hX1 hB2 k6' ⊢
      clear hBq HM HB k0 k1 k6
      go_wp2_with fail
      refine (Xl hX1.out 0 0 ⟨#[]⟩ (Zo hol.out)).mono ?_
      rintro e w5 ⟨rfl, hB5, o5, vk5, vf5, h5⟩
      have hB6 := Aside0.mk (hB2.out.trans hB5)
      have h5' : Rx w5 w.heap.size gm gn (bare (l, none)) o5 vk5 vf5 (m.add 0 0 emp) := h5
      obtain ⟨ma, hma⟩ : ∃ ma, m.add 0 0 emp = ma := ⟨_, rfl⟩
      rw [hma] at h5' hld hfit hlen hrr
      replace h5' := Aside0.mk h5'
      clear hma h5 hB5 hX1 hB2 k6' hol hkk
      obtain ⟨n, hn⟩ : ∃ n, ma.out.length = n := ⟨_, rfl⟩
      have hN := Aside0.mk hn
      obtain ⟨E, hE⟩ : ∃ E, endsP VB 0 ma.out = E := ⟨_, rfl⟩
      have hEl : E.length = n := by rw [← hE, YcS, hn]
      have hEg := Aside0.mk (show ∀ kk, kk < n → E[kk]? = some (sumP ma.out (kk + 1)) by
       intro kk hk
       rw [← hE, YcT ma.out 0 kk (by rw [hn]; exact hk)]
       simp)
      have hE' := Aside0.mk hE
      have hEl' := Aside0.mk hEl
      have hn1 : 0 < n ∧ n < 1000000000 := by have := hlen.out; omega
      have hll : ma.leads.length < 1000000000 := hlen.out.2.2
      clear hE hEl hn hlen
      go_wp2_with fail
      go_loopg [8, 9, 10] n (fun gg s8 s9 s10 wq => ∃ (kk : Nat) (A8 : Option Addr) (n8 c8 : Nat), kk ≤ n ∧ n - kk ≤ gg ∧ s8 = .slice A8 n8 c8 ∧ s9 = .int .i64 (sumP ma.out kk) ∧ s10 = .int .i64 kk ∧ Aside0 (Below w5.heap.size w5 wq) ∧ Aside0 (Kd.R (Kd.int .i64) 3 wq w5.heap.size (fun _ => True) (.slice A8 n8 c8) (E.take kk)))
      case atStart => exact ⟨0, none, 0, 0, Nat.zero_le _, Z0, rfl, (by simp [sumP]), rfl, ⟨Below.refl _ _⟩, ⟨(by rw [List.take_zero]; exact Kd.R_nil _ _ _ _ _)⟩⟩
      case round =>
       obtain ⟨kk, A8, n8, c8, hkk, hg, rfl, rfl, rfl, HB, HR⟩ := hrel
       have h6 := h5'.out.below HB.out
       obtain ⟨B0, b0, B2, b2, B3, b3, B4, b4, y9, y10, y11, y12, y13, y14, y15, rfl⟩ := h6.kc
       have k2 := h6.k.cell 2 rfl
       rw [hN.out] at k2
       by_cases hlt : kk < n
       ·have hltz : (kk : Int) < (n : Int) := by omega
        obtain ⟨-, -, hC⟩ := Kd.R_reads' (h6.k.row 2 _ _ rfl rfl : Kd.R k37 37 wr w.heap.size (fun k => o5 k = 0 + 1 + 2) (.slice B2 ma.out.length b2) ma.out)
        rw [hN.out] at hC
        obtain ⟨ad, e, g0, g1, g2, g3⟩ := Ybt hC (kk : Int) Z0 hltz
        cases e
        have hkl : kk < ma.out.length := by rw [hN.out]; exact hlt
        have hrd : Xz ma.out (kk : Int) = ma.out[kk]'hkl := by simp [Xz, List.getD_eq_getElem?_getD, hkl]
        have hft := Aside0.mk (hfit.out _ (List.getElem_mem hkl))
        have hs1 := Aside0.mk (Ycm ma.out kk hkl)
        rw [Int.toNat_natCast] at g0 g1 g2 g3
        rw [hrd] at g0 g1 g2 g3
        have hsb := JH ma.out kk
        have hgk := Aside0.mk (show n - (kk + 1) < gk ∧ kk + 1 ≤ n by omega)
        have htk := Aside0.mk (show E.take (kk + 1) = E.take kk ++ [sumP ma.out (kk + 1)] by rw [List.take_add_one, hEg.out kk hlt]; rfl)
        have htl := Aside0.mk (show (E.take kk).length ≤ 1000000000 by rw [List.length_take, hEl'.out]; omega)
        clear hrd hC
        generalize ma.out[kk]'_ = tk at g0 g1 g2 g3 hft hs1
        clear hkl
        have hsz := YbF tk
        replace h6 := Aside0.mk h6
        clear hg
        go_wp2_with fail
        refine (Ydg tk hft.out _).mono ?_
        rintro e w7 ⟨rfl, hB7⟩
        have hB8 := Aside0.mk (HB.out.trans (hB7.mono HB.out.size))
        have hR7 := Aside0.mk (Kd.R_below HR.out hB7)
        have hbb := hB8.out.size
        clear hB7 g0 g1 g2 g3 k2
        go_wp2_with (at_builtin; (refine Kd.R_append (Kd.int .i64) (w0 := w5) w5.heap.size rfl _ _ 53 3 (.int .i64 0) 8 rfl Try.underlying53 YcP rfl Z1 Z1 (.slice A8 n8 c8) (E.take kk) (sumP ma.out kk + VB tk) [.int .i64 (sumP ma.out kk + VB tk)] (fun _ => True) (fun _ => False) rfl rfl rfl (fun _ h => h.elim) (fun _ _ => trivial) hR7.out hB8.out hbb (Zo htl.out) ?_))
        intro v9 w9 hR9 hB9 hg9 _
        obtain ⟨A9, c9, hv9⟩ := Kd.R_slice hR9
        obtain ⟨n9, hn9⟩ : ∃ n9, (E.take kk ++ [sumP ma.out kk + VB tk]).length = n9 := ⟨_, rfl⟩
        rw [hn9] at hv9
        subst hv9
        rw [← hs1.out, ← htk.out] at hR9
        replace hR9 := Aside0.mk hR9
        replace hB9 := Aside0.mk hB9
        clear hg9 hn9
        go_wp2_with fail
        go_roundg (n - (kk + 1))
        case measure => exact hgk.out.1
        case rel => exact ⟨kk + 1, A9, n9, c9, hgk.out.2, Nat.le_refl _, rfl, (by rw [hs1.out]), ZE, hB9, hR9⟩
       ·obtain rfl : kk = n := by omega
        have hR := HR.out
        rw [List.take_of_length_le (by rw [hEl'.out]; exact Nat.le_refl _)] at hR
        have h7 := Aside0.mk h6
        have hB7 := Aside0.mk (hB6.out.trans (Below.mono HB.out h5'.out.k.base_le))
        have hn8 := (Kd.R_reads' hR).1
        rw [hEl'.out] at hn8
        subst n8
        obtain ⟨ge, cap, hv, hge1, -, cellsE, hbe⟩ := Kd.R_form hR (by rw [hEl'.out]; exact hn1.1)
        rw [hEl'.out] at hv
        cases hv
        replace hR := Aside0.mk hR
        have hz : ¬ (kk : Int) < (kk : Int) := by omega
        clear hg HR HB h6 hbe
        obtain ⟨C0, d0, C1, d1, C2, d2, C3, d3, C4, d4, rfl⟩ := h7.out.fc
        have h8 : Aside0 (∃ vk vf, vk[2]? = some (.slice B2 kk b2) ∧ vf[4]? = some (.slice C4 ma.leads.length d4) ∧ Rx wr w.heap.size gm gn (bare (l, none)) o5 vk vf ma) := ⟨_, _, (by rw [← hN.out]; rfl), rfl, h7.out⟩
        clear h7 h5'
        go_wp2_with fail
        go_loopg [11] ma.leads.length (fun gg s11 ws => ∃ j : Nat, j ≤ ma.leads.length ∧ ma.leads.length - j ≤ gg ∧ s11 = .int .i64 j ∧ Aside0 (Below w.heap.size w ws) ∧ Aside0 (Kd.R (Kd.int .i64) 3 ws w5.heap.size (fun _ => True) (.slice (some ⟨ge, 0, none⟩) kk c8) E) ∧ Aside0 (∃ vk vf, vk[2]? = some (.slice B2 kk b2) ∧ vf[4]? = some (.slice C4 ma.leads.length d4) ∧ Rx ws w.heap.size gm gn (bare (l, none)) o5 vk vf { ma with out := (ma.leads.take j).foldl (aim1 E) ma.out }))
        case atStart => exact ⟨0, Nat.zero_le _, Z0, rfl, hB7, hR, h8⟩
        case round =>
         obtain ⟨j, hj, hg, rfl, HB, HR, HM⟩ := hrel
         obtain ⟨vk, vf, hv2, hv4, HX⟩ := HM.out
         clear HM
         have k4 := HX.f.cell 4 hv4
         by_cases hlt2 : j < ma.leads.length
         ·have hltz2 : (j : Int) < (ma.leads.length : Int) := by omega
          obtain ⟨-, -, hC⟩ := Kd.R_reads' (HX.f.row 4 _ _ hv4 rfl : Kd.R k77 77 wr w.heap.size (fun k => o5 k = 20 + 1 + 4) (.slice C4 ma.leads.length d4) ma.leads)
          obtain ⟨ad, e, g0, g1⟩ := at_T77 hC (j : Int) Z0 hltz2
          cases e
          have hrd : Ybn ma.leads (j : Int) = ma.leads[j]'hlt2 := by simp [Ybn, List.getD_eq_getElem?_getD, hlt2]
          rw [Int.toNat_natCast, hrd] at g0 g1
          have htk : ma.leads.take (j + 1) = ma.leads.take j ++ [ma.leads[j]'hlt2] := by rw [List.take_add_one, List.getElem?_eq_getElem hlt2]; rfl
          have hldd := hld.out _ (List.getElem_mem hlt2)
          rw [hN.out] at hldd
          generalize ma.leads[j]'hlt2 = p at g0 g1 htk hldd
          obtain ⟨p0, p1⟩ := p
          obtain ⟨⟨hp0, hp1⟩, hp2, hp3⟩ := hldd
          simp only at hp0 hp1 hp2 hp3 g0 g1
          obtain ⟨fr, rfl⟩ : ∃ fr : Nat, p0 = fr := ⟨p0.toNat, Z0⟩
          obtain ⟨ti, rfl⟩ : ∃ ti : Nat, p1 = ti := ⟨p1.toNat, Z0⟩
          have hfrk : fr < kk := by omega
          have htok : ti < kk := by omega
          have hout : (ma.leads.take (j + 1)).foldl (aim1 E) ma.out = aim1 E ((ma.leads.take j).foldl (aim1 E) ma.out) ⟨fr, ti⟩ := by rw [htk, List.foldl_append]; rfl
          have hol : ((ma.leads.take j).foldl (aim1 E) ma.out).length = kk := by rw [Yee, hN.out]
          have hout' := Aside0.mk hout
          have hol' := Aside0.mk hol
          clear hout htk hrd hC hol
          generalize (ma.leads.take j).foldl (aim1 E) ma.out = out at HX hout' hol'
          have ef := hEg.out fr hfrk
          have et := hEg.out ti htok
          have sf := JH ma.out (fr + 1)
          have st := JH ma.out (ti + 1)
          generalize hsf : sumP ma.out (fr + 1) = xf at ef sf
          generalize hst : sumP ma.out (ti + 1) = xt at et st
          clear hsf hst
          have hgk := Aside0.mk (show ma.leads.length - (j + 1) < gk ∧ j + 1 ≤ ma.leads.length by omega)
          have hbw := HX.k.base_le
          have hBn := Yl (Below.refl wr.heap.size wr) (.cells #[.int .i64 (fr : Int), .int .i64 (ti : Int)] 77)
          have hbx := XN wr (.cells #[.int .i64 (fr : Int), .int .i64 (ti : Int)] 77)
          have hMn := HX.below hBn
          have hRn := Kd.R_below HR.out hBn
          have hBB := Aside0.mk (HB.out.trans (Below.mono hBn hbw))
          have e1 : IntKind.i64.wrap (xf - 2) = xf - 2 := IntWalk.i64_in _ Z0
          have e2 : IntKind.i64.wrap (xt - (xf - 2)) = xt - (xf - 2) := IntWalk.i64_in _ Z0
          have e3 : wrap64 (xf - 2) = xf - 2 := IntWalk.wrap64_in _ ⟨Z0, Z0⟩
          have e4 : wrap64 (xt - (xf - 2)) = xt - (xf - 2) := IntWalk.wrap64_in _ ⟨Z0, Z0⟩
          replace hMn := Aside0.mk hMn
          replace hRn := Aside0.mk hRn
          replace ef := Aside0.mk ef
          replace et := Aside0.mk et
          clear hBn hg HX
          go_wp2_with fail
          generalize wr.alloc (.cells #[.int .i64 (fr : Int), .int .i64 (ti : Int)] 77) = wn at hbx hMn hRn hBB ⊢
          generalize wr.heap.size = gb at hbx ⊢
          have hgo3 := (hMn.out.k.row 2 _ _ hv2 rfl : Kd.R k37 37 wn w.heap.size (fun k => o5 k = 0 + 1 + 2) (.slice B2 kk b2) out)
          obtain ⟨go, cap3, hv3, hgo1, -, cells3, hgo2⟩ := Kd.R_form hgo3 (by rw [hol'.out]; omega)
          rw [hol'.out] at hv3
          cases hv3
          have hgoo : o5 go = 3 := hgo3.1 go Zk
          obtain ⟨cells4, hge3⟩ : ∃ cells, wn.heap[ge]? = some (.cells cells 3 (0, 0)) := by
           obtain ⟨inner, ho⟩ := Kd.R_own hRn.out
           exact Vu ho ge Zk
          have hgne : go ≠ ge := fun e => by rw [e, hge3] at hgo2; cases hgo2
          have ct : wn.cell? ⟨ge, ti, none⟩ = some (.int .i64 xt) := YbG hRn.out et.out
          have cf : wn.cell? ⟨ge, fr, none⟩ = some (.int .i64 xf) := YbG hRn.out ef.out
          refine VS (ds := [20]) (S := fun w' => w'.cell? ⟨gm, 2, none⟩ = some (.slice (some ⟨go, 0, none⟩) kk b2) ∧ w'.cell? ⟨gb, 0, none⟩ = some (.int .i64 (fr : Int)) ∧ w'.cell? ⟨gb, 1, none⟩ = some (.int .i64 (ti : Int)) ∧ w'.cell? ⟨ge, ti, none⟩ = some (.int .i64 xt) ∧ w'.cell? ⟨ge, fr, none⟩ = some (.int .i64 xf)) Z2 rfl rfl ⟨hMn.out.k.cell 2 hv2, (Yc hbx 0).trans rfl, (Yc hbx 1).trans rfl, ct, cf⟩ (fun tb hS => ?_)
          have hfrz : (fr : Int) < (kk : Int) := by omega
          have htiz : (ti : Int) < (kk : Int) := by omega
          refine seg_ [(0, 105), (1, 106), (2, 107), (3, 108), (4, 109), (5, 110), (6, 111), (7, 112), (8, 113), (9, 114), (10, 115), (11, 116), (12, 117), (13, 118), (14, 119), (15, 120), (16, 121), (17, 122), (18, 123), (19, 124)] tb hS Z2 (fun _ _ _ _ h => h) (a' := ?_) ?_ ?_
          rotate_left
          ·repeat (first | exact Seg.nil | (refine Seg.on (v := ?_) (a1 := ?_) rfl rfl Z4 ?_ ?_ ?_; rotate_left 2; (rintro w' hS; go_split_ands; go_simp; with_reducible rfl); (simp only [Act.put, List.setIfInBounds_toArray, List.set_cons_zero, List.set_cons_succ, Yy, YA]; rfl)))
          clear hS ct cf e1 e2 e3 e4 g0 g1
          have hBd := YM (Below.refl wn.heap.size wn)
          have hMd := hMn.out.below hBd
          have hRd := Kd.R_below hRn.out hBd
          have hBB2 := hBB.out.trans (Below.mono hBd hMn.out.k.base_le)
          have hgo4 := XP hgo2 hBd
          have hge4 := XP hge3 hBd
          clear hBd hgo2 hge3 hbx hgo3 hMn hRn hBB
          generalize wn.drew = wd at hMd hRd hBB2 hgo4 hge4 ⊢
          have hRo := (hMd.k.row 2 _ _ hv2 rfl : Kd.R k37 37 wd w.heap.size (fun k => o5 k = 0 + 1 + 2) (.slice (some ⟨go, 0, none⟩) kk b2) out)
          obtain ⟨cc, hcl, hM, hcc, hfr2⟩ := Kd.R_elem hRo z37 (fr : Int) Z0 hfrz
          obtain rfl := YcN hM
          have u0 : wd.cell? ⟨go, fr * 4 + 3, none⟩ = some (.int .i64 (out.getD (fr : Int).toNat z37).f3) := hcc 3 _ rfl
          have u1 : wd.frozen? ⟨go, fr * 4 + 3, none⟩ = false := hfr2 3
          have hseg := Kd.R_seg hRo (fr : Int) Z0 hfrz (seg := [.int .i64 (xt - (xf - 2))]) (j := 3) hcl hcc (by show 3 + 1 ≤ 4; omega) (x' := { (out.getD (fr : Int).toNat z37) with f3 := xt - (xf - 2) }) (okp := fun _ => False) (JN _ _ _ _) (fun _ h => h.elim)
          have hset : aim1 E out ⟨fr, ti⟩ = out.set fr { (out.getD fr z37) with f3 := xt - (xf - 2) } := by
           rw [Yef E out ⟨fr, ti⟩ (by rw [hol'.out]; simpa using hfrk)]
           simp only [Int.toNat_natCast, List.getD_eq_getElem?_getD]
           rw [et.out, ef.out, show xt - (xf - 2) = xt - xf + 2 by omega]
           rfl
          have hst := hMd.k.turn (w1 := wd.setCell ⟨go, fr * 4 + 3, none⟩ (.int .i64 (xt - (xf - 2)))) (o1 := o5) 2 (loc_row k37 37 w.heap.size (aim1 E out ⟨fr, ti⟩)) (fun _ _ => rfl) (fun k hlt _ hne => Below.heap_setCell _ _ _ _ (fun e => hne (by rw [show k = go from e]; exact hgoo))) (fun v hv => by
           rw [hv2] at hv
           cases hv
           rw [hset]
           exact hseg.1)
          have hkk := hMd.f.keep2 (w1 := wd.setCell ⟨go, fr * 4 + 3, none⟩ (.int .i64 (xt - (xf - 2)))) (o1 := o5) (fun _ _ => rfl) (fun k _ _ h1 _ => Below.heap_setCell _ _ _ _ (fun e => by rw [show k = go from e, hgoo] at h1; omega))
          have h9 : Rx (wd.setCell ⟨go, fr * 4 + 3, none⟩ (.int .i64 (xt - (xf - 2)))) w.heap.size gm gn (bare (l, none)) o5 vk vf { ma with out := aim1 E out ⟨fr, ti⟩ } := ⟨hst, hkk, hMd.lk, hMd.lf, hMd.inp, hMd.le⟩
          have hR9 : Kd.R (Kd.int .i64) 3 (wd.setCell ⟨go, fr * 4 + 3, none⟩ (.int .i64 (xt - (xf - 2)))) w5.heap.size (fun _ => True) (.slice (some ⟨ge, 0, none⟩) kk c8) E :=
           Kd.R_mono (Kd.R_step (w1 := wd.setCell ⟨go, fr * 4 + 3, none⟩ (.int .i64 (xt - (xf - 2)))) (Kd.R_mono (ok' := fun k => k ≠ go) (Kd.R_bound hRd) (fun k hk e => by
            obtain ⟨_, _, _, q, hq, cells, hc⟩ := hk
            rw [e, hgo4] at hc
            cases hc
            exact absurd hq Z1)) (fun k hk _ => Below.heap_setCell _ _ _ _ hk)) (fun _ _ => trivial)
          have hB9 := Aside0.mk (hBB2.setCell (p := ⟨go, fr * 4 + 3, none⟩) (by
           have := Kd.R_base hRo go Zk
           exact this) (.int .i64 (xt - (xf - 2))))
          rw [← hout'.out] at h9
          replace h9 := Aside0.mk h9
          replace hR9 := Aside0.mk hR9
          clear hset hseg hcc hM hcl hfr2 hRo hMd hRd hBB2 hgo4 hge4 hst hkk
          refine UI 20 tb rfl Z2 ?_
          go_wp2_with fail
          refine ql_ (end_ tb Z2 ?_)
          go_wp2_with fail
          go_roundg (ma.leads.length - (j + 1))
          case measure => exact hgk.out.1
          case rel => exact ⟨j + 1, hgk.out.2, Nat.le_refl _, ZE, hB9, hR9, ⟨vk, vf, hv2, hv4, h9.out⟩⟩
         ·have hj2 : j = ma.leads.length := by omega
          subst hj2
          rw [List.take_of_length_le (Nat.le_refl _)] at HX
          have k2 := HX.k.cell 2 hv2
          have hM := Aside0.mk HX
          have hzz : ¬ (ma.leads.length : Int) < (ma.leads.length : Int) := by omega
          clear HX hg HR
          go_wp2_with fail
          rw [hrr.out]
          exact bodyPost_ret (v := .tuple #[.slice B2 kk b2, .int .i64 0]) Z1w rfl ⟨_, rfl, by
           have hh := Kd.R_mono (hM.out.k.row 2 _ _ hv2 rfl : Kd.R k37 37 wr w.heap.size (fun k => o5 k = 0 + 1 + 2) (.slice B2 kk b2) _) (ok' := fun _ => True) (fun _ _ => trivial)
           rw [← hE'.out] at hh
           exact hh, HB.out⟩
end Go.Proofs.Ytehmhgpogpbjiaa.Fcc
namespace Go.Proofs.Ytehmhgpogpbjiaa.PFccTokens
open Go.RowKit Go.Proofs.YtehmhgpogpbjiaaW.PrintWords Go.Proofs.YtehmhgpogpbjiaaW.PrintLast Go.Proofs.YtehmhgpogpbjiaaW.PrintMore
attribute [local go_sem] VH VF Ub Ua Vm Vl VG VE
theorem eqA37 (d : Nat) (w : World) (x0 y0 : Int) (x1 y1 : Int) (x2 y2 : ByteArray) (x3 y3 : Int) :
 (Op.equalIn (d + 2) 37 (.agg #[.int .i64 x0, .int .u32 x1, .string x2, .int .i64 x3]) (.agg #[.int .i64 y0, .int .u32 y1, .string y2, .int .i64 y3])).run Try.prog w = .ok (x0 == y0 && (x1 == y1 && (x2.toList == y2.toList && (x3 == y3)))) w := by
 refine eqA_of Try.underlying37 Z2 ?_
 refine Yb5 Z4 ZP ZP (by go_simp) ?_
 refine Yb5 Z4 ZP ZP (by go_simp) ?_
 refine Yb5 Z4 ZP ZP (by go_simp) ?_
 exact eqf_last Z4 ZP ZP (by go_simp)
end Go.Proofs.Ytehmhgpogpbjiaa.PFccTokens
namespace Go.Proofs.Ytehmhgpogpbjiaa.PFccTokens
open Go.RowKit Go.Proofs.YtehmhgpogpbjiaaW.PrintWords Go.Proofs.YtehmhgpogpbjiaaW.PrintLast Go.Proofs.YtehmhgpogpbjiaaW.PrintMore
attribute [local go_sem high] eqA37
attribute [local go_sem] VH VF Ub Ua Vm Vl VG VE
def Yu.l0 : Nat → List (S37) → List (S37) → Int → Option (Bool)
 | 0, _, _, _ => none
 | k + 1, x0, x1, x5 => if x5 < (x0.length : Int) then (if 0 ≤ x5 then (if x5 < (x1.length : Int) then (if (!(((Xz x0 x5).f0) == ((Xz x1 x5).f0)) || (!(((Xz x0 x5).f1) == ((Xz x1 x5).f1)) || (!((((Xz x0 x5).f2).toList) == (((Xz x1 x5).f2).toList)) || (!(((Xz x0 x5).f3) == ((Xz x1 x5).f3)))))) = true then (some false) else (Yu.l0 k x0 x1 (wrap64 (x5 + 1)))) else (none)) else (none)) else (some true)
def Yu.f (k : Nat) (l0 : List (S37)) (l1 : List (S37)) : Option (Bool) := if (l0.length : Int) = (l1.length : Int) then (Yu.l0 k l0 l1 0) else (some false)
theorem Yu.mono_l : ∀ k, (∀ y0 y1 y2, LeO (Yu.l0 k y0 y1 y2) (Yu.l0 (k + 1) y0 y1 y2))
 | 0 => fun _ _ _ r h => by simp [Yu.l0] at h
 | k + 1 => by
  have ih0 := Yu.mono_l k
  ·intro y0 y1 y2
   unfold Yu.l0
   exact XS
theorem Yu.mono : ∀ a0 a1 k, LeO (Yu.f k a0 a1) (Yu.f (k + 1) a0 a1) := by
 intro a0 a1 k
 have ih0 := Yu.mono_l k
 unfold Yu.f
 exact XS
theorem Yu.calls (k : Nat) (A0 : Option Addr) (c0 : Nat) (l0 : List (S37)) (A1 : Option Addr) (c1 : Nat) (l1 : List (S37)) (r : Bool) (w : World) (hr0 : Kd.C k37 w A0 l0.length l0) (hc0 : l0.length ≤ c0) (hr1 : Kd.C k37 w A1 l1.length l1) (hc1 : l1.length ≤ c1) (h : Yu.f k l0 l1 = some r) :
 Calls Try.prog 9 #[.slice A0 l0.length c0, .slice A1 l1.length c1] w fun e w' => e = .returned (.bool r) ∧ Xa w w' := by
 have hu37 := Try.underlying37
 have HR0 := Aside0.mk hr0
 have HC0 := Aside0.mk hc0
 clear hr0 hc0
 have HR1 := Aside0.mk hr1
 have HC1 := Aside0.mk hc1
 clear hr1 hc1
 have H : (if (l0.length : Int) = (l1.length : Int) then (Yu.l0 k l0 l1 0) else (some false)) = some r := h
 clear h
 by_cases c3 : (l0.length : Int) = (l1.length : Int)
 ·rw [if_pos c3] at H
  obtain ⟨c3b0, c3b1⟩ := eqB c3
  have c3b2 : (l0.length == l1.length) = true := by first | simpa using c3 | (simp at c3 ⊢; omega)
  clear c3
  have H' := Aside0.mk H
  clear H
  go_enter Try.func9, Try.ntmps9
  go_wp2
  repeat (go_quiet (fail); try go_wp2)
  go_loopg [5] k (fun kq v5 w' => ∃ (x5_1 : Int), v5 = .int .i64 x5_1 ∧ Aside0 (Yu.l0 kq l0 l1 x5_1 = some r) ∧ Aside0 (kq ≤ k) ∧ Xa w w')
  case atStart => exact ⟨(0), Z3, H', ⟨Nat.le_refl _⟩, Z7⟩
  case round =>
   clear H'
   try clear c1
   try clear p2
   try clear c3
   try clear c3b0
   try clear c3b1
   try clear c3b2
   obtain ⟨x5_1, rfl, HA, HK1, ⟨m1, rfl⟩⟩ := hrel
   cases gk with
   | zero => exact absurd HA.out (by simp [Yu.l0])
   | succ k1 =>
    have H := HA.out
    clear HA
    simp only [Yu.l0] at H
    by_cases c4 : x5_1 < (l0.length : Int)
    ·rw [if_pos c4] at H
     have c4b0 := decide_eq_true c4
     clear c4
     by_cases c5 : 0 ≤ x5_1
     ·rw [if_pos c5] at H
      have c5b0 := decide_eq_true c5
      clear c5
      by_cases c6 : x5_1 < (l1.length : Int)
      ·rw [if_pos c6] at H
       have c6b0 := decide_eq_true c6
       clear c6
       by_cases c7 : (!(((Xz l0 x5_1).f0) == ((Xz l1 x5_1).f0)) || (!(((Xz l0 x5_1).f1) == ((Xz l1 x5_1).f1)) || (!((((Xz l0 x5_1).f2).toList) == (((Xz l1 x5_1).f2).toList)) || (!(((Xz l0 x5_1).f3) == ((Xz l1 x5_1).f3)))))) = true
       ·rw [if_pos c7] at H
        have c7b0 : (!(((Xz l0 x5_1).f0) == ((Xz l1 x5_1).f0)) || (!(((Xz l0 x5_1).f1) == ((Xz l1 x5_1).f1)) || (!((((Xz l0 x5_1).f2).toList) == (((Xz l1 x5_1).f2).toList)) || (!(((Xz l0 x5_1).f3) == ((Xz l1 x5_1).f3)))))) = true := c7
        clear c7
        obtain rfl := Option.some.inj H
        have p236 : 0 ≤ (x5_1 : Int) := of_decide_eq_true Z5
        have q236 : x5_1 < (l0.length : Int) := of_decide_eq_true Z5
        obtain ⟨ad236, e236, hx236_0, hx236_1, hx236_2, hx236_3⟩ := Ybt HR0.out x5_1 p236 q236
        cases e236
        replace p236 := eq_true p236
        replace q236 := eq_true q236
        have p237 : 0 ≤ (x5_1 : Int) := of_decide_eq_true Z5
        have q237 : x5_1 < (l1.length : Int) := of_decide_eq_true Z5
        obtain ⟨ad237, e237, hx237_0, hx237_1, hx237_2, hx237_3⟩ := Ybt HR1.out x5_1 p237 q237
        cases e237
        replace p237 := eq_true p237
        replace q237 := eq_true q237
        go_wp2
        repeat (go_quiet (fail); try go_wp2)
        go_ret
        exact Zb
       ·rw [if_neg c7] at H
        have c7b0 : (!(((Xz l0 x5_1).f0) == ((Xz l1 x5_1).f0)) || (!(((Xz l0 x5_1).f1) == ((Xz l1 x5_1).f1)) || (!((((Xz l0 x5_1).f2).toList) == (((Xz l1 x5_1).f2).toList)) || (!(((Xz l0 x5_1).f3) == ((Xz l1 x5_1).f3)))))) = false := by simpa using c7
        clear c7
        have H' := Aside0.mk H
        clear H
        have p236 : 0 ≤ (x5_1 : Int) := of_decide_eq_true Z5
        have q236 : x5_1 < (l0.length : Int) := of_decide_eq_true Z5
        obtain ⟨ad236, e236, hx236_0, hx236_1, hx236_2, hx236_3⟩ := Ybt HR0.out x5_1 p236 q236
        cases e236
        replace p236 := eq_true p236
        replace q236 := eq_true q236
        have p237 : 0 ≤ (x5_1 : Int) := of_decide_eq_true Z5
        have q237 : x5_1 < (l1.length : Int) := of_decide_eq_true Z5
        obtain ⟨ad237, e237, hx237_0, hx237_1, hx237_2, hx237_3⟩ := Ybt HR1.out x5_1 p237 q237
        cases e237
        replace p237 := eq_true p237
        replace q237 := eq_true q237
        go_wp2
        repeat (go_quiet (fail); try go_wp2)
        go_roundg k1
        case measure => have := HK1.out; omega
        case rel => exact ⟨(wrap64 (x5_1 + 1)), Z3, H', ⟨(Zo HK1.out)⟩, Z7⟩
      ·rw [if_neg c6] at H
       exact absurd H Z6
     ·rw [if_neg c5] at H
      exact absurd H Z6
    ·rw [if_neg c4] at H
     have c4b0 := decide_eq_false c4
     clear c4
     obtain rfl := Option.some.inj H
     go_wp2
     repeat (go_quiet (fail); try go_wp2)
     go_ret
     exact Zb
 ·rw [if_neg c3] at H
  obtain ⟨c3b0, c3b1⟩ := neB c3
  have c3b2 : (l0.length == l1.length) = false := by first | simpa using c3 | (simp at c3 ⊢; omega)
  obtain rfl := Option.some.inj H
  go_enter Try.func9, Try.ntmps9
  go_wp2
  repeat (go_quiet (fail); try go_wp2)
  go_ret
  exact Zb
end Go.Proofs.Ytehmhgpogpbjiaa.PFccTokens
namespace Go.Proofs.Ytehmhgpogpbjiaa.Fcc
open Go.RowKit Go.Proofs.YtehmhgpogpbjiaaW.PrintWords Go.Proofs.YtehmhgpogpbjiaaW.PrintLast Go.Proofs.YtehmhgpogpbjiaaW.PrintMore Go.Proofs.Ytehmhgpogpbjiaa.PFccTokens
set_option maxRecDepth 100000
def aliveT : ByteArray := ⟨#[58, 32, 120, 32, 105, 102, 32, 49, 32, 116, 104, 101, 110, 32, 59]⟩
def JG : List S37 := [⟨182, 2048, ⟨#[120]⟩, 0⟩, ⟨183, 0, ⟨#[]⟩, 0⟩, ⟨20, 0, ⟨#[]⟩, 4⟩, ⟨166, 0, ⟨#[]⟩, 0⟩, ⟨178, 0, ⟨#[]⟩, 0⟩, ⟨194, 0, ⟨#[]⟩, 0⟩, ⟨0, 0, ⟨#[]⟩, 0⟩]
theorem alive_cut : cutP aliveT = ([⟨1, ⟨#[58]⟩, 0⟩, ⟨1, ⟨#[120]⟩, 2⟩, ⟨1, ⟨#[105, 102]⟩, 4⟩, ⟨1, ⟨#[49]⟩, 7⟩, ⟨1, ⟨#[116, 104, 101, 110]⟩, 9⟩, ⟨1, ⟨#[59]⟩, 14⟩], 0) :=
 cutP_eq (k := 100) Z2
theorem Yfd : toksP aliveT = (JG, 0) := by
 unfold toksP
 rw [alive_cut]
 kernel_rfl
theorem Yfe : Yu.f 20 JG JG = some true := by kernel_rfl
def JT (l : List S37) : List Value := l.flatMap fun x => [.int .i64 x.f0, .int .u32 x.f1, .string x.f2, .int .i64 x.f3]
theorem UV {w : World} {base : Nat} {ok : Nat → Prop} : ∀ l : List S37, Reps (k37.M w base ok) 4 l (JT l)
 | [] => Reps.none _ _
 | x :: l => Reps.c4 (JN _ _ _ x) (UV l)
theorem lit37 (W : World) (l : List S37) (hl : l.length ≤ 1000) : Kd.R k37 37 (W.alloc (.cells (JT l).toArray 37)) W.heap.size (fun _ => True) (.slice (some ⟨W.heap.size, 0, none⟩) l.length l.length) l := by
 refine ⟨fun _ _ => trivial, JT l, ?_, ?_⟩
 ·have h2 := World.ownsRow_lit (base := W.heap.size) (e := 37) (size := k37.sz) W (JT l).toArray l.length (Nat.le_refl _) (by have : maxLen = 9223372036854775807 := rfl; omega) (by have h := (UV (w := W) (base := 0) (ok := fun _ => True) l).1; have hz : k37.sz = 4 := rfl; rw [hz]; simpa using h)
  simpa using h2
 ·exact UV l
theorem YdN (w : World) : Calls Try.prog 6 #[] w fun e W' => e = .returned (.bool true) ∧ Below w.heap.size w W' := by
 have h7 := JY aliveT Z1 w
 rw [Yfd] at h7
 have h7' := Aside0.mk h7
 clear h7
 go_enter Try.func6, Try.ntmps6
 go_wp2_with fail
 refine h7'.out.mono ?_
 rintro e w1 ⟨v, rfl, hR, hB⟩
 obtain ⟨A, c, rfl, hc, hC⟩ := Kd.R_reads hR
 have hL : JG.length = 7 := rfl
 have hRm := Kd.R_below hR (Yl (Below.refl w1.heap.size w1) (.cells (JT JG).toArray 37))
 obtain ⟨A2, c2, e2, hc2, hC2⟩ := Kd.R_reads hRm
 cases e2
 have hl := lit37 w1 JG Z1
 obtain ⟨A3, c3, e3, hc3, hC3⟩ := Kd.R_reads hl
 cases e3
 have hS := Yu.calls 20 _ _ JG _ _ JG true _ hC2 hc hC3 (Nat.le_refl _) Yfe
 have hBa := hB.trans (Below.mono (Yl (Below.refl w1.heap.size w1) (.cells (JT JG).toArray 37)) hB.size)
 have hS' := Aside0.mk hS
 have hBa' := Aside0.mk hBa
 clear hS hBa hC hC2 hC3 hRm hR hc hc2 hc3 hl
 go_wp2_with fail
 refine hS'.out.mono ?_
 rintro e w2 ⟨rfl, n, rfl⟩
 go_wp2_with fail
 exact bodyPost_ret (v := .bool true) (by simp [results, Try.results6, go_sem]) rfl ⟨rfl, Yn hBa'.out n⟩
theorem same_loop (l : List S37) (hl : l.length ≤ 9223372036854775807) : ∀ (f i : Nat), i + f = l.length → Ev (fun k => Yu.l0 k l l (i : Int)) true := by
 intro f
 induction f with
 | zero =>
   intro i hi
   refine Ev.step (f := fun k => Yu.l0 (k + 1) l l (i : Int)) (fun k => rfl) ?_
   simp only [Yu.l0, if_neg (show ¬ ((i : Int) < (l.length : Int)) by omega)]
   exact Ev.now _
 | succ f ih =>
   intro i hi
   refine Ev.step (f := fun k => Yu.l0 (k + 1) l l (i : Int)) (fun k => rfl) ?_
   have hw : wrap64 ((i : Int) + 1) = ((i + 1 : Nat) : Int) := by rw [IntWalk.wrap64_in _ ⟨Z0, Z0⟩]; omega
   simp only [Yu.l0, if_pos (show (i : Int) < (l.length : Int) by omega), if_pos (show (0 : Int) ≤ (i : Int) by omega), beq_self_eq_true, Bool.not_true, Bool.or_self, Bool.false_eq_true, if_false, hw]
   exact ih (i + 1) Z0
theorem same_ev (l : List S37) (hl : l.length ≤ 9223372036854775807) : Ev (fun k => Yu.f k l l) true := by
 unfold Yu.f
 simp only [if_true, ↓reduceIte]
 exact same_loop l hl l.length 0 Z0
theorem YeA (l : List S37) (hl : l.length ≤ 9223372036854775807) (A0 A1 : Option Addr) (c0 c1 : Nat) (w : World) (hr0 : Kd.C k37 w A0 l.length l) (hc0 : l.length ≤ c0) (hr1 : Kd.C k37 w A1 l.length l) (hc1 : l.length ≤ c1) :
 Calls Try.prog 9 #[.slice A0 l.length c0, .slice A1 l.length c1] w fun e w' => e = .returned (.bool true) ∧ Xa w w' := by
 obtain ⟨k, h⟩ := (same_ev l hl).rounds
 exact Yu.calls k A0 c0 l A1 c1 l true w hr0 hc0 hr1 hc1 h
theorem Ydc (s : ByteArray) (hs : s.size ≤ maxLen) (w : World) : Calls Try.prog 8 #[.string s] w (Yfg (toksP s) w) := by
 unfold toksP
 split
 ·rename_i he
  exact YeC s hs he w
 ·rename_i he
  exact Ydd s hs he w
theorem fccTokens_row (s : ByteArray) (w : World) (hs : s.size ≤ 140737488351232) : Calls Try.prog 3 #[.string s] w fun e w' => e = .returned (.bool true) ∧ Below w.heap.size w w' := by
 have hm : maxLen = 9223372036854775807 := rfl
 replace hs : s.size ≤ maxLen := by omega
 clear hm
 have h6 := Aside0.mk YdN
 have h7 := Aside0.mk (JY s hs)
 have h8 := Aside0.mk (Ydc s hs)
 obtain ⟨r, hr⟩ : ∃ r, toksP s = r := ⟨_, rfl⟩
 rw [hr] at h7 h8
 obtain ⟨l, c⟩ := r
 clear hr
 go_enter Try.func3, Try.ntmps3
 go_wp2_with fail
 refine (h6.out _).mono ?_
 rintro e w1 ⟨rfl, hB1⟩
 have hB1' := Aside0.mk hB1
 clear hB1
 go_wp2_with fail
 refine (h7.out _).mono ?_
 rintro e w2 ⟨v2, rfl, hR2, hB2⟩
 have hB2' := Aside0.mk (hB1'.out.trans (Below.mono hB2 hB1'.out.size))
 replace hR2 := Aside0.mk hR2
 clear hB2 hB1'
 go_wp2_with fail
 refine (h8.out _).mono ?_
 rintro e w3 ⟨v3, rfl, hR3, hB3⟩
 have hB3' := Aside0.mk (hB2'.out.trans (Below.mono hB3 hB2'.out.size))
 have hR23 := Kd.R_below hR2.out hB3
 obtain ⟨A2, c2, rfl, hc2, hC2⟩ := Kd.R_reads hR23
 obtain ⟨A3, c3, rfl, hc3, hC3⟩ := Kd.R_reads hR3
 have hll : l.length ≤ 9223372036854775807 := hC3.2.1
 have hS := Aside0.mk (YeA l hll A2 A3 c2 c3 w3 hC2 hc2 hC3 hc3)
 have hcc : (c == c) = true := beq_self_eq_true c
 clear hB3 hR23 hR2 hR3 hC2 hC3 hB2'
 go_wp2_with fail
 refine hS.out.mono ?_
 rintro e w4 ⟨rfl, n, rfl⟩
 go_wp2_with fail
 exact bodyPost_ret (v := .bool true) (by simp [results, Try.results3, go_sem]) rfl ⟨rfl, Yn hB3'.out n⟩
end Go.Proofs.Ytehmhgpogpbjiaa.Fcc
