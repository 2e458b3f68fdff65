import Derived.Test.Ytehmhgpogpbjiaafr29
set_option linter.unusedVariables false
set_option linter.unusedSimpArgs false
set_option maxRecDepth 100000
set_option maxHeartbeats 8000000
namespace Go.Proofs.Ytehmhgpogpbjiaa.PFccTokens
open Go.RowKit Go.Proofs.YtehmhgpogpbjiaaW.PrintWords Go.Proofs.YtehmhgpogpbjiaaW.PrintLast Go.Proofs.YtehmhgpogpbjiaaW.PrintMore
attribute [local go_sem high] eqA37
attribute [local go_sem] Vx Vv VV VU Ve Vd Vw Vu
def Yv.l0 : Nat → List (S37) → List (S37) → Int → Option (Bool)
 | 0, _, _, _ => none
 | k + 1, x0, x1, x5 => if x5 < (x0.length : Int) then (if 0 ≤ x5 then (if x5 < (x1.length : Int) then (if (!(((Xo x0 x5).f0) == ((Xo x1 x5).f0)) || (!(((Xo x0 x5).f1) == ((Xo x1 x5).f1)) || (!((((Xo x0 x5).f2).toList) == (((Xo x1 x5).f2).toList)) || (!(((Xo x0 x5).f3) == ((Xo x1 x5).f3)))))) = true then (some false) else (Yv.l0 k x0 x1 (wrap64 (x5 + 1)))) else (none)) else (none)) else (some true)
def Yv.f (k : Nat) (l0 : List (S37)) (l1 : List (S37)) : Option (Bool) := if (l0.length : Int) = (l1.length : Int) then (Yv.l0 k l0 l1 0) else (some false)
theorem Yv.mono_l : ∀ k, (∀ y0 y1 y2, LeO (Yv.l0 k y0 y1 y2) (Yv.l0 (k + 1) y0 y1 y2))
 | 0 => fun _ _ _ r h => by simp [Yv.l0] at h
 | k + 1 => by
  have ih0 := Yv.mono_l k
  ·intro y0 y1 y2
   unfold Yv.l0
   exact XI
theorem Yv.mono : ∀ a0 a1 k, LeO (Yv.f k a0 a1) (Yv.f (k + 1) a0 a1) := by
 intro a0 a1 k
 have ih0 := Yv.mono_l k
 unfold Yv.f
 exact XI
theorem Yv.calls (k : Nat) (A0 : Option Addr) (c0 : Nat) (l0 : List (S37)) (A1 : Option Addr) (c1 : Nat) (l1 : List (S37)) (r : Bool) (w : World) (hr0 : Kd.C k37 w A0 l0.length l0) (hc0 : l0.length ≤ c0) (hr1 : Kd.C k37 w A1 l1.length l1) (hc1 : l1.length ≤ c1) (h : Yv.f k l0 l1 = some r) :
 Calls Try.prog 9 #[.slice A0 l0.length c0, .slice A1 l1.length c1] w fun e w' => e = .returned (.bool r) ∧ YZ w w' := by
 have hu37 := Try.underlying37
 have HR0 := Aside0.mk hr0
 have HC0 := Aside0.mk hc0
 clear hr0 hc0
 have HR1 := Aside0.mk hr1
 have HC1 := Aside0.mk hc1
 clear hr1 hc1
 have H : (if (l0.length : Int) = (l1.length : Int) then (Yv.l0 k l0 l1 0) else (some false)) = some r := h
 clear h
 by_cases c3 : (l0.length : Int) = (l1.length : Int)
 ·rw [if_pos c3] at H
  obtain ⟨c3b0, c3b1⟩ := eqB c3
  have c3b2 : (l0.length == l1.length) = true := by first | simpa using c3 | (simp at c3 ⊢; omega)
  clear c3
  have H' := Aside0.mk H
  clear H
  go_enter Try.func9, Try.ntmps9
  go_wp2
  repeat (go_quiet (fail); try go_wp2)
  go_loopg [5] k (fun kq v5 w' => ∃ (x5_1 : Int), v5 = .int .i64 x5_1 ∧ Aside0 (Yv.l0 kq l0 l1 x5_1 = some r) ∧ Aside0 (kq ≤ k) ∧ YZ w w')
  case atStart => exact ⟨(0), Z4, H', ⟨Nat.le_refl _⟩, Z8⟩
  case round =>
   clear H'
   try clear c1
   try clear p2
   try clear c3
   try clear c3b0
   try clear c3b1
   try clear c3b2
   obtain ⟨x5_1, rfl, HA, HK1, ⟨m1, rfl⟩⟩ := hrel
   cases gk with
   | zero => exact absurd HA.out (by simp [Yv.l0])
   | succ k1 =>
    have H := HA.out
    clear HA
    simp only [Yv.l0] at H
    by_cases c4 : x5_1 < (l0.length : Int)
    ·rw [if_pos c4] at H
     have c4b0 := decide_eq_true c4
     clear c4
     by_cases c5 : 0 ≤ x5_1
     ·rw [if_pos c5] at H
      have c5b0 := decide_eq_true c5
      clear c5
      by_cases c6 : x5_1 < (l1.length : Int)
      ·rw [if_pos c6] at H
       have c6b0 := decide_eq_true c6
       clear c6
       by_cases c7 : (!(((Xo l0 x5_1).f0) == ((Xo l1 x5_1).f0)) || (!(((Xo l0 x5_1).f1) == ((Xo l1 x5_1).f1)) || (!((((Xo l0 x5_1).f2).toList) == (((Xo l1 x5_1).f2).toList)) || (!(((Xo l0 x5_1).f3) == ((Xo l1 x5_1).f3)))))) = true
       ·rw [if_pos c7] at H
        have c7b0 : (!(((Xo l0 x5_1).f0) == ((Xo l1 x5_1).f0)) || (!(((Xo l0 x5_1).f1) == ((Xo l1 x5_1).f1)) || (!((((Xo l0 x5_1).f2).toList) == (((Xo l1 x5_1).f2).toList)) || (!(((Xo l0 x5_1).f3) == ((Xo l1 x5_1).f3)))))) = true := c7
        clear c7
        obtain rfl := Option.some.inj H
        have p236 : 0 ≤ (x5_1 : Int) := of_decide_eq_true Z5
        have q236 : x5_1 < (l0.length : Int) := of_decide_eq_true Z5
        obtain ⟨ad236, e236, hx236_0, hx236_1, hx236_2, hx236_3⟩ := UZ HR0.out x5_1 p236 q236
        cases e236
        replace p236 := eq_true p236
        replace q236 := eq_true q236
        have p237 : 0 ≤ (x5_1 : Int) := of_decide_eq_true Z5
        have q237 : x5_1 < (l1.length : Int) := of_decide_eq_true Z5
        obtain ⟨ad237, e237, hx237_0, hx237_1, hx237_2, hx237_3⟩ := UZ HR1.out x5_1 p237 q237
        cases e237
        replace p237 := eq_true p237
        replace q237 := eq_true q237
        go_wp2
        repeat (go_quiet (fail); try go_wp2)
        go_ret
        exact Zc
       ·rw [if_neg c7] at H
        have c7b0 : (!(((Xo l0 x5_1).f0) == ((Xo l1 x5_1).f0)) || (!(((Xo l0 x5_1).f1) == ((Xo l1 x5_1).f1)) || (!((((Xo l0 x5_1).f2).toList) == (((Xo l1 x5_1).f2).toList)) || (!(((Xo l0 x5_1).f3) == ((Xo l1 x5_1).f3)))))) = false := by simpa using c7
        clear c7
        have H' := Aside0.mk H
        clear H
        have p236 : 0 ≤ (x5_1 : Int) := of_decide_eq_true Z5
        have q236 : x5_1 < (l0.length : Int) := of_decide_eq_true Z5
        obtain ⟨ad236, e236, hx236_0, hx236_1, hx236_2, hx236_3⟩ := UZ HR0.out x5_1 p236 q236
        cases e236
        replace p236 := eq_true p236
        replace q236 := eq_true q236
        have p237 : 0 ≤ (x5_1 : Int) := of_decide_eq_true Z5
        have q237 : x5_1 < (l1.length : Int) := of_decide_eq_true Z5
        obtain ⟨ad237, e237, hx237_0, hx237_1, hx237_2, hx237_3⟩ := UZ HR1.out x5_1 p237 q237
        cases e237
        replace p237 := eq_true p237
        replace q237 := eq_true q237
        go_wp2
        repeat (go_quiet (fail); try go_wp2)
        go_roundg k1
        case measure => have := HK1.out; omega
        case rel => exact ⟨(wrap64 (x5_1 + 1)), Z4, H', ⟨(Zo HK1.out)⟩, Z8⟩
      ·rw [if_neg c6] at H
       exact absurd H Z3
     ·rw [if_neg c5] at H
      exact absurd H Z3
    ·rw [if_neg c4] at H
     have c4b0 := decide_eq_false c4
     clear c4
     obtain rfl := Option.some.inj H
     go_wp2
     repeat (go_quiet (fail); try go_wp2)
     go_ret
     exact Zc
 ·rw [if_neg c3] at H
  obtain ⟨c3b0, c3b1⟩ := neB c3
  have c3b2 : (l0.length == l1.length) = false := by first | simpa using c3 | (simp at c3 ⊢; omega)
  obtain rfl := Option.some.inj H
  go_enter Try.func9, Try.ntmps9
  go_wp2
  repeat (go_quiet (fail); try go_wp2)
  go_ret
  exact Zc
end Go.Proofs.Ytehmhgpogpbjiaa.PFccTokens
namespace Go.Proofs.Ytehmhgpogpbjiaa.Fcc
open Go.RowKit Go.Proofs.YtehmhgpogpbjiaaW.PrintWords Go.Proofs.YtehmhgpogpbjiaaW.PrintLast Go.Proofs.YtehmhgpogpbjiaaW.PrintMore Go.Proofs.Ytehmhgpogpbjiaa.PFccTokens
set_option maxRecDepth 100000
def aliveT : ByteArray := ⟨#[58, 32, 120, 32, 105, 102, 32, 49, 32, 116, 104, 101, 110, 32, 59]⟩
def Jw : List S37 := [⟨182, 2048, ⟨#[120]⟩, 0⟩, ⟨183, 0, ⟨#[]⟩, 0⟩, ⟨20, 0, ⟨#[]⟩, 4⟩, ⟨166, 0, ⟨#[]⟩, 0⟩, ⟨178, 0, ⟨#[]⟩, 0⟩, ⟨194, 0, ⟨#[]⟩, 0⟩, ⟨0, 0, ⟨#[]⟩, 0⟩]
theorem alive_cut : cutP aliveT = ([⟨1, ⟨#[58]⟩, 0⟩, ⟨1, ⟨#[120]⟩, 2⟩, ⟨1, ⟨#[105, 102]⟩, 4⟩, ⟨1, ⟨#[49]⟩, 7⟩, ⟨1, ⟨#[116, 104, 101, 110]⟩, 9⟩, ⟨1, ⟨#[59]⟩, 14⟩], 0) :=
 cutP_eq (k := 100) Z2
theorem Yed : toksP aliveT = (Jw, 0) := by
 unfold toksP
 rw [alive_cut]
 kernel_rfl
theorem Yee : Yv.f 20 Jw Jw = some true := by kernel_rfl
def JN (l : List S37) : List Value := l.flatMap fun x => [.int .i64 x.f0, .int .u32 x.f1, .string x.f2, .int .i64 x.f3]
theorem UN {w : World} {base : Nat} {ok : Nat → Prop} : ∀ l : List S37, Reps (k37.M w base ok) 4 l (JN l)
 | [] => Reps.none _ _
 | x :: l => Reps.c4 (YbI _ _ _ x) (UN l)
theorem lit37 (W : World) (l : List S37) (hl : l.length ≤ 1000) : Kd.R k37 37 (W.alloc (.cells (JN l).toArray 37)) W.heap.size (fun _ => True) (.slice (some ⟨W.heap.size, 0, none⟩) l.length l.length) l := by
 refine ⟨fun _ _ => trivial, JN l, ?_, ?_⟩
 ·have h2 := World.ownsRow_lit (base := W.heap.size) (e := 37) (size := k37.sz) W (JN l).toArray l.length (Nat.le_refl _) (by have : maxLen = 9223372036854775807 := rfl; omega) (by have h := (UN (w := W) (base := 0) (ok := fun _ => True) l).1; have hz : k37.sz = 4 := rfl; rw [hz]; simpa using h)
  simpa using h2
 ·exact UN l
theorem Yc5 (w : World) : Calls Try.prog 6 #[] w fun e W' => e = .returned (.bool true) ∧ Below w.heap.size w W' := by
 have h7 := UG aliveT Z1 w
 rw [Yed] at h7
 have h7' := Aside0.mk h7
 clear h7
 go_enter Try.func6, Try.ntmps6
 go_wp2_with fail
 refine h7'.out.mono ?_
 rintro e w1 ⟨v, rfl, hR, hB⟩
 obtain ⟨A, c, rfl, hc, hC⟩ := Kd.R_reads hR
 have hL : Jw.length = 7 := rfl
 have hRm := Kd.R_below hR (Yc (Below.refl w1.heap.size w1) (.cells (JN Jw).toArray 37))
 obtain ⟨A2, c2, e2, hc2, hC2⟩ := Kd.R_reads hRm
 cases e2
 have hl := lit37 w1 Jw Z1
 obtain ⟨A3, c3, e3, hc3, hC3⟩ := Kd.R_reads hl
 cases e3
 have hS := Yv.calls 20 _ _ Jw _ _ Jw true _ hC2 hc hC3 (Nat.le_refl _) Yee
 have hBa := hB.trans (Below.mono (Yc (Below.refl w1.heap.size w1) (.cells (JN Jw).toArray 37)) hB.size)
 have hS' := Aside0.mk hS
 have hBa' := Aside0.mk hBa
 clear hS hBa hC hC2 hC3 hRm hR hc hc2 hc3 hl
 go_wp2_with fail
 refine hS'.out.mono ?_
 rintro e w2 ⟨rfl, n, rfl⟩
 go_wp2_with fail
 exact bodyPost_ret (v := .bool true) (by simp [results, Try.results6, go_sem]) rfl ⟨rfl, Xi hBa'.out n⟩
noncomputable def compP (s : ByteArray) : List Int × Int :=
 if (toksP s).2 ≠ 0 then ([], (toksP s).2) else if (encP (toksP s).1).2 ≠ 0 then ([], (encP (toksP s).1).2) else mkP (encP (toksP s).1).1
theorem Good.right {l : List Tk} (h : Good l) : Right l := ⟨h.rt, h.fit, h.sm⟩
theorem encP_len {l : List Tk} (h : Right l) : (encP l).1.length ≤ 8192 := by
 unfold encP; split
 ·simp
 ·simp; omega
theorem YbR (s : ByteArray) (hs : s.size ≤ maxLen) (w : World) :
 Calls Try.prog 11 #[.string s] w fun e w' => ∃ v, e = .returned (.tuple #[v, .int .i64 (compP s).2]) ∧ Kd.R (Kd.int .u8) 5 w' w.heap.size (fun _ => True) v (compP s).1 ∧ Below w.heap.size w w' := by
 have h7 := Aside0.mk (UG s hs w)
 obtain ⟨r, hr⟩ : ∃ r, toksP s = r := ⟨_, rfl⟩
 have hg := Aside0.mk (fun (l : List S37) (h : toksP s = (l, 0)) => (YbW h).right)
 rw [hr] at h7 hg
 obtain ⟨l, c⟩ := r
 replace hr := Aside0.mk hr
 go_enter Try.func11, Try.ntmps11
 go_wp2_with fail
 refine h7.out.mono ?_
 rintro e w1 ⟨v, rfl, hR, hB⟩
 have hR1 := Aside0.mk hR
 have hB1 := Aside0.mk hB
 clear hR hB h7
 by_cases hc : c = 0
 ·subst hc
  obtain ⟨A, k, hv, hk, hC⟩ := Kd.R_reads hR1.out
  subst hv
  have hE := Aside0.mk (Ycj l (hg.out l rfl) A k w1 hC hk)
  have hlen := encP_len (hg.out l rfl)
  clear hC hR1 hg
  go_wp2_with fail
  refine hE.out.mono ?_
  rintro e w2 ⟨v2, rfl, hR2, hB2⟩
  have hB3 := Aside0.mk (hB1.out.trans (Below.mono hB2 hB1.out.size))
  have hR3 := Aside0.mk (Kd.R_lower hR2 hB1.out.size)
  obtain ⟨q, hq⟩ : ∃ q, encP l = q := ⟨_, rfl⟩
  rw [hq] at hR3 hlen ⊢
  obtain ⟨b, c⟩ := q
  replace hq := Aside0.mk hq
  clear hR2 hB2 hE
  by_cases hc : c = 0
  ·subst hc
   simp only at hlen
   obtain ⟨A2, k2, hv, hk2, hC2⟩ := Kd.R_reads hR3.out
   subst hv
   have hM := Aside0.mk (YdO b Z0 A2 k2 w2 hC2 hk2)
   clear hC2 hR3
   go_wp2_with fail
   refine hM.out.mono ?_
   rintro e w3 ⟨v3, rfl, hR4, hB4⟩
   have hB5 := Aside0.mk (hB3.out.trans (Below.mono hB4 hB3.out.size))
   have hR5 := Aside0.mk (Kd.R_lower hR4 hB3.out.size)
   clear hR4 hB4 hM
   have hcp : compP s = mkP b := by unfold compP; rw [hr.out]; simp [hq.out]
   replace hcp := Aside0.mk hcp
   rw [← hcp.out] at hR5 ⊢
   go_wp2_with fail
   exact bodyPost_ret (v := .tuple #[v3, .int .i64 (compP s).2]) Z1G rfl ⟨_, rfl, hR5.out, hB5.out⟩
  ·have h1 : (c != 0) = true := bne_iff_ne.2 hc
   have h2 : (c == 0) = false := beq_eq_false_iff_ne.2 hc
   have hcp : compP s = ([], c) := by unfold compP; rw [hr.out]; simp [hq.out, hc]
   replace hc := Aside0.mk hc
   replace hcp := Aside0.mk hcp
   go_wp2_with fail
   exact bodyPost_ret (v := .tuple #[.slice none 0 0, .int .i64 c]) Z1G rfl ⟨_, (by rw [hcp.out]), (by rw [hcp.out]; exact Kd.R_nil _ _ _ _ _), hB3.out⟩
 ·have h1 : (c != 0) = true := bne_iff_ne.2 hc
  have h2 : (c == 0) = false := beq_eq_false_iff_ne.2 hc
  have hcp : compP s = ([], c) := by unfold compP; rw [hr.out]; simp [hc]
  replace hc := Aside0.mk hc
  replace hcp := Aside0.mk hcp
  go_wp2_with fail
  exact bodyPost_ret (v := .tuple #[.slice none 0 0, .int .i64 c]) Z1G rfl ⟨_, (by rw [hcp.out]), (by rw [hcp.out]; exact Kd.R_nil _ _ _ _ _), hB1.out⟩
def stL (l : List Tk) (N kk : Nat) : List Bool := (List.range kk).foldl (fun s j => s.set (sumP l j).toNat true) (List.replicate (N + 1) false)
theorem Ybr (l : List Tk) (N kk : Nat) : stL l N (kk + 1) = (stL l N kk).set (sumP l kk).toNat true := by unfold stL; rw [List.range_succ, List.foldl_append]; rfl
theorem Ycz (l : List Tk) (N kk : Nat) : (stL l N kk).length = N + 1 := by
 induction kk with
 | zero => simp [stL]
 | succ k ih => rw [Ybr, List.length_set, ih]
theorem set_yes {s : List Bool} {i x : Nat} (h : s[x]? = some true) : (s.set i true)[x]? = some true := by
 rw [List.getElem?_set]
 split
 ·rename_i e
  subst e
  rw [if_pos (List.getElem?_eq_some_iff.1 h).1]
 ·exact h
theorem stL_at (l : List Tk) (N : Nat) {j kk : Nat} (hj : j < kk) (hb : (sumP l j).toNat < N + 1) : (stL l N kk)[(sumP l j).toNat]? = some true := by
 induction kk with
 | zero => omega
 | succ k ih =>
   rw [Ybr]
   by_cases e : j = k
   ·subst e
    rw [List.getElem?_set_self (by rw [Ycz]; exact hb)]
   ·exact set_yes (ih Z0)
theorem stL_all (l : List Tk) (N : Nat) (hN : sumP l l.length = N) {j : Nat} (hj : j ≤ l.length) : ((stL l N l.length).set N true)[(sumP l j).toNat]? = some true := by
 by_cases e : j = l.length
 ·subst e
  rw [hN, Int.toNat_natCast, List.getElem?_set_self (by rw [Ycz]; omega)]
 ·have := Vp l hj
  exact set_yes (stL_at l N Z0 Z0)
theorem info4 : (Try.prog.info? 4).map (fun i => (i.zero, i.size, i.bytes)) = some (some (.bool false), 1, 1) := by kernel_rfl
theorem comp_err {s : ByteArray} {b : List Int} {c : Int} (h : compP s = (b, c)) (hc : c ≠ 0) : b = [] ∧ ((toksP s).2 = c ∨ (toksP s).2 = 0 ∧ c = 3) := by
 unfold compP at h
 split at h
 ·rename_i h1
  injection h with h2 h3
  exact ⟨h2.symm, .inl h3⟩
 ·rename_i h1
  have h0 : (toksP s).2 = 0 := by simpa using h1
  split at h
  ·rename_i h4
   injection h with h2 h3
   refine ⟨h2.symm, .inr ⟨h0, ?_⟩⟩
   rw [← h3]
   unfold encP at h4 ⊢
   split at h4
   ·rename_i h5; rw [if_pos h5]
   ·exact absurd rfl h4
  ·unfold mkP at h
   split at h
   ·injection h with h2 h3
    exact ⟨h2.symm, .inr ⟨h0, h3.symm⟩⟩
   ·injection h with h2 h3
    exact absurd h3.symm hc
theorem comp_ok {s : ByteArray} {b : List Int} (h : compP s = (b, 0)) : ∃ l, toksP s = (l, 0) ∧ (bytesL l).length ≤ 8184 ∧ b = hdrL (8 + (bytesL l).length) (sumB (bytesL l)) ++ bytesL l := by
 unfold compP at h
 split at h
 ·rename_i h1
  injection h with h2 h3
  exact absurd h3 h1
 ·rename_i h1
  have h0 : (toksP s).2 = 0 := by simpa using h1
  refine ⟨(toksP s).1, (by rw [← h0]), ?_⟩
  split at h
  ·rename_i h4
   injection h with h2 h3
   exact absurd h3 h4
  ·rename_i h4
   have h5 : encP (toksP s).1 = (bytesL (toksP s).1, 0) := by
    unfold encP at h4 ⊢
    split
    ·rename_i h6; rw [if_pos h6] at h4; exact absurd h4 Z1
    ·rfl
   rw [h5] at h
   unfold mkP at h
   split at h
   ·injection h with h2 h3; exact absurd h3 Z1
   ·rename_i h6
    injection h with h2 h3
    exact ⟨(by simp only at h6; omega), h2.symm⟩
theorem tokB_byte {t : Tk} (hf : Fits t) : ∀ x ∈ tokB t true, 0 ≤ x ∧ x < 256 := by
 have hc : ∀ n : Int, ∀ x ∈ codeB n, 0 ≤ x ∧ x < 256 := fun n x hx => by
  unfold codeB at hx
  split at hx <;> simp at hx <;> omega
 have h2 : ∀ n : Int, ∀ x ∈ twoB n, 0 ≤ x ∧ x < 256 := fun n x hx => by
  simp [twoB] at hx; omega
 have ht : ∀ s : ByteArray, ∀ x ∈ textB s, 0 ≤ x ∧ x < 256 := fun s x hx => by
  unfold textB Xl at hx
  rcases List.mem_cons.1 hx with rfl | hx
  ·omega
  ·obtain ⟨b, _, rfl⟩ := List.mem_map.1 hx
   have := b.toNat_lt
   omega
 intro x hx
 unfold tokB at hx
 rw [if_pos rfl] at hx
 rcases List.mem_append.1 hx with hx | hx
 ·exact hc _ x hx
 ·repeat' split at hx
  all_goals first
   | exact hc _ x hx
   | exact h2 _ x hx
   | exact ht _ x hx
   | (rcases List.mem_append.1 hx with hx | hx <;> first | exact h2 _ x hx | exact ht _ x hx)
   | (cases hx)
theorem Yc0 {l : List Tk} (hf : ∀ t ∈ l, Fits t) : ∀ x ∈ bytesL l, 0 ≤ x ∧ x < 256 := fun x hx => by
 obtain ⟨t, ht, hx⟩ := List.mem_flatMap.1 hx
 exact tokB_byte (hf t ht) x hx
theorem len_le (l : List Tk) : l.length ≤ (bytesL l).length := by
 induction l with
 | nil => simp [bytesL]
 | cons t r ih => have := Ybo (t := t); unfold bytesL at *; simp only [List.flatMap_cons, List.length_append, List.length_cons]; omega
theorem off_to {l : List Tk} (hg : Good l) {N kk : Nat} (hN : sumP l l.length = N) (hL : N ≤ 8184) (hlt : kk < l.length) {F : List Bool} (hF : ∀ j : Nat, j ≤ l.length → F[(sumP l j).toNat]? = some true) (h4 : Yr l[kk].f0 = 4) :
 ∃ x : Int, 0 ≤ x ∧ x ≤ N ∧ F[x.toNat]? = some true ∧ wrap64 (wrap64 (sumP l (kk + 1) - 2) + l[kk].f3) = x := by
 obtain ⟨j, hj, he⟩ := hg.off kk _ (List.getElem?_eq_getElem hlt) h4
 have h1 := Uw l (j + 1)
 have h2 := Vp l (show j + 1 ≤ l.length by omega)
 have h3 := Uw l (kk + 1)
 have h5 := Vp l (show kk + 1 ≤ l.length by omega)
 refine ⟨sumP l (j + 1), h1.1, Z0, hF (j + 1) Z0, ?_⟩
 rw [IntWalk.wrap64_in (sumP l (kk + 1) - 2) ⟨Z0, Z0⟩, he, IntWalk.wrap64_in _ ⟨Z0, Z0⟩]
 omega
theorem cnt_le (l : List Tk) (k : Nat) : cnt (l.take k) ≤ k := by
 unfold cnt
 exact Nat.le_trans List.countP_le_length (by rw [List.length_take]; omega)
theorem cnt_next (l : List Tk) {kk : Nat} (hlt : kk < l.length) : cnt (l.take (kk + 1)) = cnt (l.take kk) + if l[kk].f0 = 182 then 1 else 0 := by
 rw [← List.take_append_getElem hlt]
 split
 ·rename_i e; exact cnt_new _ _ e
 ·rename_i e; exact cnt_snoc _ _ e
theorem wrap_kk {kk : Nat} (h : kk ≤ 100000) : wrap64 ((kk : Int) + 1) = ((kk + 1 : Nat) : Int) := by rw [IntWalk.wrap64_in _ ⟨Z0, Z0⟩]; omega
theorem wrap_sum {l : List Tk} {kk : Nat} (hlt : kk < l.length) (hN : sumP l l.length ≤ 8184) : wrap64 (sumP l kk + XH l[kk]) = sumP l (kk + 1) := by
 have h1 := Uw l (kk + 1)
 have h2 := Vp l (show kk + 1 ≤ l.length by omega)
 rw [VS l kk hlt, IntWalk.wrap64_in _ ⟨(by rw [← VS l kk hlt]; omega), (by rw [← VS l kk hlt]; omega)⟩]
theorem same_loop (l : List S37) (hl : l.length ≤ 9223372036854775807) : ∀ (f i : Nat), i + f = l.length → Ev (fun k => Yv.l0 k l l (i : Int)) true := by
 intro f
 induction f with
 | zero =>
   intro i hi
   refine Ev.step (f := fun k => Yv.l0 (k + 1) l l (i : Int)) (fun k => rfl) ?_
   simp only [Yv.l0, if_neg (show ¬ ((i : Int) < (l.length : Int)) by omega)]
   exact Ev.now _
 | succ f ih =>
   intro i hi
   refine Ev.step (f := fun k => Yv.l0 (k + 1) l l (i : Int)) (fun k => rfl) ?_
   have hw : wrap64 ((i : Int) + 1) = ((i + 1 : Nat) : Int) := by rw [IntWalk.wrap64_in _ ⟨Z0, Z0⟩]; omega
   simp only [Yv.l0, if_pos (show (i : Int) < (l.length : Int) by omega), if_pos (show (0 : Int) ≤ (i : Int) by omega), beq_self_eq_true, Bool.not_true, Bool.or_self, Bool.false_eq_true, if_false, hw]
   exact ih (i + 1) Z0
theorem same_ev (l : List S37) (hl : l.length ≤ 9223372036854775807) : Ev (fun k => Yv.f k l l) true := by
 unfold Yv.f
 simp only [if_true, ↓reduceIte]
 exact same_loop l hl l.length 0 Z0
theorem YdJ (l : List S37) (hl : l.length ≤ 9223372036854775807) (A0 A1 : Option Addr) (c0 c1 : Nat) (w : World) (hr0 : Kd.C k37 w A0 l.length l) (hc0 : l.length ≤ c0) (hr1 : Kd.C k37 w A1 l.length l) (hc1 : l.length ≤ c1) :
 Calls Try.prog 9 #[.slice A0 l.length c0, .slice A1 l.length c1] w fun e w' => e = .returned (.bool true) ∧ YZ w w' := by
 obtain ⟨k, h⟩ := (same_ev l hl).rounds
 exact Yv.calls k A0 c0 l A1 c1 l true w hr0 hc0 hr1 hc1 h
theorem fccRight_row (s : ByteArray) (w : World) (hs : s.size ≤ 140737488351232) : Calls Try.prog 5 #[.string s] w fun e w' => e = .returned (.bool true) ∧ Below w.heap.size w w' := by
 have hm : maxLen = 9223372036854775807 := rfl
 replace hs : s.size ≤ maxLen := by omega
 clear hm
 have h6 := Aside0.mk Yc5
 have h7 := Aside0.mk (UG s hs)
 have h11 := Aside0.mk (YbR s hs)
 obtain ⟨rc, hrc⟩ : ∃ r, compP s = r := ⟨_, rfl⟩
 obtain ⟨b, c⟩ := rc
 obtain ⟨rt, hrt⟩ : ∃ r, toksP s = r := ⟨_, rfl⟩
 obtain ⟨l, d⟩ := rt
 rw [hrc] at h11
 rw [hrt] at h7
 have hE : c ≠ 0 → b = [] ∧ (d = c ∨ d = 0 ∧ c = 3) := fun hc => by
  have := comp_err hrc hc
  rw [hrt] at this
  exact this
 have hO : c = 0 → d = 0 ∧ (bytesL l).length ≤ 8184 ∧ b = hdrL (8 + (bytesL l).length) (sumB (bytesL l)) ++ bytesL l ∧ Good l := fun hc => by
  subst hc
  obtain ⟨l', h1, h2, h3⟩ := comp_ok hrc
  rw [hrt] at h1
  cases h1
  exact ⟨rfl, h2, h3, YbW hrt⟩
 replace hE := Aside0.mk hE
 replace hO := Aside0.mk hO
 clear hrc hrt
 go_enter Try.func5, Try.ntmps5
 go_wp2_with fail
 refine (h6.out _).mono ?_
 rintro e w1 ⟨rfl, hB1⟩
 have hB1' := Aside0.mk hB1
 clear hB1
 go_wp2_with fail
 refine (h11.out _).mono ?_
 rintro e w2 ⟨v2, rfl, hR2, hB2⟩
 have hB2' := Aside0.mk (hB1'.out.trans (Below.mono hB2 hB1'.out.size))
 replace hR2 := Aside0.mk hR2
 clear hB2 hB1'
 go_wp2_with fail
 refine (h7.out _).mono ?_
 rintro e w3 ⟨v3, rfl, hR3, hB3⟩
 have hB3' := Aside0.mk (hB2'.out.trans (Below.mono hB3 hB2'.out.size))
 have hR23 := Kd.R_below hR2.out hB3
 obtain ⟨A2, c2, rfl, hc2, hC2⟩ := Kd.R_reads hR23
 obtain ⟨A3, c3, rfl, hc3, hC3⟩ := Kd.R_reads hR3
 clear hR2 hR23 hR3 hB3 hB2' h6 h7 h11
 by_cases hc : c = 0
 ·subst hc
  obtain ⟨hd, hL, hb, hg⟩ := hO.out rfl
  subst hd
  have hll : l.length ≤ 9223372036854775807 := hC3.2.1
  have hsum : ((bytesL l).length : Int) = sumP l l.length := by rw [JO hg.rt, Ydb l (Nat.le_refl _)]
  have hDec := Aside0.mk (fun A c W => Ycn l hg.right hL A c W)
  have hChk := Aside0.mk (fun W A c => YcX (w := W) (A := A) (c := c) (bytesL l) hL (Yc0 hg.fit))
  have hbl : b.length = (bytesL l).length + 8 := by rw [hb]; simp [hdrL]
  rw [hbl] at hc2
  subst hb
  have hC2' := Aside0.mk hC2
  replace hC3 := Aside0.mk hC3
  replace hc2 := Aside0.mk hc2
  replace hsum := Aside0.mk hsum
  replace hg := Aside0.mk hg
  have hlm := Aside0.mk (Nat.le_trans (len_le l) hL)
  rw [hbl]
  generalize bytesL l = body at hL hsum hDec hChk hC2' hc2 ⊢
  clear hE hO hC2 hbl
  go_wp2_with fail
  refine (hChk.out _ _ _ hC2'.out hc2.out).mono ?_
  rintro e w4 ⟨A4, c4, rfl, hC4, hc4, hB4⟩
  have hK4 := Aside0.mk hB4
  replace hC4 := Aside0.mk hC4
  replace hc4 := Aside0.mk hc4
  clear hB4 hC2' hChk
  go_wp2_with fail
  refine (hDec.out _ _ _ hC4.out hc4.out).mono ?_
  rintro e w5 ⟨v5, rfl, hR5, hB5⟩
  obtain ⟨A5, c5, rfl, hc5, hC5⟩ := Kd.R_reads hR5
  have hK5 := Aside0.mk (hK4.out.trans (Below.mono hB5 hK4.out.size))
  have hS := Aside0.mk (YdJ l hll A3 A5 c3 c5 w5 (Kd.C_below hC3.out hK5.out) hc3 hC5 hc5)
  clear hR5 hB5 hC5 hDec hK4
  go_wp2_with fail
  refine hS.out.mono ?_
  rintro e w6 ⟨rfl, n6, rfl⟩
  have hK6 := Aside0.mk (Xi hK5.out n6)
  clear hS hK5
  generalize w5.drewN n6 = w6 at hK6 ⊢
  go_wp2_with ((with_reducible refine Vm (N := 83) rfl ?_); refine Kd.R_make Kd.bool (w0 := w3) w3.heap.size 4 rfl rfl 45 _ _ rfl ((body.length : Int) + 1) rfl rfl Try.underlying45 (.bool false) 1 info4 rfl Z1 Z1 false (ok := fun _ => True) (okp := fun _ => False) rfl (fun _ _ => trivial) trivial Z0 (by rw [show ((body.length : Int) + 1).toNat = body.length + 1 by omega]; omega) hK6.out hK6.out.size ?_)
  intro v7 w7 hR7 hK7 hg7 ge hge1 hge2
  try rw [show ((body.length : Int) + 1).toNat = body.length + 1 by omega] at hR7
  clear hg7
  obtain ⟨ge', cap, hv7, hgl, -⟩ := Kd.R_form hR7 Z3
  rw [List.length_replicate] at hv7
  subst hv7
  have hee : ge' = ge := by simpa [Value.ownBlock] using hge1
  subst hee
  clear hge1 hge2 hK6
  replace hR7 := Aside0.mk hR7
  replace hK7 := Aside0.mk hK7
  replace hgl := Aside0.mk hgl
  go_wp2_with fail
  go_loopg [13, 14] l.length (fun gg s13 s14 wr => ∃ kk : Nat, kk ≤ l.length ∧ l.length - kk ≤ gg ∧ s13 = .int .i64 (sumP l kk) ∧ s14 = .int .i64 kk ∧ Aside0 (Below w3.heap.size w3 wr) ∧ Aside0 (Kd.R Kd.bool 4 wr w3.heap.size (fun _ => True) (.slice (some ⟨ge', 0, none⟩) (body.length + 1) cap) (stL l body.length kk)))
  case atStart => exact ⟨0, Nat.zero_le _, Z0, (by simp [sumP]), rfl, hK7, ⟨(by simpa [stL] using hR7.out)⟩⟩
  case round =>
   obtain ⟨kk, hkk, hgg, rfl, rfl, HB, HR⟩ := hrel
   have hsb := Uw l kk
   have hsm := Vp l hkk
   have hsu := hsum.out
   obtain ⟨n, hn⟩ : ∃ n : Nat, sumP l kk = n := ⟨(sumP l kk).toNat, Z0⟩
   by_cases hlt : kk < l.length
   ·have hltz : (kk : Int) < (l.length : Int) := by omega
    have hs1 := Aside0.mk (VS l kk hlt)
    have hft := Aside0.mk (hg.out.fit _ (List.getElem_mem hlt))
    have hsz := Jn l[kk]
    have hm1 := Vp l (show kk + 1 ≤ l.length by omega)
    obtain ⟨cc, hcl, hM, hcc, hfr⟩ := Kd.R_elem HR.out false (n : Int) Z0 Z0
    have q0 : wr.cell? ⟨ge', n, none⟩ = some (.bool ((stL l body.length kk).getD (n : Int).toNat false)) := by
     have : cc = [.bool ((stL l body.length kk).getD (n : Int).toNat false)] := hM
     subst this
     have := hcc 0 _ rfl
     rwa [show (n : Int).toNat * Kd.bool.sz + 0 = n by show _ * 1 + 0 = _; omega] at this
    have q1 : wr.frozen? ⟨ge', n, none⟩ = false := by
     have := hfr 0
     rwa [show (n : Int).toNat * Kd.bool.sz + 0 = n by show _ * 1 + 0 = _; omega] at this
    have HR6 := Kd.R_putn HR.out (n : Int) true
    rw [Int.toNat_natCast, show (stL l body.length kk).set n true = stL l body.length (kk + 1) by rw [Ybr, hn, Int.toNat_natCast]] at HR6
    have HB6 := HB.out.setCell (p := ⟨ge', n, none⟩) hgl.out (.bool true)
    obtain ⟨ad, e, g0, g1, g2, g3⟩ := UZ (Kd.C_below hC3.out HB6) (kk : Int) Z0 hltz
    cases e
    have hrd : Xo l (kk : Int) = l[kk] := by simp [Xo, List.getD_eq_getElem?_getD, hlt]
    rw [Int.toNat_natCast] at g0 g1 g2 g3
    rw [hrd] at g0 g1 g2 g3
    have hgk := Aside0.mk (show l.length - (kk + 1) < gk ∧ kk + 1 ≤ l.length by omega)
    have hnl : (n : Int) < (body.length : Int) + 1 := by omega
    have hw : wrap64 ((kk : Int) + 1) = ((kk + 1 : Nat) : Int) := by rw [IntWalk.wrap64_in _ ⟨Z0, Z0⟩]; omega
    have hw2 : wrap64 ((n : Int) + XH l[kk]) = sumP l (kk + 1) := by rw [hs1.out, hn, IntWalk.wrap64_in _ ⟨Z0, Z0⟩]
    rw [hn]
    replace HR6 := Aside0.mk HR6
    replace HB6 := Aside0.mk HB6
    replace hw := Aside0.mk hw
    clear hrd hM hcc hcl hfr hsb hsm hsu hsz hm1 hgg HR HB
    generalize l[kk] = t at g0 g1 g2 g3 hft hs1 hw2
    generalize (stL l body.length kk).getD (n : Int).toNat false = old at q0
    go_wp2_with fail
    refine (Yaq t hft.out _).mono ?_
    rintro e w8 ⟨rfl, hB8⟩
    have HB8 := Aside0.mk (HB6.out.trans (Below.mono hB8 HB6.out.size))
    have HR8 := Aside0.mk (Kd.R_below HR6.out hB8)
    clear hB8 HR6 HB6
    go_wp2_with fail
    go_roundg (l.length - (kk + 1))
    case measure => exact hgk.out.1
    case rel => exact ⟨kk + 1, hgk.out.2, Nat.le_refl _, (by rw [hw2]), Zy, HB8, HR8⟩
   ·have hkk2 : kk = l.length := by omega
    subst hkk2
    clear hgg hsb hsm
    have hnN : n = body.length := by omega
    subst hnN
    obtain ⟨F, hF⟩ : ∃ F, (stL l body.length l.length).set body.length true = F := ⟨_, rfl⟩
    have hFa := Aside0.mk (fun (j : Nat) (hj : j ≤ l.length) => stL_all l body.length hn hj)
    have hFl : F.length = body.length + 1 := by rw [← hF, List.length_set, Ycz]
    rw [hF] at hFa
    obtain ⟨cc, hcl, hM, hcc, hfr⟩ := Kd.R_elem HR.out false (body.length : Int) Z0 Z0
    have q0 : wr.cell? ⟨ge', body.length, none⟩ = some (.bool ((stL l body.length l.length).getD (body.length : Int).toNat false)) := by
     have : cc = [.bool ((stL l body.length l.length).getD (body.length : Int).toNat false)] := hM
     subst this
     have := hcc 0 _ rfl
     rwa [show (body.length : Int).toNat * Kd.bool.sz + 0 = body.length by show _ * 1 + 0 = _; omega] at this
    have q1 : wr.frozen? ⟨ge', body.length, none⟩ = false := by
     have := hfr 0
     rwa [show (body.length : Int).toNat * Kd.bool.sz + 0 = body.length by show _ * 1 + 0 = _; omega] at this
    have HR6 := Kd.R_putn HR.out (body.length : Int) true
    rw [Int.toNat_natCast, hF] at HR6
    have HB6 := Aside0.mk (HB.out.setCell (p := ⟨ge', body.length, none⟩) hgl.out (.bool true))
    replace HR6 := Aside0.mk HR6
    replace hFl := Aside0.mk hFl
    have hnl : (body.length : Int) < (body.length : Int) + 1 := by omega
    have hL' := Aside0.mk hL
    have hn' := Aside0.mk hn
    rw [hn]
    clear hM hcc hcl hfr hsu HR HB hF hn
    generalize (stL l body.length l.length).getD (body.length : Int).toNat false = old at q0
    go_wp2_with fail
    generalize wr.setCell ⟨ge', body.length, none⟩ (.bool true) = wx at HB6 HR6 ⊢
    go_loopg [13, 15, 16] l.length (fun gg s13 s15 s16 wz => ∃ kk : Nat, kk ≤ l.length ∧ l.length - kk ≤ gg ∧ s13 = .int .i64 (sumP l kk) ∧ s15 = .int .i64 (2048 + (cnt (l.take kk) : Int)) ∧ s16 = .int .i64 kk ∧ Aside0 (Below w3.heap.size w3 wz) ∧ Aside0 (Kd.R Kd.bool 4 wz w3.heap.size (fun _ => True) (.slice (some ⟨ge', 0, none⟩) (body.length + 1) cap) F))
    case atStart => exact ⟨0, Nat.zero_le _, Z0, (by simp [sumP]), (by simp [cnt]), rfl, HB6, HR6⟩
    case round =>
     obtain ⟨kk, hkk, hgg, rfl, rfl, rfl, HB, HR⟩ := hrel
     by_cases hlt : kk < l.length
     ·have hltz : (kk : Int) < (l.length : Int) := by omega
      have hsu := hsum.out
      have hget : l[kk]? = some l[kk] := List.getElem?_eq_getElem hlt
      have hft := hg.out.fit _ (List.getElem_mem hlt)
      have hnw := hg.out.nw kk _ hget
      have hcd := hg.out.cd kk _ hget
      have hre := hg.out.re kk _ hget
      have hcl := cnt_le l kk
      have hkn := cnt_next l hlt
      obtain ⟨ad, e, -, -, -, -⟩ := UZ (Kd.C_below hC3.out HB.out) (kk : Int) Z0 hltz
      obtain rfl := e
      have hcell : ∀ W, Below w3.heap.size w3 W → W.cell? (ad.add (kk * 4)) = some (.int .i64 l[kk].f0) ∧ W.cell? ⟨(ad.add (kk * 4)).block, (ad.add (kk * 4)).off + 1, none⟩ = some (.int .u32 l[kk].f1) ∧ W.cell? ⟨(ad.add (kk * 4)).block, (ad.add (kk * 4)).off + 2, none⟩ = some (.string l[kk].f2) ∧ W.cell? ⟨(ad.add (kk * 4)).block, (ad.add (kk * 4)).off + 3, none⟩ = some (.int .i64 l[kk].f3) := fun W hW => by
       obtain ⟨ad', e, g0, g1, g2, g3⟩ := UZ (Kd.C_below hC3.out hW) (kk : Int) Z0 hltz
       cases e
       have hrd : Xo l (kk : Int) = l[kk] := by simp [Xo, List.getD_eq_getElem?_getD, hlt]
       rw [Int.toNat_natCast] at g0 g1 g2 g3
       rw [hrd] at g0 g1 g2 g3
       exact ⟨g0, g1, g2, g3⟩
      have hgk := Aside0.mk (show l.length - (kk + 1) < gk ∧ kk + 1 ≤ l.length by omega)
      have hk9 : kk ≤ 8184 := by have := hlm.out; omega
      have hw := wrap_kk (show kk ≤ 100000 by omega)
      have hw2 := Aside0.mk (wrap_sum hlt Z0)
      obtain ⟨K, hK⟩ : ∃ K, cnt (l.take kk) = K := ⟨_, rfl⟩
      have hto := off_to hg.out (N := body.length) (kk := kk) Z0 Z0 hlt hFa.out
      rw [hK] at hnw hcd hre hkn hcl ⊢
      obtain ⟨G0, G1, G2, G3⟩ := hcell _ HB.out
      clear hgg hsu hget
      replace hto := Aside0.mk hto
      replace hnw := Aside0.mk hnw
      replace hcd := Aside0.mk hcd
      replace hre := Aside0.mk hre
      replace hkn := Aside0.mk hkn
      replace hft := Aside0.mk hft
      replace hcell := Aside0.mk hcell
      replace hw := Aside0.mk hw
      generalize l[kk] = t at G0 G1 G2 G3 hft hnw hcd hre hkn hcell hw2 hto
      go_wp2_with fail
      refine (Yaq t hft.out _).mono ?_
      rintro e w8 ⟨rfl, hB8⟩
      have HB9 := Aside0.mk (HB.out.trans (Below.mono hB8 HB.out.size))
      have HR9 := Aside0.mk (Kd.R_below HR.out hB8)
      obtain ⟨g0, g1, g2, g3⟩ := hcell.out _ HB9.out
      have v2 := hw2.out
      have f1r := hft.out.f1
      clear hB8 HR HB G0 G1 G2 G3
      have hK9 : K ≤ 8184 := by omega
      have hne17 : t.f0 ≠ 17 ∧ t.f0 ≠ 195 → (t.f0 == 17) = false ∧ (t.f0 == 195) = false := fun h => ⟨beq_eq_false_iff_ne.2 h.1, beq_eq_false_iff_ne.2 h.2⟩
      have hW0 : wrap64 t.f1 = t.f1 := IntWalk.wrap64_in _ ⟨Z0, Z0⟩
      by_cases hA : t.f0 = 17 ∨ t.f0 = 195
      ·obtain ⟨hb, hlo⟩ := hre.out hA
       have n182 : (t.f1 == 182) = false := beq_eq_false_iff_ne.2 fun e => by rw [e] at hb; exact absurd hb Z1
       have hne : ¬ t.f0 = 182 := by rcases hA with e | e <;> omega
       replace hne := Aside0.mk hne
       replace hb := Aside0.mk hb
       clear hne17
       by_cases hge : 2048 ≤ t.f1
       ·have d1 : decide (2048 ≤ t.f1) = true := decide_eq_true hge
        have d2 : decide (2048 + (K : Int) ≤ t.f1) = false := decide_eq_false (by have := hlo hge; omega)
        clear hlo hge
        rcases hA with e | e
        all_goals
         go_wp2_with fail
         refine (Yp _ _).mono ?_
         rintro e' w' ⟨rfl, rfl⟩
         rw [hb.out]
         go_wp2_with fail
         go_roundg (l.length - (kk + 1))
         case measure => exact hgk.out.1
         case rel => exact ⟨kk + 1, hgk.out.2, Nat.le_refl _, ZW, (by rw [hkn.out, if_neg hne.out, Nat.add_zero]), Zy, HB9, HR9⟩
       ·have d1 : decide (2048 ≤ t.f1) = false := decide_eq_false hge
        clear hlo hge
        rcases hA with e | e
        all_goals
         go_wp2_with fail
         refine (Yp _ _).mono ?_
         rintro e' w' ⟨rfl, rfl⟩
         rw [hb.out]
         go_wp2_with fail
         go_roundg (l.length - (kk + 1))
         case measure => exact hgk.out.1
         case rel => exact ⟨kk + 1, hgk.out.2, Nat.le_refl _, ZW, (by rw [hkn.out, if_neg hne.out, Nat.add_zero]), Zy, HB9, HR9⟩
      ·obtain ⟨a17, a195⟩ := hne17 ⟨fun h => hA (.inl h), fun h => hA (.inr h)⟩
       clear hA hne17
       by_cases h182 : t.f0 = 182
       ·have hN := hnw.out h182
        have n1 : (t.f1 != 2048 + (K : Int)) = false := bne_eq_false_iff_eq.2 hN
        have hwK : wrap64 (2048 + (K : Int) + 1) = 2048 + (K : Int) + 1 := IntWalk.wrap64_in _ ⟨Z0, Z0⟩
        have hb : Yr 182 = 6 := by decide
        replace hb := Aside0.mk hb
        replace hN := Aside0.mk hN
        go_wp2_with fail
        refine (Yp _ _).mono ?_
        rintro e' w' ⟨rfl, rfl⟩
        rw [hb.out]
        go_wp2_with fail
        go_roundg (l.length - (kk + 1))
        case measure => exact hgk.out.1
        case rel => exact ⟨kk + 1, hgk.out.2, Nat.le_refl _, ZW, congrArg (Value.int .i64) (by rw [hkn.out, if_pos h182]; omega), Zy, HB9, HR9⟩
       ·have n182 : (t.f0 == 182) = false := beq_eq_false_iff_ne.2 h182
        replace h182 := Aside0.mk h182
        by_cases h4 : Yr t.f0 = 4
        ·obtain ⟨x, x0, x1, hx, hv⟩ := hto.out h4
         have hb := VT (show Yr t.f0 ≠ 0 by omega)
         have d1 : decide (2048 ≤ t.f0) = false := decide_eq_false Z0
         have d2 : decide (x < 0) = false := decide_eq_false Z0
         have d3 : decide ((body.length : Int) < x) = false := decide_eq_false Z0
         have d4 : x < (body.length : Int) + 1 := by omega
         obtain ⟨cc, hcl2, hM, hcc, -⟩ := Kd.R_elem HR9.out false x x0 Z0
         have hcx : w8.cell? ⟨ge', x.toNat, none⟩ = some (.bool true) := by
          have : cc = [.bool (F.getD x.toNat false)] := hM
          subst this
          have := hcc 0 _ rfl
          rw [List.getD_eq_getElem?_getD, hx] at this
          rwa [show x.toNat * Kd.bool.sz + 0 = x.toNat by show _ * 1 + 0 = _; omega] at this
         replace h4 := Aside0.mk h4
         clear hb hx hM hcc hcl2
         go_wp2_with fail
         refine (Yp _ _).mono ?_
         rintro e' w' ⟨rfl, rfl⟩
         rw [h4.out]
         go_wp2_with fail
         go_roundg (l.length - (kk + 1))
         case measure => exact hgk.out.1
         case rel => exact ⟨kk + 1, hgk.out.2, Nat.le_refl _, ZW, Z1B, Zy, HB9, HR9⟩
        ·have n4 : (Yr t.f0 == 4) = false := beq_eq_false_iff_ne.2 h4
         clear h4
         by_cases hge : 2048 ≤ t.f0
         ·have d1 : decide (2048 ≤ t.f0) = true := decide_eq_true hge
          have d2 : decide (2048 + (K : Int) ≤ t.f0) = false := decide_eq_false (by have := hcd.out hge; omega)
          clear hge
          go_wp2_with fail
          refine (Yp _ _).mono ?_
          rintro e' w' ⟨rfl, rfl⟩
          go_wp2_with fail
          go_roundg (l.length - (kk + 1))
          case measure => exact hgk.out.1
          case rel => exact ⟨kk + 1, hgk.out.2, Nat.le_refl _, ZW, Z1B, Zy, HB9, HR9⟩
         ·have d1 : decide (2048 ≤ t.f0) = false := decide_eq_false hge
          clear hge
          go_wp2_with fail
          refine (Yp _ _).mono ?_
          rintro e' w' ⟨rfl, rfl⟩
          go_wp2_with fail
          go_roundg (l.length - (kk + 1))
          case measure => exact hgk.out.1
          case rel => exact ⟨kk + 1, hgk.out.2, Nat.le_refl _, ZW, Z1B, Zy, HB9, HR9⟩
     ·have hkk2 : kk = l.length := by omega
      subst hkk2
      obtain ⟨r, tl, hr, h0⟩ := hg.out.ls
      have hll2 : l.length = r.length + 1 := by rw [hr]; simp
      obtain ⟨ad, e, g0, -, -, -⟩ := UZ (Kd.C_below hC3.out HB.out) (r.length : Int) Z0 Z0
      obtain rfl := e
      have hrd : Xo l (r.length : Int) = tl := by simp [Xo, hr]
      rw [Int.toNat_natCast, hrd, h0] at g0
      have hw9 : wrap64 ((r.length : Int) + 1 - 1) = (r.length : Int) := by rw [IntWalk.wrap64_in _ ⟨Z0, Z0⟩]; omega
      have hl9 : (r.length : Int) < (r.length : Int) + 1 := by omega
      have hwf := Aside0.mk (hB3'.out.trans (Below.mono HB.out hB3'.out.size))
      rw [hll2] at hC3 hc3 ⊢
      clear hgg hr hrd
      go_wp2_with fail
      exact bodyPost_ret (v := .bool true) Z1H rfl ⟨rfl, hwf.out⟩
 ·obtain ⟨hb, hd⟩ := hE.out hc
  subst hb
  have e1 : (c != 0) = true := bne_iff_ne.2 hc
  rcases hd with hd | ⟨hd, h3⟩
  ·subst hd
   have e2 : (d == d) = true := beq_self_eq_true d
   clear hE hO hC2 hC3
   go_wp2_with fail
   exact Z2D
  ·subst hd h3
   clear hE hO hC2 hC3
   go_wp2_with fail
   exact Z2D
end Go.Proofs.Ytehmhgpogpbjiaa.Fcc
