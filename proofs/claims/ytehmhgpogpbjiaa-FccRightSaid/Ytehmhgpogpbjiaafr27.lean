import Derived.Test.Ytehmhgpogpbjiaafr26
set_option linter.unusedVariables false
set_option linter.unusedSimpArgs false
set_option maxRecDepth 100000
set_option maxHeartbeats 8000000
namespace Go.Proofs.Ytehmhgpogpbjiaa.Fcc
open Go.RowKit Go.Proofs.YtehmhgpogpbjiaaW.PrintWords Go.Proofs.YtehmhgpogpbjiaaW.PrintLast Go.Proofs.YtehmhgpogpbjiaaW.PrintMore Go.Proofs.Ytehmhgpogpbjiaa.PFccTokens
def Vg (t : Tk) (w : World) (e : Ending) (w' : World) : Prop := ∃ A n c, e = .returned (.tuple #[.slice A n c, .bool (rightP t true)]) ∧ (rightP t true = true → Kd.R (Kd.int .u8) 5 w' w.heap.size (fun _ => True) (.slice A n c) (tokB t true)) ∧ Below w.heap.size w w'
theorem bp_no {t : Tk} {w w' : World} {A : Option Addr} {n c : Nat} (hr : rightP t true = false) (hB : Below w.heap.size w w') : Vg t w (.returned (.tuple #[.slice A n c, .bool false])) w' := by
 refine ⟨A, n, c, (by rw [hr]), fun h => ?_, hB⟩
 rw [hr] at h
 cases h
theorem YaL {t : Tk} {w w' : World} {A : Option Addr} {n c : Nat} {b : List Int} {l : List S37} {v7 : Value} {x : Obj} {g : Nat} (hr : rightP t true = true) (hg : (w.alloc x).heap.size = g) (h : TW g (w.alloc x) w' (.slice A n c) v7 b l) (hb : b = tokB t true) : Vg t w (.returned (.tuple #[.slice A n c, .bool true])) w' := by
 subst hb hg
 have hB := Yc (Below.refl w.heap.size w) x
 exact ⟨_, _, _, (by rw [hr]), fun _ => Kd.R_lower h.r6 hB.size, hB.trans (h.bel.mono hB.size)⟩
theorem tw_start {w w1 : World} {b : List Int} {v : Value} (hR : Kd.R (Kd.int .u8) 5 w1 w.heap.size (fun _ => True) v b) (hB : Below w.heap.size w w1) : TW w.heap.size w w1 v (.slice none 0 0) b [] := ⟨hR, Kd.R_nil _ _ _ _ _, hB, Nat.le_refl _⟩
structure BxC (t : Tk) (g : Nat) (w : World) : Prop where
 c0 : w.cell? ⟨g, 0, none⟩ = some (.int .i64 t.f0)
 c1 : w.cell? ⟨g, 1, none⟩ = some (.int .u32 t.f1)
 c2 : w.cell? ⟨g, 2, none⟩ = some (.string t.f2)
 c3 : w.cell? ⟨g, 3, none⟩ = some (.int .i64 t.f3)
theorem XR (t : Tk) (w : World) (hc0 : 0 ≤ t.f0 ∧ t.f0 ≤ 4095) : Calls Try.prog 55 #[.int .i64 t.f0] (w.alloc (.cells #[.int .i64 t.f0, .int .u32 t.f1, .string t.f2, .int .i64 t.f3] 37)) fun e w2 => ∃ A c n g, e = .returned (.slice A n c) ∧
 Aside0 (TW g (w.alloc (.cells #[.int .i64 t.f0, .int .u32 t.f1, .string t.f2, .int .i64 t.f3] 37)) w2 (.slice A n c) (.slice none 0 0) (codeB t.f0) []) ∧ Aside0 ((w.alloc (.cells #[.int .i64 t.f0, .int .u32 t.f1, .string t.f2, .int .i64 t.f3] 37)).heap.size = g) ∧ Aside0 ((codeB t.f0).length = n) ∧ n ≤ 2 ∧
 Aside0 (∀ w1, Below g (w.alloc (.cells #[.int .i64 t.f0, .int .u32 t.f1, .string t.f2, .int .i64 t.f3] 37)) w1 → BxC t w.heap.size w1) := by
 have hnew := Xa w (.cells #[.int .i64 t.f0, .int .u32 t.f1, .string t.f2, .int .i64 t.f3] 37)
 refine (Yat t.f0 ⟨hc0.1, Z0⟩ _).mono ?_
 rintro e w2 ⟨v, rfl, hR, hB⟩
 obtain ⟨A, c, rfl⟩ := Kd.R_slice hR
 refine ⟨A, c, _, _, rfl, ⟨tw_start hR hB⟩, ⟨rfl⟩, ⟨rfl⟩, XT _, ⟨fun w1 h => ?_⟩⟩
 have hb := YQ hnew h
 exact ⟨(Ya hb 0).trans rfl, (Ya hb 1).trans rfl, (Ya hb 2).trans rfl, (Ya hb 3).trans rfl⟩
theorem Vn {c : Int} (h : YP c = true) : 0 ≤ c ∧ c ≤ 4095 := by
 unfold YP at h
 simp only [Bool.or_eq_true, Bool.and_eq_true, decide_eq_true_eq] at h
 omega
def badT (k : Int) (n b o : Bool) : Bool := (decide (k = 0 ∨ k = 3 ∨ k = 4) && !n) || (decide (k ≠ 3 ∧ k ≠ 6) && !b) || (decide (k ≠ 4) && !o)
set_option maxHeartbeats 40000000 in
theorem Yau (t : Tk) (w : World) (hc : YP t.f0 = true) {k : Int} (hk0 : Yr t.f0 = k) {n b o : Bool} (hn : (t.f1 == 0) = n) (hb : (t.f2.toList == ([] : List UInt8)) = b) (ho : (t.f3 == 0) = o) (hbad : badT k n b o = true) (hr0 : rightP t true = false) : Calls Try.prog 29 #[tv t, .bool true] w (Vg t w) := by
 have hk := Aside0.mk hk0
 have hcd := Aside0.mk hc
 have hcn := hcd
 have hr := Aside0.mk hr0
 have hB0 := Aside0.mk (Yc (Below.refl w.heap.size w) (.cells #[.int .i64 t.f0, .int .u32 t.f1, .string t.f2, .int .i64 t.f3] 37))
 have hn2 : (t.f1 != 0) = !n := by rw [← hn]; rfl
 have hb2 : (t.f2.toList != ([] : List UInt8)) = !b := by rw [← hb]; rfl
 have ho2 : (t.f3 != 0) = !o := by rw [← ho]; rfl
 have hb3 : t.f2.toList.isEmpty = b := by rw [← hb]; cases t.f2.toList <;> rfl
 have h7 := behindP_all t.f0
 rw [hk0] at h7
 clear hc hk0 hr0
 rcases h7 with rfl | rfl | rfl | rfl | rfl | rfl | rfl <;> cases n <;> cases b <;> cases o <;> first
  | (exfalso; revert hbad; decide)
  | (clear hbad
     go_enter Try.func29, Try.ntmps29
     go_wp2_with (first | ((with_reducible refine (Yp _ _).mono ?_); rintro e w1 ⟨rfl, rfl⟩; rw [hk.out]) | ((with_reducible refine (YF _ _).mono ?_); rintro e w1 ⟨rfl, rfl⟩; first | rw [hcd.out] | rw [hcn.out]))
     exact bodyPost_ret (v := .tuple #[.slice none 0 0, .bool false]) Zv rfl (bp_no hr.out hB0.out))
theorem rbytes_0 (t : Tk) (w : World) (hf : Fits t) (hc : YP t.f0 = true) (hk0 : Yr t.f0 = 0) : Calls Try.prog 29 #[tv t, .bool true] w (Vg t w) := by
 by_cases hn0 : t.f1 = 0
 rotate_left
 ·exact Z1Z
 by_cases ht : t.f2.toList = ([] : List UInt8)
 rotate_left
 ·exact Z1d
 by_cases h3 : t.f3 = 0
 rotate_left
 ·exact Z13
 have hk := Aside0.mk hk0
 have hcd := Aside0.mk hc
 have hcn := hcd
 have hc0 := Vn hc
 obtain ⟨-, hn, hsz, ho⟩ := hf
 clear hc hk0
 have hr := Aside0.mk (show rightP t true = true by unfold rightP; rw [hk.out, hcd.out]; first | (simp [hn0, ht, h3]; done) | (simp [hn0, ht, h3]; omega) | (have hq := Vn hcc; simp [hn0, ht, h3]; omega))
 have hn01 : (t.f1 == 0) = true := beq_iff_eq.mpr hn0
 have hn02 : (t.f1 != 0) = false := by simp [hn0]
 have ht1 : (t.f2.toList == ([] : List UInt8)) = true := beq_iff_eq.mpr ht
 have ht2 : (t.f2.toList != ([] : List UInt8)) = false := by simp [ht]
 have ht3 : t.f2.toList.isEmpty = true := by simp [ht]
 have ht4 : (!t.f2.toList.isEmpty) = false := by simp [ht]
 have h31 : (t.f3 == 0) = true := beq_iff_eq.mpr h3
 have h32 : (t.f3 != 0) = false := by simp [h3]
 clear hn0 ht h3
 have hB0 := Aside0.mk (Yc (Below.refl w.heap.size w) (.cells #[.int .i64 t.f0, .int .u32 t.f1, .string t.f2, .int .i64 t.f3] 37))
 go_enter Try.func29, Try.ntmps29
 go_wp2_with (first | ((with_reducible refine (Yp _ _).mono ?_); rintro e w1 ⟨rfl, rfl⟩; rw [hk.out]) | ((with_reducible refine (YF _ _).mono ?_); rintro e w1 ⟨rfl, rfl⟩; first | rw [hcd.out] | rw [hcn.out]))
 refine (XR t w hc0).mono ?_
 rintro e w2 ⟨A1, c1, n1, g, rfl, T1, hg', hn1', hcl, hnb⟩
 obtain ⟨q0, q1, q2, q3⟩ := hnb.out _ T1.out.bel
 go_wp2_with (first | ((with_reducible refine (Yp _ _).mono ?_); rintro e w1 ⟨rfl, rfl⟩; rw [hk.out]) | ((with_reducible refine (YF _ _).mono ?_); rintro e w1 ⟨rfl, rfl⟩; first | rw [hcd.out] | rw [hcn.out]))
 exact bodyPost_ret (v := .tuple #[.slice A1 n1 c1, .bool true]) Zv rfl (YaL hr.out hg'.out T1.out (by
  unfold tokB; rw [hk.out]; first | (simp [textB, List.append_assoc]; done) | (have e9 : (t.f2.size : Int) % 256 = t.f2.size := Z0; simp [textB, e9, List.append_assoc])))
theorem rbytes_1 (t : Tk) (w : World) (hf : Fits t) (hc : YP t.f0 = true) (hk0 : Yr t.f0 = 1) : Calls Try.prog 29 #[tv t, .bool true] w (Vg t w) := by
 by_cases ht : t.f2.toList = ([] : List UInt8)
 rotate_left
 ·exact Z1d
 by_cases h3 : t.f3 = 0
 rotate_left
 ·exact Z13
 have hk := Aside0.mk hk0
 have hcd := Aside0.mk hc
 have hcn := hcd
 have hc0 := Vn hc
 obtain ⟨-, hn, hsz, ho⟩ := hf
 clear hc hk0
 have hr := Aside0.mk (show rightP t true = true by unfold rightP; rw [hk.out, hcd.out]; first | (simp [ht, h3]; done) | (simp [ht, h3]; omega) | (have hq := Vn hcc; simp [ht, h3]; omega))
 have ht1 : (t.f2.toList == ([] : List UInt8)) = true := beq_iff_eq.mpr ht
 have ht2 : (t.f2.toList != ([] : List UInt8)) = false := by simp [ht]
 have ht3 : t.f2.toList.isEmpty = true := by simp [ht]
 have ht4 : (!t.f2.toList.isEmpty) = false := by simp [ht]
 have h31 : (t.f3 == 0) = true := beq_iff_eq.mpr h3
 have h32 : (t.f3 != 0) = false := by simp [h3]
 clear ht h3
 have hB0 := Aside0.mk (Yc (Below.refl w.heap.size w) (.cells #[.int .i64 t.f0, .int .u32 t.f1, .string t.f2, .int .i64 t.f3] 37))
 go_enter Try.func29, Try.ntmps29
 go_wp2_with (first | ((with_reducible refine (Yp _ _).mono ?_); rintro e w1 ⟨rfl, rfl⟩; rw [hk.out]) | ((with_reducible refine (YF _ _).mono ?_); rintro e w1 ⟨rfl, rfl⟩; first | rw [hcd.out] | rw [hcn.out]))
 refine (XR t w hc0).mono ?_
 rintro e w2 ⟨A1, c1, n1, g, rfl, T1, hg', hn1', hcl, hnb⟩
 obtain ⟨q0, q1, q2, q3⟩ := hnb.out _ T1.out.bel
 go_wp2_with (first | ((with_reducible refine (Yp _ _).mono ?_); rintro e w1 ⟨rfl, rfl⟩; rw [hk.out]) | ((with_reducible refine (YF _ _).mono ?_); rintro e w1 ⟨rfl, rfl⟩; first | rw [hcd.out] | rw [hcn.out]))
 refine (Uo (t.f1 / 65536) Z0 _).mono ?_
 rintro e wq2 ⟨v, rfl, hR, hB⟩
 have Tq := (T1.out.below hB)
 replace Tq := Aside0.mk Tq
 obtain ⟨Aq, cq, rfl, -, hCq⟩ := Kd.R_reads hR
 obtain ⟨q0, q1, q2, q3⟩ := hnb.out _ Tq.out.bel
 replace hCq := Aside0.mk hCq
 clear hR hB
 go_wp2_with (at_builtin; refine Tq.out.rows _ Aq cq rfl rfl rfl rfl hCq.out ZF Z15 ?_)
 intro v2 w12 HN
 obtain ⟨T2, ⟨A2, n2, c2, rfl⟩, -, -⟩ := HN
 replace T2 := Aside0.mk T2
 obtain ⟨q0, q1, q2, q3⟩ := hnb.out _ T2.out.bel
 go_wp2_with (first | ((with_reducible refine (Yp _ _).mono ?_); rintro e w1 ⟨rfl, rfl⟩; rw [hk.out]) | ((with_reducible refine (YF _ _).mono ?_); rintro e w1 ⟨rfl, rfl⟩; first | rw [hcd.out] | rw [hcn.out]))
 refine (Uo (t.f1 % 65536) Z0 _).mono ?_
 rintro e wq3 ⟨v, rfl, hR, hB⟩
 have Tq := (T2.out.below hB)
 replace Tq := Aside0.mk Tq
 obtain ⟨Aq, cq, rfl, -, hCq⟩ := Kd.R_reads hR
 obtain ⟨q0, q1, q2, q3⟩ := hnb.out _ Tq.out.bel
 replace hCq := Aside0.mk hCq
 clear hR hB
 go_wp2_with (at_builtin; refine Tq.out.rows _ Aq cq rfl rfl rfl rfl hCq.out ZF Z15 ?_)
 intro v3 w13 HN
 obtain ⟨T3, ⟨A3, n3, c3, rfl⟩, -, -⟩ := HN
 replace T3 := Aside0.mk T3
 obtain ⟨q0, q1, q2, q3⟩ := hnb.out _ T3.out.bel
 go_wp2_with (first | ((with_reducible refine (Yp _ _).mono ?_); rintro e w1 ⟨rfl, rfl⟩; rw [hk.out]) | ((with_reducible refine (YF _ _).mono ?_); rintro e w1 ⟨rfl, rfl⟩; first | rw [hcd.out] | rw [hcn.out]))
 exact bodyPost_ret (v := .tuple #[.slice A3 n3 c3, .bool true]) Zv rfl (YaL hr.out hg'.out T3.out (by
  unfold tokB; rw [hk.out]; first | (simp [textB, List.append_assoc]; done) | (have e9 : (t.f2.size : Int) % 256 = t.f2.size := Z0; simp [textB, e9, List.append_assoc])))
theorem rbytes_2 (t : Tk) (w : World) (hf : Fits t) (hc : YP t.f0 = true) (hk0 : Yr t.f0 = 2) : Calls Try.prog 29 #[tv t, .bool true] w (Vg t w) := by
 by_cases ht : t.f2.toList = ([] : List UInt8)
 rotate_left
 ·exact Z1d
 by_cases h3 : t.f3 = 0
 rotate_left
 ·exact Z13
 have hk := Aside0.mk hk0
 have hcd := Aside0.mk hc
 have hcn := hcd
 have hc0 := Vn hc
 obtain ⟨-, hn, hsz, ho⟩ := hf
 clear hc hk0
 by_cases hcond : YP t.f1 = true
 rotate_left
 ·have hr := Aside0.mk (show rightP t true = false by unfold rightP; rw [hk.out, hcd.out]; first | (simp [ht, h3, hcond]; done) | (simp [ht, h3, hcond]; omega))
  have hcc := hcond
  have ht1 : (t.f2.toList == ([] : List UInt8)) = true := beq_iff_eq.mpr ht
  have ht2 : (t.f2.toList != ([] : List UInt8)) = false := by simp [ht]
  have ht3 : t.f2.toList.isEmpty = true := by simp [ht]
  have ht4 : (!t.f2.toList.isEmpty) = false := by simp [ht]
  have h31 : (t.f3 == 0) = true := beq_iff_eq.mpr h3
  have h32 : (t.f3 != 0) = false := by simp [h3]
  have hcx : YP t.f1 = false := by simpa using hcc
  have hcn := Aside0.mk hcx
  clear hcond ht h3 hcc
  have hB0 := Aside0.mk (Yc (Below.refl w.heap.size w) (.cells #[.int .i64 t.f0, .int .u32 t.f1, .string t.f2, .int .i64 t.f3] 37))
  go_enter Try.func29, Try.ntmps29
  go_wp2_with (first | ((with_reducible refine (Yp _ _).mono ?_); rintro e w1 ⟨rfl, rfl⟩; rw [hk.out]) | ((with_reducible refine (YF _ _).mono ?_); rintro e w1 ⟨rfl, rfl⟩; first | rw [hcd.out] | rw [hcn.out]))
  refine (XR t w hc0).mono ?_
  rintro e w2 ⟨A1, c1, n1, g, rfl, T1, hg', hn1', hcl, hnb⟩
  obtain ⟨q0, q1, q2, q3⟩ := hnb.out _ T1.out.bel
  go_wp2_with (first | ((with_reducible refine (Yp _ _).mono ?_); rintro e w1 ⟨rfl, rfl⟩; rw [hk.out]) | ((with_reducible refine (YF _ _).mono ?_); rintro e w1 ⟨rfl, rfl⟩; first | rw [hcd.out] | rw [hcn.out]))
  exact Z1x
 have hcc := hcond
 have hr := Aside0.mk (show rightP t true = true by unfold rightP; rw [hk.out, hcd.out]; first | (simp [ht, h3, hcc]; done) | (simp [ht, h3, hcc]; omega) | (have hq := Vn hcc; simp [ht, h3, hcc]; omega))
 have ht1 : (t.f2.toList == ([] : List UInt8)) = true := beq_iff_eq.mpr ht
 have ht2 : (t.f2.toList != ([] : List UInt8)) = false := by simp [ht]
 have ht3 : t.f2.toList.isEmpty = true := by simp [ht]
 have ht4 : (!t.f2.toList.isEmpty) = false := by simp [ht]
 have h31 : (t.f3 == 0) = true := beq_iff_eq.mpr h3
 have h32 : (t.f3 != 0) = false := by simp [h3]
 replace hcn := Aside0.mk hcc
 clear ht h3 hcc
 have hB0 := Aside0.mk (Yc (Below.refl w.heap.size w) (.cells #[.int .i64 t.f0, .int .u32 t.f1, .string t.f2, .int .i64 t.f3] 37))
 go_enter Try.func29, Try.ntmps29
 go_wp2_with (first | ((with_reducible refine (Yp _ _).mono ?_); rintro e w1 ⟨rfl, rfl⟩; rw [hk.out]) | ((with_reducible refine (YF _ _).mono ?_); rintro e w1 ⟨rfl, rfl⟩; first | rw [hcd.out] | rw [hcn.out]))
 refine (XR t w hc0).mono ?_
 rintro e w2 ⟨A1, c1, n1, g, rfl, T1, hg', hn1', hcl, hnb⟩
 obtain ⟨q0, q1, q2, q3⟩ := hnb.out _ T1.out.bel
 go_wp2_with (first | ((with_reducible refine (Yp _ _).mono ?_); rintro e w1 ⟨rfl, rfl⟩; rw [hk.out]) | ((with_reducible refine (YF _ _).mono ?_); rintro e w1 ⟨rfl, rfl⟩; first | rw [hcd.out] | rw [hcn.out]))
 refine (Yat t.f1 hn _).mono ?_
 rintro e wq2 ⟨v, rfl, hR, hB⟩
 have Tq := (T1.out.below hB)
 replace Tq := Aside0.mk Tq
 obtain ⟨Aq, cq, rfl, -, hCq⟩ := Kd.R_reads hR
 obtain ⟨q0, q1, q2, q3⟩ := hnb.out _ Tq.out.bel
 replace hCq := Aside0.mk hCq
 clear hR hB
 go_wp2_with (at_builtin; refine Tq.out.rows _ Aq cq rfl rfl rfl rfl hCq.out ZF Z15 ?_)
 intro v2 w12 HN
 obtain ⟨T2, ⟨A2, n2, c2, rfl⟩, -, -⟩ := HN
 replace T2 := Aside0.mk T2
 obtain ⟨q0, q1, q2, q3⟩ := hnb.out _ T2.out.bel
 go_wp2_with (first | ((with_reducible refine (Yp _ _).mono ?_); rintro e w1 ⟨rfl, rfl⟩; rw [hk.out]) | ((with_reducible refine (YF _ _).mono ?_); rintro e w1 ⟨rfl, rfl⟩; first | rw [hcd.out] | rw [hcn.out]))
 exact bodyPost_ret (v := .tuple #[.slice A2 n2 c2, .bool true]) Zv rfl (YaL hr.out hg'.out T2.out (by
  unfold tokB; rw [hk.out]; first | (simp [textB, List.append_assoc]; done) | (have e9 : (t.f2.size : Int) % 256 = t.f2.size := Z0; simp [textB, e9, List.append_assoc])))
theorem rbytes_3 (t : Tk) (w : World) (hf : Fits t) (hc : YP t.f0 = true) (hk0 : Yr t.f0 = 3) : Calls Try.prog 29 #[tv t, .bool true] w (Vg t w) := by
 by_cases hn0 : t.f1 = 0
 rotate_left
 ·exact Z1Z
 by_cases h3 : t.f3 = 0
 rotate_left
 ·exact Z13
 have hk := Aside0.mk hk0
 have hcd := Aside0.mk hc
 have hcn := hcd
 have hc0 := Vn hc
 obtain ⟨-, hn, hsz, ho⟩ := hf
 clear hc hk0
 by_cases hcond : t.f2.size ≤ 255
 rotate_left
 ·have hr := Aside0.mk (show rightP t true = false by unfold rightP; rw [hk.out, hcd.out]; first | (simp [hn0, h3, hcond]; done) | (simp [hn0, h3, hcond]; omega))
  have hl := hcond
  have hn01 : (t.f1 == 0) = true := beq_iff_eq.mpr hn0
  have hn02 : (t.f1 != 0) = false := by simp [hn0]
  have h31 : (t.f3 == 0) = true := beq_iff_eq.mpr h3
  have h32 : (t.f3 != 0) = false := by simp [h3]
  have hl1 : decide (255 < t.f2.size) = true := by simp; omega
  have hl2 : ((255 : Int) < (t.f2.size : Int)) = True := eq_true Z0
  clear hcond hn0 h3
  have hB0 := Aside0.mk (Yc (Below.refl w.heap.size w) (.cells #[.int .i64 t.f0, .int .u32 t.f1, .string t.f2, .int .i64 t.f3] 37))
  go_enter Try.func29, Try.ntmps29
  go_wp2_with (first | ((with_reducible refine (Yp _ _).mono ?_); rintro e w1 ⟨rfl, rfl⟩; rw [hk.out]) | ((with_reducible refine (YF _ _).mono ?_); rintro e w1 ⟨rfl, rfl⟩; first | rw [hcd.out] | rw [hcn.out]))
  refine (XR t w hc0).mono ?_
  rintro e w2 ⟨A1, c1, n1, g, rfl, T1, hg', hn1', hcl, hnb⟩
  obtain ⟨q0, q1, q2, q3⟩ := hnb.out _ T1.out.bel
  go_wp2_with (first | ((with_reducible refine (Yp _ _).mono ?_); rintro e w1 ⟨rfl, rfl⟩; rw [hk.out]) | ((with_reducible refine (YF _ _).mono ?_); rintro e w1 ⟨rfl, rfl⟩; first | rw [hcd.out] | rw [hcn.out]))
  exact Z1x
 have hl := hcond
 have hr := Aside0.mk (show rightP t true = true by unfold rightP; rw [hk.out, hcd.out]; first | (simp [hn0, h3, hl]; done) | (simp [hn0, h3, hl]; omega) | (have hq := Vn hcc; simp [hn0, h3, hl]; omega))
 have hn01 : (t.f1 == 0) = true := beq_iff_eq.mpr hn0
 have hn02 : (t.f1 != 0) = false := by simp [hn0]
 have h31 : (t.f3 == 0) = true := beq_iff_eq.mpr h3
 have h32 : (t.f3 != 0) = false := by simp [h3]
 have hl1 : decide (255 < t.f2.size) = false := by simp; omega
 have hl2 : ((255 : Int) < (t.f2.size : Int)) = False := eq_false Z0
 clear hn0 h3
 have hB0 := Aside0.mk (Yc (Below.refl w.heap.size w) (.cells #[.int .i64 t.f0, .int .u32 t.f1, .string t.f2, .int .i64 t.f3] 37))
 go_enter Try.func29, Try.ntmps29
 go_wp2_with (first | ((with_reducible refine (Yp _ _).mono ?_); rintro e w1 ⟨rfl, rfl⟩; rw [hk.out]) | ((with_reducible refine (YF _ _).mono ?_); rintro e w1 ⟨rfl, rfl⟩; first | rw [hcd.out] | rw [hcn.out]))
 refine (XR t w hc0).mono ?_
 rintro e w2 ⟨A1, c1, n1, g, rfl, T1, hg', hn1', hcl, hnb⟩
 obtain ⟨q0, q1, q2, q3⟩ := hnb.out _ T1.out.bel
 go_wp2_with (at_builtin; refine T1.out.byte _ rfl rfl rfl rfl ZF ?_)
 intro v2 w12 HN
 obtain ⟨T2, ⟨A2, n2, c2, rfl⟩, -, -⟩ := HN
 replace T2 := Aside0.mk T2
 obtain ⟨q0, q1, q2, q3⟩ := hnb.out _ T2.out.bel
 go_wp2_with (at_builtin; refine T2.out.str rfl rfl rfl t.f2 rfl ZF Z0 ?_)
 intro v3 w13 HN
 obtain ⟨T3, ⟨A3, n3, c3, rfl⟩, -, -⟩ := HN
 replace T3 := Aside0.mk T3
 obtain ⟨q0, q1, q2, q3⟩ := hnb.out _ T3.out.bel
 go_wp2_with (first | ((with_reducible refine (Yp _ _).mono ?_); rintro e w1 ⟨rfl, rfl⟩; rw [hk.out]) | ((with_reducible refine (YF _ _).mono ?_); rintro e w1 ⟨rfl, rfl⟩; first | rw [hcd.out] | rw [hcn.out]))
 exact bodyPost_ret (v := .tuple #[.slice A3 n3 c3, .bool true]) Zv rfl (YaL hr.out hg'.out T3.out (by
  unfold tokB; rw [hk.out]; first | (simp [textB, List.append_assoc]; done) | (have e9 : (t.f2.size : Int) % 256 = t.f2.size := Z0; simp [textB, e9, List.append_assoc])))
theorem rbytes_4 (t : Tk) (w : World) (hf : Fits t) (hc : YP t.f0 = true) (hk0 : Yr t.f0 = 4) : Calls Try.prog 29 #[tv t, .bool true] w (Vg t w) := by
 by_cases hn0 : t.f1 = 0
 rotate_left
 ·exact Z1Z
 by_cases ht : t.f2.toList = ([] : List UInt8)
 rotate_left
 ·exact Z1d
 have hk := Aside0.mk hk0
 have hcd := Aside0.mk hc
 have hcn := hcd
 have hc0 := Vn hc
 obtain ⟨-, hn, hsz, ho⟩ := hf
 clear hc hk0
 have hr : rightP t true = (decide (-32768 ≤ t.f3) && decide (t.f3 ≤ 32767)) := by
  unfold rightP; rw [hk.out, hcd.out]; simp [hn0, ht]
  by_cases h1 : -32768 ≤ t.f3 <;> by_cases h2 : t.f3 ≤ 32767 <;> simp [h1, h2] <;> omega
 replace hr := Aside0.mk hr
 have e1 : IntKind.i64.wrap (t.f3 + 65536) = t.f3 + 65536 := IntWalk.i64_in _ Z0
 have e2 : wrap64 (t.f3 + 65536) = t.f3 + 65536 := IntWalk.wrap64_in _ ⟨Z0, Z0⟩
 have hn01 : (t.f1 == 0) = true := beq_iff_eq.mpr hn0
 have hn02 : (t.f1 != 0) = false := by simp [hn0]
 have ht1 : (t.f2.toList == ([] : List UInt8)) = true := beq_iff_eq.mpr ht
 have ht2 : (t.f2.toList != ([] : List UInt8)) = false := by simp [ht]
 have ht3 : t.f2.toList.isEmpty = true := by simp [ht]
 have ht4 : (!t.f2.toList.isEmpty) = false := by simp [ht]
 clear hn0 ht
 rcases (by omega : (-32768 ≤ t.f3 ∧ t.f3 ≤ 32767) ∨ (-32768 ≤ t.f3 ∧ ¬ t.f3 ≤ 32767) ∨ ¬ -32768 ≤ t.f3) with ⟨ha, hb⟩ | ⟨ha, hb⟩ | ha
 ·have d1 : decide (-32768 ≤ t.f3) = true := by simp; omega
  have d3 : (-32768 ≤ t.f3) = True := eq_true Z0
  have d2 : decide (t.f3 ≤ 32767) = true := by simp; omega
  have d4 : (t.f3 ≤ 32767) = True := eq_true Z0
  have hrr := Aside0.mk (show rightP t true = true by rw [hr.out]; simp [d3, d4])
  have hrg := Aside0.mk (show 0 ≤ t.f3 + 65536 ∧ t.f3 + 65536 < 4294967296 by clear e1 e2; omega)
  have htw := Aside0.mk (show twoB (t.f3 + 65536) = twoB t.f3 by unfold twoB; congr 1; omega; congr 1; omega)
  clear ha hb
  have hB0 := Aside0.mk (Yc (Below.refl w.heap.size w) (.cells #[.int .i64 t.f0, .int .u32 t.f1, .string t.f2, .int .i64 t.f3] 37))
  go_enter Try.func29, Try.ntmps29
  go_wp2_with (first | ((with_reducible refine (Yp _ _).mono ?_); rintro e w1 ⟨rfl, rfl⟩; rw [hk.out]) | ((with_reducible refine (YF _ _).mono ?_); rintro e w1 ⟨rfl, rfl⟩; first | rw [hcd.out] | rw [hcn.out]))
  refine (XR t w hc0).mono ?_
  rintro e w2 ⟨A1, c1, n1, g, rfl, T1, hg', hn1', hcl, hnb⟩
  obtain ⟨q0, q1, q2, q3⟩ := hnb.out _ T1.out.bel
  go_wp2_with (first | ((with_reducible refine (Yp _ _).mono ?_); rintro e w1 ⟨rfl, rfl⟩; rw [hk.out]) | ((with_reducible refine (YF _ _).mono ?_); rintro e w1 ⟨rfl, rfl⟩; first | rw [hcd.out] | rw [hcn.out]))
  have q3' : w2.cell? ⟨w.heap.size, 3, none⟩ = some (.int .i64 t.f3) := q3
  have hBd : Below w2.heap.size w2 w2.drew := YY (Below.refl _ _)
  have T2 := T1.out.below hBd
  generalize hgb : w.heap.size = gb at *
  refine Uk (ds := []) (S := fun w' => w'.cell? ⟨gb, 3, none⟩ = some (.int .i64 t.f3)) Z2 rfl rfl q3' (fun tb hS => ?_)
  generalize w2.drew = wd at T2 hS ⊢
  replace T2 := Aside0.mk T2
  clear q0 q1 q2 q3 q3' hBd T1
  refine seg_ [(0, 105), (1, 106), (2, 107), (3, 108), (6, 111), (7, 112), (8, 113)] tb hS Z2 (fun _ _ _ _ h => h) (a' := ?_) ?_ ?_
  rotate_left
  ·repeat (first | exact Seg.nil | (refine Seg.on (v := ?_) (a1 := ?_) rfl rfl Z7 ?_ ?_ ?_; rotate_left 2; (rintro w' hS; go_simp; with_reducible rfl); (simp only [Act.put, List.setIfInBounds_toArray, List.set_cons_zero, List.set_cons_succ, YH, YJ]; rfl)) | (refine Seg.off (a1 := ?_) rfl rfl Z7 ?_ ?_; rotate_left; (simp only [Act.put, List.setIfInBounds_toArray, List.set_cons_zero, List.set_cons_succ, YH, YJ]; rfl)))
  refine eff_ 4 tb rfl Z2 ?_
  go_wp2_with fail
  refine (Uo (t.f3 + 65536) hrg.out _).mono ?_
  rintro e w3 ⟨v, rfl, hR, hB⟩
  have hl2 := Aside0.mk (show (twoB (t.f3 + 65536)).length = 2 from rfl)
  obtain ⟨Aq, cq, rfl, -, hCq⟩ := Kd.R_reads hR
  have T3 := Aside0.mk (T2.out.below hB)
  replace hCq := Aside0.mk hCq
  have q3 := (hnb.out _ T3.out.bel).c3
  clear hR hB T2
  go_wp2_with fail
  refine ql_ ⟨q3, fun hS => ?_⟩
  refine eff_ 5 tb rfl Z2 ?_
  refine T3.out.rows _ Aq cq rfl rfl rfl rfl hCq.out (by rw [hn1'.out]; omega) (by rw [hl2.out]; decide) ?_
  intro v4 w4 HN
  obtain ⟨T4, ⟨A4, n4, c4, rfl⟩, -, -⟩ := HN
  replace T4 := Aside0.mk T4
  have q4 := (hnb.out _ T4.out.bel).c3
  refine ql_ ⟨q4, fun hS => ?_⟩
  refine seg_ [(9, 114), (10, 115), (11, 116), (12, 117), (13, 118), (14, 4), (15, 5)] tb hS Z2 (fun _ _ _ _ h => h) (a' := ?_) ?_ ?_
  rotate_left
  ·repeat (first | exact Seg.nil | (refine Seg.on (v := ?_) (a1 := ?_) rfl rfl Z7 ?_ ?_ ?_; rotate_left 2; (rintro w' hS; go_simp; with_reducible rfl); (simp only [Act.put, List.setIfInBounds_toArray, List.set_cons_zero, List.set_cons_succ, YH, YJ]; rfl)) | (refine Seg.off (a1 := ?_) rfl rfl Z7 ?_ ?_; rotate_left; (simp only [Act.put, List.setIfInBounds_toArray, List.set_cons_zero, List.set_cons_succ, YH, YJ]; rfl)))
  refine end_ tb Z2 ?_
  go_wp2_with fail
  exact bodyPost_ret (v := .tuple #[.slice A4 n4 c4, .bool true]) Zv rfl (by subst hgb; exact YaL hrr.out hg'.out T4.out (by unfold tokB; rw [hk.out, htw.out]; simp))
 ·have d1 : decide (-32768 ≤ t.f3) = true := by simp; omega
  have d3 : (-32768 ≤ t.f3) = True := eq_true Z0
  have d2 : decide (t.f3 ≤ 32767) = false := by simp; omega
  have d4 : (t.f3 ≤ 32767) = False := eq_false Z0
  have hrr := Aside0.mk (show rightP t true = false by rw [hr.out]; simp [d3, d4])
  clear ha hb
  have hB0 := Aside0.mk (Yc (Below.refl w.heap.size w) (.cells #[.int .i64 t.f0, .int .u32 t.f1, .string t.f2, .int .i64 t.f3] 37))
  go_enter Try.func29, Try.ntmps29
  go_wp2_with (first | ((with_reducible refine (Yp _ _).mono ?_); rintro e w1 ⟨rfl, rfl⟩; rw [hk.out]) | ((with_reducible refine (YF _ _).mono ?_); rintro e w1 ⟨rfl, rfl⟩; first | rw [hcd.out] | rw [hcn.out]))
  refine (XR t w hc0).mono ?_
  rintro e w2 ⟨A1, c1, n1, g, rfl, T1, hg', hn1', hcl, hnb⟩
  obtain ⟨q0, q1, q2, q3⟩ := hnb.out _ T1.out.bel
  go_wp2_with (first | ((with_reducible refine (Yp _ _).mono ?_); rintro e w1 ⟨rfl, rfl⟩; rw [hk.out]) | ((with_reducible refine (YF _ _).mono ?_); rintro e w1 ⟨rfl, rfl⟩; first | rw [hcd.out] | rw [hcn.out]))
  have q3' : w2.cell? ⟨w.heap.size, 3, none⟩ = some (.int .i64 t.f3) := q3
  have hBd : Below w2.heap.size w2 w2.drew := YY (Below.refl _ _)
  have T2 := T1.out.below hBd
  generalize hgb : w.heap.size = gb at *
  refine Uk (ds := []) (S := fun w' => w'.cell? ⟨gb, 3, none⟩ = some (.int .i64 t.f3)) Z2 rfl rfl q3' (fun tb hS => ?_)
  generalize w2.drew = wd at T2 hS ⊢
  replace T2 := Aside0.mk T2
  clear q0 q1 q2 q3 q3' hBd T1
  refine seg_ [(0, 105), (1, 106), (2, 107), (3, 108), (6, 111), (7, 112), (8, 113)] tb hS Z2 (fun _ _ _ _ h => h) (a' := ?_) ?_ ?_
  rotate_left
  ·repeat (first | exact Seg.nil | (refine Seg.on (v := ?_) (a1 := ?_) rfl rfl Z7 ?_ ?_ ?_; rotate_left 2; (rintro w' hS; go_simp; with_reducible rfl); (simp only [Act.put, List.setIfInBounds_toArray, List.set_cons_zero, List.set_cons_succ, YH, YJ]; rfl)) | (refine Seg.off (a1 := ?_) rfl rfl Z7 ?_ ?_; rotate_left; (simp only [Act.put, List.setIfInBounds_toArray, List.set_cons_zero, List.set_cons_succ, YH, YJ]; rfl)))
  refine eff_ 4 tb rfl Z2 ?_
  go_wp2_with fail
  refine (Ydg (t.f3 + 65536) _).mono ?_
  rintro e w3 ⟨l2, hl2, v, rfl, hR, hB⟩
  replace hl2 := Aside0.mk hl2
  obtain ⟨Aq, cq, rfl, -, hCq⟩ := Kd.R_reads hR
  have T3 := Aside0.mk (T2.out.below hB)
  replace hCq := Aside0.mk hCq
  have q3 := (hnb.out _ T3.out.bel).c3
  clear hR hB T2
  go_wp2_with fail
  refine ql_ ⟨q3, fun hS => ?_⟩
  refine eff_ 5 tb rfl Z2 ?_
  refine T3.out.rows _ Aq cq rfl rfl rfl rfl hCq.out (by rw [hn1'.out]; omega) (by rw [hl2.out]; decide) ?_
  intro v4 w4 HN
  obtain ⟨T4, ⟨A4, n4, c4, rfl⟩, -, -⟩ := HN
  replace T4 := Aside0.mk T4
  have q4 := (hnb.out _ T4.out.bel).c3
  refine ql_ ⟨q4, fun hS => ?_⟩
  refine seg_ [(9, 114), (10, 115), (11, 116), (12, 117), (13, 118), (14, 4), (15, 5)] tb hS Z2 (fun _ _ _ _ h => h) (a' := ?_) ?_ ?_
  rotate_left
  ·repeat (first | exact Seg.nil | (refine Seg.on (v := ?_) (a1 := ?_) rfl rfl Z7 ?_ ?_ ?_; rotate_left 2; (rintro w' hS; go_simp; with_reducible rfl); (simp only [Act.put, List.setIfInBounds_toArray, List.set_cons_zero, List.set_cons_succ, YH, YJ]; rfl)) | (refine Seg.off (a1 := ?_) rfl rfl Z7 ?_ ?_; rotate_left; (simp only [Act.put, List.setIfInBounds_toArray, List.set_cons_zero, List.set_cons_succ, YH, YJ]; rfl)))
  refine end_ tb Z2 ?_
  go_wp2_with fail
  exact Z2B
 ·have d1 : decide (-32768 ≤ t.f3) = false := by simp; omega
  have d3 : (-32768 ≤ t.f3) = False := eq_false Z0
  have hrr := Aside0.mk (show rightP t true = false by rw [hr.out]; simp [d3])
  clear ha
  have hB0 := Aside0.mk (Yc (Below.refl w.heap.size w) (.cells #[.int .i64 t.f0, .int .u32 t.f1, .string t.f2, .int .i64 t.f3] 37))
  go_enter Try.func29, Try.ntmps29
  go_wp2_with (first | ((with_reducible refine (Yp _ _).mono ?_); rintro e w1 ⟨rfl, rfl⟩; rw [hk.out]) | ((with_reducible refine (YF _ _).mono ?_); rintro e w1 ⟨rfl, rfl⟩; first | rw [hcd.out] | rw [hcn.out]))
  refine (XR t w hc0).mono ?_
  rintro e w2 ⟨A1, c1, n1, g, rfl, T1, hg', hn1', hcl, hnb⟩
  obtain ⟨q0, q1, q2, q3⟩ := hnb.out _ T1.out.bel
  go_wp2_with (first | ((with_reducible refine (Yp _ _).mono ?_); rintro e w1 ⟨rfl, rfl⟩; rw [hk.out]) | ((with_reducible refine (YF _ _).mono ?_); rintro e w1 ⟨rfl, rfl⟩; first | rw [hcd.out] | rw [hcn.out]))
  have q3' : w2.cell? ⟨w.heap.size, 3, none⟩ = some (.int .i64 t.f3) := q3
  have hBd : Below w2.heap.size w2 w2.drew := YY (Below.refl _ _)
  have T2 := T1.out.below hBd
  generalize hgb : w.heap.size = gb at *
  refine Uk (ds := []) (S := fun w' => w'.cell? ⟨gb, 3, none⟩ = some (.int .i64 t.f3)) Z2 rfl rfl q3' (fun tb hS => ?_)
  generalize w2.drew = wd at T2 hS ⊢
  replace T2 := Aside0.mk T2
  clear q0 q1 q2 q3 q3' hBd T1
  refine seg_ [(0, 105), (1, 106), (2, 107), (3, 108), (6, 111), (7, 112), (8, 113)] tb hS Z2 (fun _ _ _ _ h => h) (a' := ?_) ?_ ?_
  rotate_left
  ·repeat (first | exact Seg.nil | (refine Seg.on (v := ?_) (a1 := ?_) rfl rfl Z7 ?_ ?_ ?_; rotate_left 2; (rintro w' hS; go_simp; with_reducible rfl); (simp only [Act.put, List.setIfInBounds_toArray, List.set_cons_zero, List.set_cons_succ, YH, YJ]; rfl)) | (refine Seg.off (a1 := ?_) rfl rfl Z7 ?_ ?_; rotate_left; (simp only [Act.put, List.setIfInBounds_toArray, List.set_cons_zero, List.set_cons_succ, YH, YJ]; rfl)))
  refine eff_ 4 tb rfl Z2 ?_
  go_wp2_with fail
  refine (Ydg (t.f3 + 65536) _).mono ?_
  rintro e w3 ⟨l2, hl2, v, rfl, hR, hB⟩
  replace hl2 := Aside0.mk hl2
  obtain ⟨Aq, cq, rfl, -, hCq⟩ := Kd.R_reads hR
  have T3 := Aside0.mk (T2.out.below hB)
  replace hCq := Aside0.mk hCq
  have q3 := (hnb.out _ T3.out.bel).c3
  clear hR hB T2
  go_wp2_with fail
  refine ql_ ⟨q3, fun hS => ?_⟩
  refine eff_ 5 tb rfl Z2 ?_
  refine T3.out.rows _ Aq cq rfl rfl rfl rfl hCq.out (by rw [hn1'.out]; omega) (by rw [hl2.out]; decide) ?_
  intro v4 w4 HN
  obtain ⟨T4, ⟨A4, n4, c4, rfl⟩, -, -⟩ := HN
  replace T4 := Aside0.mk T4
  have q4 := (hnb.out _ T4.out.bel).c3
  refine ql_ ⟨q4, fun hS => ?_⟩
  refine seg_ [(9, 114), (10, 115), (11, 116), (12, 117), (13, 118), (14, 4), (15, 5)] tb hS Z2 (fun _ _ _ _ h => h) (a' := ?_) ?_ ?_
  rotate_left
  ·repeat (first | exact Seg.nil | (refine Seg.on (v := ?_) (a1 := ?_) rfl rfl Z7 ?_ ?_ ?_; rotate_left 2; (rintro w' hS; go_simp; with_reducible rfl); (simp only [Act.put, List.setIfInBounds_toArray, List.set_cons_zero, List.set_cons_succ, YH, YJ]; rfl)) | (refine Seg.off (a1 := ?_) rfl rfl Z7 ?_ ?_; rotate_left; (simp only [Act.put, List.setIfInBounds_toArray, List.set_cons_zero, List.set_cons_succ, YH, YJ]; rfl)))
  refine end_ tb Z2 ?_
  go_wp2_with fail
  exact Z2B
theorem rbytes_5 (t : Tk) (w : World) (hf : Fits t) (hc : YP t.f0 = true) (hk0 : Yr t.f0 = 5) : Calls Try.prog 29 #[tv t, .bool true] w (Vg t w) := by
 by_cases ht : t.f2.toList = ([] : List UInt8)
 rotate_left
 ·exact Z1d
 by_cases h3 : t.f3 = 0
 rotate_left
 ·exact Z13
 have hk := Aside0.mk hk0
 have hcd := Aside0.mk hc
 have hcn := hcd
 have hc0 := Vn hc
 obtain ⟨-, hn, hsz, ho⟩ := hf
 clear hc hk0
 by_cases hcond : 2048 ≤ t.f1 ∧ t.f1 ≤ 4095 ∧ t.f2.size ≤ 31
 rotate_left
 ·have hr := Aside0.mk (show rightP t true = false by unfold rightP; rw [hk.out, hcd.out]; simp [ht, h3]; omega)
  have ht1 : (t.f2.toList == ([] : List UInt8)) = true := beq_iff_eq.mpr ht
  have ht2 : (t.f2.toList != ([] : List UInt8)) = false := by simp [ht]
  have ht3 : t.f2.toList.isEmpty = true := by simp [ht]
  have ht4 : (!t.f2.toList.isEmpty) = false := by simp [ht]
  have h31 : (t.f3 == 0) = true := beq_iff_eq.mpr h3
  have h32 : (t.f3 != 0) = false := by simp [h3]
  clear ht h3
  rcases (by omega : t.f1 < 2048 ∨ (2048 ≤ t.f1 ∧ 4095 < t.f1) ∨ (2048 ≤ t.f1 ∧ t.f1 ≤ 4095 ∧ 31 < t.f2.size)) with h1 | ⟨h1, h2⟩ | ⟨h1, h2, h3⟩
  all_goals
   have hs1 : ((31 : Int) < (t.f2.size : Int)) = (31 < t.f2.size) := propext Z0
   clear hcond
   have hB0 := Aside0.mk (Yc (Below.refl w.heap.size w) (.cells #[.int .i64 t.f0, .int .u32 t.f1, .string t.f2, .int .i64 t.f3] 37))
   go_enter Try.func29, Try.ntmps29
   go_wp2_with (first | ((with_reducible refine (Yp _ _).mono ?_); rintro e w1 ⟨rfl, rfl⟩; rw [hk.out]) | ((with_reducible refine (YF _ _).mono ?_); rintro e w1 ⟨rfl, rfl⟩; first | rw [hcd.out] | rw [hcn.out]))
   refine (XR t w hc0).mono ?_
   rintro e w2 ⟨A1, c1, n1, g, rfl, T1, hg', hn1', hcl, hnb⟩
   obtain ⟨q0, q1, q2, q3⟩ := hnb.out _ T1.out.bel
   go_wp2_with (first | ((with_reducible refine (Yp _ _).mono ?_); rintro e w1 ⟨rfl, rfl⟩; rw [hk.out]) | ((with_reducible refine (YF _ _).mono ?_); rintro e w1 ⟨rfl, rfl⟩; first | rw [hcd.out] | rw [hcn.out]))
   exact Z1x
 obtain ⟨hlo, hhi, hs⟩ := hcond
 have hr := Aside0.mk (show rightP t true = true by unfold rightP; rw [hk.out, hcd.out]; first | (simp [ht, h3, hlo, hhi, hs]; done) | (simp [ht, h3, hlo, hhi, hs]; omega) | (have hq := Vn hcc; simp [ht, h3, hlo, hhi, hs]; omega))
 have ht1 : (t.f2.toList == ([] : List UInt8)) = true := beq_iff_eq.mpr ht
 have ht2 : (t.f2.toList != ([] : List UInt8)) = false := by simp [ht]
 have ht3 : t.f2.toList.isEmpty = true := by simp [ht]
 have ht4 : (!t.f2.toList.isEmpty) = false := by simp [ht]
 have h31 : (t.f3 == 0) = true := beq_iff_eq.mpr h3
 have h32 : (t.f3 != 0) = false := by simp [h3]
 have hlo1 : (t.f1 < 2048) = False := eq_false Z0
 have hlo2 : decide (t.f1 < 2048) = false := by simp; omega
 have hhi1 : (4095 < t.f1) = False := eq_false Z0
 have hhi2 : decide (4095 < t.f1) = false := by simp; omega
 have hs1 : decide (31 < t.f2.size) = false := by simp; omega
 have hs2 : ((31 : Int) < (t.f2.size : Int)) = False := eq_false Z0
 clear ht h3
 have hB0 := Aside0.mk (Yc (Below.refl w.heap.size w) (.cells #[.int .i64 t.f0, .int .u32 t.f1, .string t.f2, .int .i64 t.f3] 37))
 go_enter Try.func29, Try.ntmps29
 go_wp2_with (first | ((with_reducible refine (Yp _ _).mono ?_); rintro e w1 ⟨rfl, rfl⟩; rw [hk.out]) | ((with_reducible refine (YF _ _).mono ?_); rintro e w1 ⟨rfl, rfl⟩; first | rw [hcd.out] | rw [hcn.out]))
 refine (XR t w hc0).mono ?_
 rintro e w2 ⟨A1, c1, n1, g, rfl, T1, hg', hn1', hcl, hnb⟩
 obtain ⟨q0, q1, q2, q3⟩ := hnb.out _ T1.out.bel
 go_wp2_with (first | ((with_reducible refine (Yp _ _).mono ?_); rintro e w1 ⟨rfl, rfl⟩; rw [hk.out]) | ((with_reducible refine (YF _ _).mono ?_); rintro e w1 ⟨rfl, rfl⟩; first | rw [hcd.out] | rw [hcn.out]))
 refine (Uo t.f1 hn _).mono ?_
 rintro e wq2 ⟨v, rfl, hR, hB⟩
 have Tq := (T1.out.below hB)
 replace Tq := Aside0.mk Tq
 obtain ⟨Aq, cq, rfl, -, hCq⟩ := Kd.R_reads hR
 obtain ⟨q0, q1, q2, q3⟩ := hnb.out _ Tq.out.bel
 replace hCq := Aside0.mk hCq
 clear hR hB
 go_wp2_with (at_builtin; refine Tq.out.rows _ Aq cq rfl rfl rfl rfl hCq.out ZF Z15 ?_)
 intro v2 w12 HN
 obtain ⟨T2, ⟨A2, n2, c2, rfl⟩, -, -⟩ := HN
 replace T2 := Aside0.mk T2
 obtain ⟨q0, q1, q2, q3⟩ := hnb.out _ T2.out.bel
 go_wp2_with (first | ((with_reducible refine (Yp _ _).mono ?_); rintro e w1 ⟨rfl, rfl⟩; rw [hk.out]) | ((with_reducible refine (YF _ _).mono ?_); rintro e w1 ⟨rfl, rfl⟩; first | rw [hcd.out] | rw [hcn.out]))
 exact bodyPost_ret (v := .tuple #[.slice A2 n2 c2, .bool true]) Zv rfl (YaL hr.out hg'.out T2.out (by
  unfold tokB; rw [hk.out]; first | (simp [textB, List.append_assoc]; done) | (have e9 : (t.f2.size : Int) % 256 = t.f2.size := Z0; simp [textB, e9, List.append_assoc])))
theorem rbytes_6 (t : Tk) (w : World) (hf : Fits t) (hc : YP t.f0 = true) (hk0 : Yr t.f0 = 6) : Calls Try.prog 29 #[tv t, .bool true] w (Vg t w) := by
 by_cases h3 : t.f3 = 0
 rotate_left
 ·exact Z13
 have hk := Aside0.mk hk0
 have hcd := Aside0.mk hc
 have hcn := hcd
 have hc0 := Vn hc
 obtain ⟨-, hn, hsz, ho⟩ := hf
 clear hc hk0
 by_cases hcond : 2048 ≤ t.f1 ∧ t.f1 ≤ 4095 ∧ t.f2.size ≤ 31
 rotate_left
 ·have hr := Aside0.mk (show rightP t true = false by unfold rightP; rw [hk.out, hcd.out]; simp [h3]; omega)
  have h31 : (t.f3 == 0) = true := beq_iff_eq.mpr h3
  have h32 : (t.f3 != 0) = false := by simp [h3]
  clear h3
  rcases (by omega : t.f1 < 2048 ∨ (2048 ≤ t.f1 ∧ 4095 < t.f1) ∨ (2048 ≤ t.f1 ∧ t.f1 ≤ 4095 ∧ 31 < t.f2.size)) with h1 | ⟨h1, h2⟩ | ⟨h1, h2, h3⟩
  all_goals
   have hs1 : ((31 : Int) < (t.f2.size : Int)) = (31 < t.f2.size) := propext Z0
   clear hcond
   have hB0 := Aside0.mk (Yc (Below.refl w.heap.size w) (.cells #[.int .i64 t.f0, .int .u32 t.f1, .string t.f2, .int .i64 t.f3] 37))
   go_enter Try.func29, Try.ntmps29
   go_wp2_with (first | ((with_reducible refine (Yp _ _).mono ?_); rintro e w1 ⟨rfl, rfl⟩; rw [hk.out]) | ((with_reducible refine (YF _ _).mono ?_); rintro e w1 ⟨rfl, rfl⟩; first | rw [hcd.out] | rw [hcn.out]))
   refine (XR t w hc0).mono ?_
   rintro e w2 ⟨A1, c1, n1, g, rfl, T1, hg', hn1', hcl, hnb⟩
   obtain ⟨q0, q1, q2, q3⟩ := hnb.out _ T1.out.bel
   go_wp2_with (first | ((with_reducible refine (Yp _ _).mono ?_); rintro e w1 ⟨rfl, rfl⟩; rw [hk.out]) | ((with_reducible refine (YF _ _).mono ?_); rintro e w1 ⟨rfl, rfl⟩; first | rw [hcd.out] | rw [hcn.out]))
   exact Z1x
 obtain ⟨hlo, hhi, hs⟩ := hcond
 have hr := Aside0.mk (show rightP t true = true by unfold rightP; rw [hk.out, hcd.out]; first | (simp [h3, hlo, hhi, hs]; done) | (simp [h3, hlo, hhi, hs]; omega) | (have hq := Vn hcc; simp [h3, hlo, hhi, hs]; omega))
 have h31 : (t.f3 == 0) = true := beq_iff_eq.mpr h3
 have h32 : (t.f3 != 0) = false := by simp [h3]
 have hlo1 : (t.f1 < 2048) = False := eq_false Z0
 have hlo2 : decide (t.f1 < 2048) = false := by simp; omega
 have hhi1 : (4095 < t.f1) = False := eq_false Z0
 have hhi2 : decide (4095 < t.f1) = false := by simp; omega
 have hs1 : decide (31 < t.f2.size) = false := by simp; omega
 have hs2 : ((31 : Int) < (t.f2.size : Int)) = False := eq_false Z0
 clear h3
 have hB0 := Aside0.mk (Yc (Below.refl w.heap.size w) (.cells #[.int .i64 t.f0, .int .u32 t.f1, .string t.f2, .int .i64 t.f3] 37))
 go_enter Try.func29, Try.ntmps29
 go_wp2_with (first | ((with_reducible refine (Yp _ _).mono ?_); rintro e w1 ⟨rfl, rfl⟩; rw [hk.out]) | ((with_reducible refine (YF _ _).mono ?_); rintro e w1 ⟨rfl, rfl⟩; first | rw [hcd.out] | rw [hcn.out]))
 refine (XR t w hc0).mono ?_
 rintro e w2 ⟨A1, c1, n1, g, rfl, T1, hg', hn1', hcl, hnb⟩
 obtain ⟨q0, q1, q2, q3⟩ := hnb.out _ T1.out.bel
 go_wp2_with (at_builtin; refine T1.out.byte _ rfl rfl rfl rfl ZF ?_)
 intro v2 w12 HN
 obtain ⟨T2, ⟨A2, n2, c2, rfl⟩, -, -⟩ := HN
 replace T2 := Aside0.mk T2
 obtain ⟨q0, q1, q2, q3⟩ := hnb.out _ T2.out.bel
 go_wp2_with (at_builtin; refine T2.out.str rfl rfl rfl t.f2 rfl ZF Z0 ?_)
 intro v3 w13 HN
 obtain ⟨T3, ⟨A3, n3, c3, rfl⟩, -, -⟩ := HN
 replace T3 := Aside0.mk T3
 obtain ⟨q0, q1, q2, q3⟩ := hnb.out _ T3.out.bel
 go_wp2_with (first | ((with_reducible refine (Yp _ _).mono ?_); rintro e w1 ⟨rfl, rfl⟩; rw [hk.out]) | ((with_reducible refine (YF _ _).mono ?_); rintro e w1 ⟨rfl, rfl⟩; first | rw [hcd.out] | rw [hcn.out]))
 refine (Uo t.f1 hn _).mono ?_
 rintro e wq4 ⟨v, rfl, hR, hB⟩
 have Tq := (T3.out.below hB)
 replace Tq := Aside0.mk Tq
 obtain ⟨Aq, cq, rfl, -, hCq⟩ := Kd.R_reads hR
 obtain ⟨q0, q1, q2, q3⟩ := hnb.out _ Tq.out.bel
 replace hCq := Aside0.mk hCq
 clear hR hB
 go_wp2_with (at_builtin; refine Tq.out.rows _ Aq cq rfl rfl rfl rfl hCq.out ZF Z15 ?_)
 intro v4 w14 HN
 obtain ⟨T4, ⟨A4, n4, c4, rfl⟩, -, -⟩ := HN
 replace T4 := Aside0.mk T4
 obtain ⟨q0, q1, q2, q3⟩ := hnb.out _ T4.out.bel
 go_wp2_with (first | ((with_reducible refine (Yp _ _).mono ?_); rintro e w1 ⟨rfl, rfl⟩; rw [hk.out]) | ((with_reducible refine (YF _ _).mono ?_); rintro e w1 ⟨rfl, rfl⟩; first | rw [hcd.out] | rw [hcn.out]))
 exact bodyPost_ret (v := .tuple #[.slice A4 n4 c4, .bool true]) Zv rfl (YaL hr.out hg'.out T4.out (by
  unfold tokB; rw [hk.out]; first | (simp [textB, List.append_assoc]; done) | (have e9 : (t.f2.size : Int) % 256 = t.f2.size := Z0; simp [textB, e9, List.append_assoc])))
theorem rbytes_u (t : Tk) (w : World) (hc : YP t.f0 = false) : Calls Try.prog 29 #[tv t, .bool true] w (Vg t w) := by
 have hr := Aside0.mk (show rightP t true = false by unfold rightP; rw [hc]; rfl)
 have hcd := Aside0.mk hc
 have hB0 := Aside0.mk (Yc (Below.refl w.heap.size w) (.cells #[.int .i64 t.f0, .int .u32 t.f1, .string t.f2, .int .i64 t.f3] 37))
 clear hc
 go_enter Try.func29, Try.ntmps29
 go_wp2_with ((with_reducible refine (YF _ _).mono ?_); rintro e w1 ⟨rfl, rfl⟩; rw [hcd.out])
 exact bodyPost_ret (v := .tuple #[.slice none 0 0, .bool false]) Zv rfl (bp_no hr.out hB0.out)
theorem Ybb (t : Tk) (hf : Fits t) (w : World) : Calls Try.prog 29 #[tv t, .bool true] w (Vg t w) := by
 cases hc : YP t.f0 with
 | false => exact rbytes_u t w hc
 | true =>
   rcases behindP_all t.f0 with hk | hk | hk | hk | hk | hk | hk
   ·exact rbytes_0 t w hf hc hk
   ·exact rbytes_1 t w hf hc hk
   ·exact rbytes_2 t w hf hc hk
   ·exact rbytes_3 t w hf hc hk
   ·exact rbytes_4 t w hf hc hk
   ·exact rbytes_5 t w hf hc hk
   ·exact rbytes_6 t w hf hc hk
theorem Yaq (t : Tk) (hf : Fits t) (w : World) : Calls Try.prog 14 #[tv t, .bool true] w fun e w' => e = .returned (.int .i64 (XH t)) ∧ Below w.heap.size w w' := by
 have hB0 := Yc (Below.refl w.heap.size w) (.cells #[.int .i64 t.f0, .int .u32 t.f1, .string t.f2, .int .i64 t.f3] 37)
 have hnew := Xa w (.cells #[.int .i64 t.f0, .int .u32 t.f1, .string t.f2, .int .i64 t.f3] 37)
 have hC := Aside0.mk (fun W => Ybb t hf W)
 have hu : XH t = if rightP t true then ((tokB t true).length : Int) else 0 := rfl
 rw [hu]
 clear hu
 cases hr : rightP t true with
 | false =>
   replace hr := Aside0.mk hr
   rw [if_neg Z1]
   go_enter Try.func14, Try.ntmps14
   go_wp2_with fail
   refine (hC.out _).mono ?_
   rintro e w1 ⟨A, n, c, rfl, -, hB⟩
   rw [hr.out]
   have hBB := Aside0.mk (hB0.trans (hB.mono hB0.size))
   clear hB hB0 hnew
   go_wp2_with fail
   exact bodyPost_ret (v := .int .i64 0) (by simp [results, Try.results14, go_sem]) rfl ⟨rfl, hBB.out⟩
 | true =>
   replace hr := Aside0.mk hr
   rw [if_pos rfl]
   go_enter Try.func14, Try.ntmps14
   go_wp2_with fail
   refine (hC.out _).mono ?_
   rintro e w1 ⟨A, n, c, rfl, hR, hB⟩
   have hn := (Kd.R_reads' (hR hr.out)).1
   rw [hr.out]
   have hBB := Aside0.mk (hB0.trans (hB.mono hB0.size))
   clear hB hB0 hnew hR
   subst hn
   go_wp2_with fail
   exact bodyPost_ret (v := .int .i64 ((tokB t true).length : Int)) (by simp [results, Try.results14, go_sem]) rfl ⟨rfl, hBB.out⟩
end Go.Proofs.Ytehmhgpogpbjiaa.Fcc
