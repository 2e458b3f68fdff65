import Derived.Test.Ytehmhgpogpbjiaafr04
set_option linter.unusedVariables false
set_option linter.unusedSimpArgs false
set_option maxRecDepth 100000
set_option maxHeartbeats 8000000
namespace Go.Proofs.Ytehmhgpogpbjiaa.PFccTokens
open Go.RowKit Go.Proofs.YtehmhgpogpbjiaaW.PrintWords Go.Proofs.YtehmhgpogpbjiaaW.PrintLast Go.Proofs.YtehmhgpogpbjiaaW.PrintMore
attribute [local go_sem] Vx Vv VV VU Ve Vd Vw Vu
def Xf.l0 : Nat → Int → List Int → Int → Int → Option (Int)
 | 0, _, _, _, _ => none
 | k + 1, x3, x6, x7, x8 => if x8 < x7 then (if 0 ≤ x8 then (if x8 < (x6.length : Int) then (Xf.l0 k (IntKind.u16.wrap (x3 + (IntKind.u16.wrap (rd x6 x8)))) x6 x7 (wrap64 (x8 + 1))) else (none)) else (none)) else (some (wrap64 (x3)))
def Xf.f (k : Nat) (l0 : List Int) : Option (Int) := Xf.l0 k 0 l0 (l0.length : Int) 0
theorem Xf.mono_l : ∀ k, (∀ y0 y1 y2 y3, LeO (Xf.l0 k y0 y1 y2 y3) (Xf.l0 (k + 1) y0 y1 y2 y3))
 | 0 => fun _ _ _ _ r h => by simp [Xf.l0] at h
 | k + 1 => by
  have ih0 := Xf.mono_l k
  ·intro y0 y1 y2 y3
   unfold Xf.l0
   exact XI
theorem Xf.mono : ∀ a0 k, LeO (Xf.f k a0) (Xf.f (k + 1) a0) := by
 intro a0 k
 have ih0 := Xf.mono_l k
 unfold Xf.f
 exact XI
theorem Xf.calls (k : Nat) (A0 : Option Addr) (c0 : Nat) (l0 : List Int) (r : Int) (w : World) (hr0 : Kd.C (Kd.int .u8) w A0 l0.length l0) (hc0 : l0.length ≤ c0) (h : Xf.f k l0 = some r) :
 Calls Try.prog 51 #[.slice A0 l0.length c0] w fun e w' => e = .returned (.int .i64 r) ∧ YZ w w' := by
 have HR0 := Aside0.mk hr0
 have HC0 := Aside0.mk hc0
 clear hr0 hc0
 have H : (Xf.l0 k 0 l0 (l0.length : Int) 0) = some r := h
 clear h
 have H' := Aside0.mk H
 clear H
 go_enter Try.func51, Try.ntmps51
 go_wp2
 go_loopg [3, 8] k (fun kq v3 v8 w' => ∃ (x3_1 : Int) (x8_1 : Int), v3 = .int .u16 x3_1 ∧ v8 = .int .i64 x8_1 ∧ Aside0 (Xf.l0 kq x3_1 l0 (l0.length : Int) x8_1 = some r) ∧ Aside0 (kq ≤ k) ∧ YZ w w')
 case atStart => exact ⟨(0), (0), Zp, Zp, H', ⟨Nat.le_refl _⟩, Z8⟩
 case round =>
  clear H'
  obtain ⟨x3_1, x8_1, rfl, rfl, HA, HK1, ⟨m1, rfl⟩⟩ := hrel
  cases gk with
  | zero => exact absurd HA.out (by simp [Xf.l0])
  | succ k1 =>
   have H := HA.out
   clear HA
   simp only [Xf.l0] at H
   by_cases c2 : x8_1 < (l0.length : Int)
   ·rw [if_pos c2] at H
    have c2b0 := decide_eq_true c2
    clear c2
    by_cases c3 : 0 ≤ x8_1
    ·rw [if_pos c3] at H
     have c3b0 := decide_eq_true c3
     clear c3
     by_cases c4 : x8_1 < (l0.length : Int)
     ·rw [if_pos c4] at H
      have c4b0 := decide_eq_true c4
      clear c4
      have H' := Aside0.mk H
      clear H
      have p212 : 0 ≤ (x8_1 : Int) := of_decide_eq_true Z5
      have q212 : x8_1 < (l0.length : Int) := of_decide_eq_true Z5
      obtain ⟨ad212, e212, hx212_0⟩ := Kd.at_int HR0.out x8_1 p212 q212
      cases e212
      replace p212 := eq_true p212
      replace q212 := eq_true q212
      go_wp2
      go_roundg k1
      case measure => have := HK1.out; omega
      case rel => exact ⟨(IntKind.u16.wrap (x3_1 + (IntKind.u16.wrap (rd l0 x8_1)))), (wrap64 (x8_1 + 1)), Zp, Zp, H', ⟨(Zo HK1.out)⟩, Z8⟩
     ·rw [if_neg c4] at H
      exact absurd H Z3
    ·rw [if_neg c3] at H
     exact absurd H Z3
   ·rw [if_neg c2] at H
    have c2b0 := decide_eq_false c2
    clear c2
    obtain rfl := Option.some.inj H
    go_wp2
    go_ret
    exact Z2f
def VI.f (k : Nat) (l0 : List Int) (a1 : Bool) : Option (List Int × Int) := (Xf.f k l0).bind fun t213 => (if (wrap64 (8 + (l0.length : Int))) > 8192 then (some (([] : List Int), 3)) else (if a1 = true then ((some (([241, 8, (t213 / 256) % 256, (t213) % 256, ((wrap64 (8 + (l0.length : Int))) / 16777216) % 256, ((wrap64 (8 + (l0.length : Int))) / 65536) % 256, ((wrap64 (8 + (l0.length : Int))) / 256) % 256, (wrap64 (8 + (l0.length : Int))) % 256] : List Int) : List Int)).bind fun y214 => (if y214.length + l0.length < 140737488355328 then (some ((y214 ++ l0), 0)) else (none))) else ((some (([253, 8, (t213 / 256) % 256, (t213) % 256, ((wrap64 (8 + (l0.length : Int))) / 16777216) % 256, ((wrap64 (8 + (l0.length : Int))) / 65536) % 256, ((wrap64 (8 + (l0.length : Int))) / 256) % 256, (wrap64 (8 + (l0.length : Int))) % 256] : List Int) : List Int)).bind fun y220 => (if y220.length + l0.length < 140737488355328 then (some ((y220 ++ l0), 0)) else (none)))))
theorem VI.mono : ∀ a0 a1 k, LeO (VI.f k a0 a1) (VI.f (k + 1) a0 a1) := by
 intro a0 a1 k
 unfold VI.f
 have ih7 := @Xf.mono; exact XI
theorem VI.calls (k : Nat) (A0 : Option Addr) (c0 : Nat) (l0 : List Int) (a1 : Bool) (r1 : List Int) (r2 : Int) (w : World) (hr0 : Kd.C (Kd.int .u8) w A0 l0.length l0) (hc0 : l0.length ≤ c0) (h : VI.f k l0 a1 = some (r1, r2)) :
 Calls Try.prog 25 #[.slice A0 l0.length c0, .bool a1] w fun e w' => ∃ v0_ : Value, e = .returned (.tuple #[v0_, .int .i64 r2]) ∧ Kd.R (Kd.int .u8) 5 w' w.heap.size (fun _ => True) v0_ r1 ∧ Below w.heap.size w w' := by
 have HR0 := Aside0.mk hr0
 have HC0 := Aside0.mk hc0
 clear hr0 hc0
 have HB := Aside0.mk (Below.refl w.heap.size w)
 have H : ((Xf.f k l0).bind fun t213 => (if (wrap64 (8 + (l0.length : Int))) > 8192 then (some (([] : List Int), 3)) else (if a1 = true then ((some (([241, 8, (t213 / 256) % 256, (t213) % 256, ((wrap64 (8 + (l0.length : Int))) / 16777216) % 256, ((wrap64 (8 + (l0.length : Int))) / 65536) % 256, ((wrap64 (8 + (l0.length : Int))) / 256) % 256, (wrap64 (8 + (l0.length : Int))) % 256] : List Int) : List Int)).bind fun y214 => (if y214.length + l0.length < 140737488355328 then (some ((y214 ++ l0), 0)) else (none))) else ((some (([253, 8, (t213 / 256) % 256, (t213) % 256, ((wrap64 (8 + (l0.length : Int))) / 16777216) % 256, ((wrap64 (8 + (l0.length : Int))) / 65536) % 256, ((wrap64 (8 + (l0.length : Int))) / 256) % 256, (wrap64 (8 + (l0.length : Int))) % 256] : List Int) : List Int)).bind fun y220 => (if y220.length + l0.length < 140737488355328 then (some ((y220 ++ l0), 0)) else (none)))))) = some (r1, r2) := h
 clear h
 replace H := bE H; obtain ⟨t213, A3, H⟩ := H
 by_cases c4 : (wrap64 (8 + (l0.length : Int))) > 8192
 ·rw [if_pos c4] at H
  have c4b0 := decide_eq_true c4
  clear c4
  simp only [Option.some.injEq, Prod.mk.injEq] at H
  obtain ⟨rfl, rfl⟩ := H
  go_enter Try.func25, Try.ntmps25
  go_wp2_with (first | ((with_reducible refine Ym (f := 51) rfl ?_); refine YL (some 14) rfl rfl Try.func51 Z2 rfl #[.slice A0 l0.length c0] rfl Zb ?_; (with_reducible refine (Xf.calls k _ _ l0 t213 _ ?side1 ?side2 A3.out).mono ?_); (case side1 => exact Z14); (case side2 => exact HC0.out); rintro e w' ⟨rfl, ⟨nd, rfl⟩⟩; refine ⟨_, rfl, ?_⟩))
  go_ret2
  exact Z2g
 ·rw [if_neg c4] at H
  have c4b0 := decide_eq_false c4
  clear c4
  by_cases c5 : a1 = true
  ·subst c5
   rw [if_pos rfl] at H
   obtain ⟨y214, Ny214⟩ := aE (([241, 8, (t213 / 256) % 256, (t213) % 256, ((wrap64 (8 + (l0.length : Int))) / 16777216) % 256, ((wrap64 (8 + (l0.length : Int))) / 65536) % 256, ((wrap64 (8 + (l0.length : Int))) / 256) % 256, (wrap64 (8 + (l0.length : Int))) % 256] : List Int)); rw [← Ny214.out] at H; try rw [Option.bind_some] at H
   by_cases c6 : y214.length + l0.length < 140737488355328
   ·rw [if_pos c6] at H
    have LMc6 := Aside0.mk c6
    clear c6
    obtain ⟨y217, Ny217⟩ := aE (y214 ++ l0); rw [← Ny217.out] at H; try rw [Option.bind_some] at H
    simp only [Option.some.injEq, Prod.mk.injEq] at H
    obtain ⟨rfl, rfl⟩ := H
    go_enter Try.func25, Try.ntmps25
    go_wp2_with (first | ((with_reducible refine Ym (f := 51) rfl ?_); refine YL (some 14) rfl rfl Try.func51 Z2 rfl #[.slice A0 l0.length c0] rfl Zb ?_; (with_reducible refine (Xf.calls k _ _ l0 t213 _ ?side1 ?side2 A3.out).mono ?_); (case side1 => exact Z14); (case side2 => exact HC0.out); rintro e w' ⟨rfl, ⟨nd, rfl⟩⟩; refine ⟨_, rfl, ?_⟩) | ((with_reducible refine Vm (N := 35) rfl ?_); refine Kd.R_lit (Kd.int .u8) _ 5 ?hg (N := 35) ?hd (xs := ([241, 8, (t213 / 256) % 256, (t213) % 256, ((wrap64 (8 + (l0.length : Int))) / 16777216) % 256, ((wrap64 (8 + (l0.length : Int))) / 65536) % 256, ((wrap64 (8 + (l0.length : Int))) / 256) % 256, (wrap64 (8 + (l0.length : Int))) % 256] : List Int)) (inner := [.int .u8 241, .int .u8 8, .int .u8 ((t213 / 256) % 256), .int .u8 ((t213) % 256), .int .u8 (((wrap64 (8 + (l0.length : Int))) / 16777216) % 256), .int .u8 (((wrap64 (8 + (l0.length : Int))) / 65536) % 256), .int .u8 (((wrap64 (8 + (l0.length : Int))) / 256) % 256), .int .u8 ((wrap64 (8 + (l0.length : Int))) % 256)]) (ok := fun _ => True) (okp := fun _ => True) ?hr ?hp (fun _ hk => hk) trivial (Below.refl _ _) (Nat.le_refl _) Z3 ?_; (case hd => rfl); (case hg => rfl); (case hr => exact Zx); (case hp => exact (Reps.one (show Kd.M (Kd.int .u8) _ _ _ 241 [.int .u8 241] from rfl) (Reps.one (show Kd.M (Kd.int .u8) _ _ _ 8 [.int .u8 8] from rfl) (Reps.one (show Kd.M (Kd.int .u8) _ _ _ ((t213 / 256) % 256) [.int .u8 ((t213 / 256) % 256)] from rfl) (Reps.one (show Kd.M (Kd.int .u8) _ _ _ ((t213) % 256) [.int .u8 ((t213) % 256)] from rfl) (Reps.one (show Kd.M (Kd.int .u8) _ _ _ (((wrap64 (8 + (l0.length : Int))) / 16777216) % 256) [.int .u8 (((wrap64 (8 + (l0.length : Int))) / 16777216) % 256)] from rfl) (Reps.one (show Kd.M (Kd.int .u8) _ _ _ (((wrap64 (8 + (l0.length : Int))) / 65536) % 256) [.int .u8 (((wrap64 (8 + (l0.length : Int))) / 65536) % 256)] from rfl) (Reps.one (show Kd.M (Kd.int .u8) _ _ _ (((wrap64 (8 + (l0.length : Int))) / 256) % 256) [.int .u8 (((wrap64 (8 + (l0.length : Int))) / 256) % 256)] from rfl) (Reps.one (show Kd.M (Kd.int .u8) _ _ _ ((wrap64 (8 + (l0.length : Int))) % 256) [.int .u8 ((wrap64 (8 + (l0.length : Int))) % 256)] from rfl) (Reps.none _ _)))))))))); intro v215 w7 ho8 hb hg_ hnew_; clear hg_ hnew_; (first | rw [← Ny214.out] at ho8 | (simp only [Int.reduceToNat] at ho8; rw [← Ny214.out] at ho8)); have n0_ := Aside0.mk (Kd.R_lower ho8 (YK Z6)); have n1_ := Aside0.mk (YN Z6 hb); clear HB; have HO216 := n0_; have HB := n1_; clear n0_ n1_; clear hb ho8) | ((with_reducible refine Xj (b := .append) (xs := #[.tmp 36, .tmp 37]) rfl ?_); at_builtin; refine Kd.R_append_rows (Kd.int .u8) (w0 := w) w.heap.size rfl (.tmp 36) (.tmp 37) 29 5 (.int .u8 0) 1 rfl Try.underlying29 VL rfl Z1 Z0 v215 y214 l0 _ _ _ (fun _ => True) (fun _ => False) rfl rfl ?aO ?aR (fun _ _ h => h) (fun _ h => h.elim) ?aF ?aB ?aS ?aL ?_; (case aR => exact Z1f); (case aB => exact Z6); (case aF => exact (fun _ _ => trivial)); (case aO => exact (Zr HO216.out)); (case aS => exact (YK Z6)); (case aL => exact (Zo LMc6.out)); intro v218 w9 ho hb hg hat; rw [← Ny217.out] at ho; have n0_ := Aside0.mk (hb); have n1_ := Aside0.mk (ho); clear HB; clear HO216; have HB := n0_; have HO219 := n1_; clear n0_ n1_; clear ho hb hg hat))
    go_ret2
    exact ⟨_, ZG, (Zr HO219.out), Z6⟩
   ·rw [if_neg c6] at H
    exact absurd H Z3
  ·replace c5 := Bool.eq_false_iff.mpr c5
   subst c5
   rw [if_neg Z1] at H
   obtain ⟨y220, Ny220⟩ := aE (([253, 8, (t213 / 256) % 256, (t213) % 256, ((wrap64 (8 + (l0.length : Int))) / 16777216) % 256, ((wrap64 (8 + (l0.length : Int))) / 65536) % 256, ((wrap64 (8 + (l0.length : Int))) / 256) % 256, (wrap64 (8 + (l0.length : Int))) % 256] : List Int)); rw [← Ny220.out] at H; try rw [Option.bind_some] at H
   by_cases c10 : y220.length + l0.length < 140737488355328
   ·rw [if_pos c10] at H
    have LMc10 := Aside0.mk c10
    clear c10
    obtain ⟨y223, Ny223⟩ := aE (y220 ++ l0); rw [← Ny223.out] at H; try rw [Option.bind_some] at H
    simp only [Option.some.injEq, Prod.mk.injEq] at H
    obtain ⟨rfl, rfl⟩ := H
    go_enter Try.func25, Try.ntmps25
    go_wp2_with (first | ((with_reducible refine Ym (f := 51) rfl ?_); refine YL (some 14) rfl rfl Try.func51 Z2 rfl #[.slice A0 l0.length c0] rfl Zb ?_; (with_reducible refine (Xf.calls k _ _ l0 t213 _ ?side1 ?side2 A3.out).mono ?_); (case side1 => exact Z14); (case side2 => exact HC0.out); rintro e w' ⟨rfl, ⟨nd, rfl⟩⟩; refine ⟨_, rfl, ?_⟩) | ((with_reducible refine Vm (N := 35) rfl ?_); refine Kd.R_lit (Kd.int .u8) _ 5 ?hg (N := 35) ?hd (xs := ([253, 8, (t213 / 256) % 256, (t213) % 256, ((wrap64 (8 + (l0.length : Int))) / 16777216) % 256, ((wrap64 (8 + (l0.length : Int))) / 65536) % 256, ((wrap64 (8 + (l0.length : Int))) / 256) % 256, (wrap64 (8 + (l0.length : Int))) % 256] : List Int)) (inner := [.int .u8 253, .int .u8 8, .int .u8 ((t213 / 256) % 256), .int .u8 ((t213) % 256), .int .u8 (((wrap64 (8 + (l0.length : Int))) / 16777216) % 256), .int .u8 (((wrap64 (8 + (l0.length : Int))) / 65536) % 256), .int .u8 (((wrap64 (8 + (l0.length : Int))) / 256) % 256), .int .u8 ((wrap64 (8 + (l0.length : Int))) % 256)]) (ok := fun _ => True) (okp := fun _ => True) ?hr ?hp (fun _ hk => hk) trivial (Below.refl _ _) (Nat.le_refl _) Z3 ?_; (case hd => rfl); (case hg => rfl); (case hr => exact Zx); (case hp => exact (Reps.one (show Kd.M (Kd.int .u8) _ _ _ 253 [.int .u8 253] from rfl) (Reps.one (show Kd.M (Kd.int .u8) _ _ _ 8 [.int .u8 8] from rfl) (Reps.one (show Kd.M (Kd.int .u8) _ _ _ ((t213 / 256) % 256) [.int .u8 ((t213 / 256) % 256)] from rfl) (Reps.one (show Kd.M (Kd.int .u8) _ _ _ ((t213) % 256) [.int .u8 ((t213) % 256)] from rfl) (Reps.one (show Kd.M (Kd.int .u8) _ _ _ (((wrap64 (8 + (l0.length : Int))) / 16777216) % 256) [.int .u8 (((wrap64 (8 + (l0.length : Int))) / 16777216) % 256)] from rfl) (Reps.one (show Kd.M (Kd.int .u8) _ _ _ (((wrap64 (8 + (l0.length : Int))) / 65536) % 256) [.int .u8 (((wrap64 (8 + (l0.length : Int))) / 65536) % 256)] from rfl) (Reps.one (show Kd.M (Kd.int .u8) _ _ _ (((wrap64 (8 + (l0.length : Int))) / 256) % 256) [.int .u8 (((wrap64 (8 + (l0.length : Int))) / 256) % 256)] from rfl) (Reps.one (show Kd.M (Kd.int .u8) _ _ _ ((wrap64 (8 + (l0.length : Int))) % 256) [.int .u8 ((wrap64 (8 + (l0.length : Int))) % 256)] from rfl) (Reps.none _ _)))))))))); intro v221 w11 ho12 hb hg_ hnew_; clear hg_ hnew_; (first | rw [← Ny220.out] at ho12 | (simp only [Int.reduceToNat] at ho12; rw [← Ny220.out] at ho12)); have n0_ := Aside0.mk (Kd.R_lower ho12 (YK Z6)); have n1_ := Aside0.mk (YN Z6 hb); clear HB; have HO222 := n0_; have HB := n1_; clear n0_ n1_; clear hb ho12) | ((with_reducible refine Xj (b := .append) (xs := #[.tmp 36, .tmp 37]) rfl ?_); at_builtin; refine Kd.R_append_rows (Kd.int .u8) (w0 := w) w.heap.size rfl (.tmp 36) (.tmp 37) 29 5 (.int .u8 0) 1 rfl Try.underlying29 VL rfl Z1 Z0 v221 y220 l0 _ _ _ (fun _ => True) (fun _ => False) rfl rfl ?aO ?aR (fun _ _ h => h) (fun _ h => h.elim) ?aF ?aB ?aS ?aL ?_; (case aR => exact Z1f); (case aB => exact Z6); (case aF => exact (fun _ _ => trivial)); (case aO => exact (Zr HO222.out)); (case aS => exact (YK Z6)); (case aL => exact (Zo LMc10.out)); intro v224 w13 ho hb hg hat; rw [← Ny223.out] at ho; have n0_ := Aside0.mk (hb); have n1_ := Aside0.mk (ho); clear HB; clear HO222; have HB := n0_; have HO225 := n1_; clear n0_ n1_; clear ho hb hg hat))
    go_ret2
    exact ⟨_, ZG, (Zr HO225.out), Z6⟩
   ·rw [if_neg c10] at H
    exact absurd H Z3
def Yy.l0 : Nat → List Int → Int → Int → Option (Int × List Int × Int)
 | 0, _, _, _ => none
 | k + 1, x0, x5, x6 => if x6 < 4 then (if 0 ≤ x6 then (if x6 < (x0.length : Int) then (Yy.l0 k x0 ((((x5 * 256) % 4294967296) + ((rd x0 x6) % 4294967296)) % 4294967296) (wrap64 (x6 + 1))) else (none)) else (none)) else (if 4 ≤ (x0.length : Int) then (some (x5, (x0.drop (4 : Int).toNat), 0)) else (none))
def Yy.f (k : Nat) (l0 : List Int) : Option (Int × List Int × Int) := if (l0.length : Int) < 4 then (some (0, ([] : List Int), 2)) else (Yy.l0 k l0 0 0)
theorem Yy.mono_l : ∀ k, (∀ y0 y1 y2, LeO (Yy.l0 k y0 y1 y2) (Yy.l0 (k + 1) y0 y1 y2))
 | 0 => fun _ _ _ r h => by simp [Yy.l0] at h
 | k + 1 => by
  have ih0 := Yy.mono_l k
  ·intro y0 y1 y2
   unfold Yy.l0
   exact XI
theorem Yy.mono : ∀ a0 k, LeO (Yy.f k a0) (Yy.f (k + 1) a0) := by
 intro a0 k
 have ih0 := Yy.mono_l k
 unfold Yy.f
 exact XI
theorem Yy.calls (k : Nat) (P0_ : Nat → Prop) (u9000_ : Value) (l0 : List Int) (r1 : Int) (r2 : List Int) (r3 : Int) (w0 w : World) (hB : Below w0.heap.size w0 w) (ho0 : Kd.R (Kd.int .u8) 5 w w0.heap.size P0_ u9000_ l0) (h : Yy.f k l0 = some (r1, r2, r3)) :
 Calls Try.prog 26 #[u9000_] w fun e w' => ∃ v1_ : Value, e = .returned (.tuple #[.int .u32 r1, v1_, .int .i64 r3]) ∧ Kd.Q (Kd.int .u8) 5 w' w0.heap.size (fun k_ => (P0_ k_ ∨ w.heap.size ≤ k_)) v1_ r2 ∧ Below w0.heap.size w0 w' ∧ Kept w w' (fun k_ => P0_ k_) := by
 have HO0 := Aside0.mk (show Kd.R (Kd.int .u8) 5 w w0.heap.size (fun k_ => (P0_ k_ ∨ w.heap.size ≤ k_)) u9000_ l0 from Kd.R_mono ho0 (fun k_ hk => (.inl hk)))
 have HK := Aside0.mk (Kept.refl w (fun k_ => P0_ k_))
 have HW0 := Aside0.mk hB.size
 have HB := Aside0.mk hB
 clear hB
 have H : (if (l0.length : Int) < 4 then (some (0, ([] : List Int), 2)) else (Yy.l0 k l0 0 0)) = some (r1, r2, r3) := h
 clear h
 by_cases c2 : (l0.length : Int) < 4
 ·rw [if_pos c2] at H
  have c2b0 := decide_eq_true c2
  have c2b1 : decide (l0.length < 4) = true := decide_eq_true Z0
  clear c2
  simp only [Option.some.injEq, Prod.mk.injEq] at H
  obtain ⟨rfl, rfl, rfl⟩ := H
  obtain ⟨Ao3, co3, eo3⟩ := Kd.R_slice HO0.out
  subst eo3
  go_enter Try.func26, Try.ntmps26
  go_wp2
  repeat (go_quiet (fail); try go_wp2)
  go_ret3
  exact ⟨_, ZG, Kd.Q_of_R Zl, Z6, Zn⟩
 ·rw [if_neg c2] at H
  have c2b0 := decide_eq_false c2
  have c2b1 : decide (l0.length < 4) = false := decide_eq_false Z0
  clear c2
  have H' := Aside0.mk H
  clear H
  obtain ⟨Ao4, co4, eo4⟩ := Kd.R_slice HO0.out
  subst eo4
  go_enter Try.func26, Try.ntmps26
  go_wp2
  repeat (go_quiet (fail); try go_wp2)
  go_loopg [5, 6] k (fun kq v5 v6 w' => ∃ (x5_1 : Int) (x6_1 : Int), v5 = .int .u32 x5_1 ∧ v6 = .int .i64 x6_1 ∧ Aside0 (Yy.l0 kq l0 x5_1 x6_1 = some (r1, r2, r3)) ∧ Aside0 (kq ≤ k) ∧ Aside0 (Kd.R (Kd.int .u8) 5 w' w0.heap.size (fun k_ => (P0_ k_ ∨ w.heap.size ≤ k_)) (.slice Ao4 l0.length co4) l0) ∧ Aside0 (Kept w w' (fun k_ => P0_ k_)) ∧ Aside0 (Below w0.heap.size w0 w'))
  case atStart => exact ⟨(0), (0), Zp, Zp, H', ⟨Nat.le_refl _⟩, ⟨(Zr HO0.out)⟩, ⟨Zn⟩, ⟨Z6⟩⟩
  case round =>
   clear H'
   try clear c2
   try clear c2b0
   try clear c2b1
   try clear p2
   obtain ⟨x5_1, x6_1, rfl, rfl, HA, HK1, HO_0, HK, HB⟩ := hrel
   cases gk with
   | zero => exact absurd HA.out (by simp [Yy.l0])
   | succ k1 =>
    have H := HA.out
    clear HA
    simp only [Yy.l0] at H
    by_cases c5 : x6_1 < 4
    ·rw [if_pos c5] at H
     have c5b0 := decide_eq_true c5
     clear c5
     by_cases c6 : 0 ≤ x6_1
     ·rw [if_pos c6] at H
      have c6b0 := decide_eq_true c6
      clear c6
      by_cases c7 : x6_1 < (l0.length : Int)
      ·rw [if_pos c7] at H
       have c7b0 := decide_eq_true c7
       clear c7
       have H' := Aside0.mk H
       clear H
       have p226 : 0 ≤ (x6_1 : Int) := of_decide_eq_true Z5
       have q226 : x6_1 < (l0.length : Int) := of_decide_eq_true Z5
       obtain ⟨ad226, e226, hx226_0⟩ := Kd.at_int (Kd.R_reads' HO_0.out).2.2 x6_1 p226 q226
       cases e226
       replace p226 := eq_true p226
       replace q226 := eq_true q226
       go_wp2
       repeat (go_quiet (fail); try go_wp2)
       go_roundg k1
       case measure => have := HK1.out; omega
       case rel => exact ⟨((((x5_1 * 256) % 4294967296) + ((rd l0 x6_1) % 4294967296)) % 4294967296), (wrap64 (x6_1 + 1)), Zp, Zp, H', ⟨(Zo HK1.out)⟩, ⟨(Zr HO_0.out)⟩, ⟨Zn⟩, ⟨Z6⟩⟩
      ·rw [if_neg c7] at H
       exact absurd H Z3
     ·rw [if_neg c6] at H
      exact absurd H Z3
    ·rw [if_neg c5] at H
     have c5b0 := decide_eq_false c5
     clear c5
     by_cases c8 : 4 ≤ (l0.length : Int)
     ·rw [if_pos c8] at H
      have c8b0 := eq_true c8
      have c8b1 := decide_eq_true c8
      clear c8
      obtain ⟨y227, Ny227⟩ := aE (l0.drop (4 : Int).toNat); rw [← Ny227.out] at H; try rw [Option.bind_some] at H
      simp only [Option.some.injEq, Prod.mk.injEq] at H
      obtain ⟨rfl, rfl, rfl⟩ := H
      have q9 : (4 : Int) ≤ ((l0.length : Int) : Int) := of_decide_eq_true Z5
      obtain ⟨i09, hi09, _, hsz9, _⟩ := info_parts VL
      have hcut9 := Ydv (P := Try.prog) 29 5 .i64 Try.underlying29 hi09 1 hsz9 Ao4 l0.length co4 4 Z0 q9
      have hr9 := Kd.Q_drop (k := (4 : Int).toNat) (Kd.Q_of_R HO_0.out) Z0
      obtain ⟨A9, hA9⟩ : ∃ A1, A1 = (if co4 = (4 : Int).toNat then Ao4 else (Ao4 : Option Addr).map (·.add ((4 : Int).toNat * 1))) := ⟨_, rfl⟩
      obtain ⟨c9, hc9⟩ : ∃ c1, c1 = co4 - (4 : Int).toNat := ⟨_, rfl⟩
      have hy9 : y227.length = l0.length - (4 : Int).toNat := (by rw [Ny227.out, List.length_drop])
      rw [← Ny227.out] at hr9
      rw [← hy9, ← hA9, ← hc9] at hcut9
      replace hr9 : Kd.Q (Kd.int .u8) 5 wr w0.heap.size (fun k_ => (P0_ k_ ∨ w.heap.size ≤ k_)) (.slice A9 y227.length c9) y227 := (by rw [hA9, hc9, hy9]; exact hr9)
      have HE9 : Aside0 ((Value.slice A9 y227.length c9).ownBlock = (.slice Ao4 l0.length co4 : Value).ownBlock) := ⟨(by rw [hA9]; split <;> (cases (Ao4 : Option Addr) <;> rfl))⟩
      clear hy9 hi09 hsz9 HO_0 hA9 hc9
      have HO229 := Aside0.mk hr9
      clear hr9
      replace q9 := eq_true q9
      go_wp2
      repeat (go_quiet (fail); try go_wp2)
      go_ret3
      exact ⟨_, ZG, (by (with_reducible repeat (first | apply Kd.Q_alloc | apply Kd.Q_drewN | apply Kd.Q_drew)); exact HO229.out), Z6, Zn⟩
     ·rw [if_neg c8] at H
      exact absurd H Z3
def Yx.l0 : Nat → List Int → Int → Int → Option (Int)
 | 0, _, _, _ => none
 | k + 1, x0, x3, x4 => if x4 < (x0.length : Int) then (if 0 ≤ x4 then (Yx.l0 k x0 (Int.tmod (wrap64 (x3 + (wrap64 (rd x0 x4)))) 65536) (wrap64 (x4 + 1))) else (none)) else (some x3)
def Yx.f (k : Nat) (l0 : List Int) : Option (Int) := Yx.l0 k l0 0 0
theorem Yx.mono_l : ∀ k, (∀ y0 y1 y2, LeO (Yx.l0 k y0 y1 y2) (Yx.l0 (k + 1) y0 y1 y2))
 | 0 => fun _ _ _ r h => by simp [Yx.l0] at h
 | k + 1 => by
  have ih0 := Yx.mono_l k
  ·intro y0 y1 y2
   unfold Yx.l0
   exact XI
theorem Yx.mono : ∀ a0 k, LeO (Yx.f k a0) (Yx.f (k + 1) a0) := by
 intro a0 k
 have ih0 := Yx.mono_l k
 unfold Yx.f
 exact XI
theorem Yx.calls (k : Nat) (A0 : Option Addr) (c0 : Nat) (l0 : List Int) (r : Int) (w : World) (hr0 : Kd.C (Kd.int .u8) w A0 l0.length l0) (hc0 : l0.length ≤ c0) (h : Yx.f k l0 = some r) :
 Calls Try.prog 52 #[.slice A0 l0.length c0] w fun e w' => e = .returned (.int .i64 r) ∧ YZ w w' := by
 have HR0 := Aside0.mk hr0
 have HC0 := Aside0.mk hc0
 clear hr0 hc0
 have H : (Yx.l0 k l0 0 0) = some r := h
 clear h
 have H' := Aside0.mk H
 clear H
 go_enter Try.func52, Try.ntmps52
 go_wp2
 go_loopg [3, 4] k (fun kq v3 v4 w' => ∃ (x3_1 : Int) (x4_1 : Int), v3 = .int .i64 x3_1 ∧ v4 = .int .i64 x4_1 ∧ Aside0 (Yx.l0 kq l0 x3_1 x4_1 = some r) ∧ Aside0 (kq ≤ k) ∧ YZ w w')
 case atStart => exact ⟨(0), (0), Zp, Zp, H', ⟨Nat.le_refl _⟩, Z8⟩
 case round =>
  clear H'
  obtain ⟨x3_1, x4_1, rfl, rfl, HA, HK1, ⟨m1, rfl⟩⟩ := hrel
  cases gk with
  | zero => exact absurd HA.out (by simp [Yx.l0])
  | succ k1 =>
   have H := HA.out
   clear HA
   simp only [Yx.l0] at H
   by_cases c2 : x4_1 < (l0.length : Int)
   ·rw [if_pos c2] at H
    have c2b0 := decide_eq_true c2
    clear c2
    by_cases c3 : 0 ≤ x4_1
    ·rw [if_pos c3] at H
     have c3b0 := decide_eq_true c3
     clear c3
     have H' := Aside0.mk H
     clear H
     have p230 : 0 ≤ (x4_1 : Int) := of_decide_eq_true Z5
     have q230 : x4_1 < (l0.length : Int) := of_decide_eq_true Z5
     obtain ⟨ad230, e230, hx230_0⟩ := Kd.at_int HR0.out x4_1 p230 q230
     cases e230
     replace p230 := eq_true p230
     replace q230 := eq_true q230
     go_wp2
     go_roundg k1
     case measure => have := HK1.out; omega
     case rel => exact ⟨(Int.tmod (wrap64 (x3_1 + (wrap64 (rd l0 x4_1)))) 65536), (wrap64 (x4_1 + 1)), Zp, Zp, H', ⟨(Zo HK1.out)⟩, Z8⟩
    ·rw [if_neg c3] at H
     exact absurd H Z3
   ·rw [if_neg c2] at H
    have c2b0 := decide_eq_false c2
    clear c2
    obtain rfl := Option.some.inj H
    go_wp2
    go_ret
    exact Z2f
def Yn.l0 : Nat → Int → List Int → Int → Option (List Int)
 | 0, _, _, _ => none
 | k + 1, x0, x3, x4 => if x4 ≥ 0 then (if 0 ≤ (IntKind.u64.wrap (wrap64 (8 * x4))) then (if x3.length < 140737488355328 then (Yn.l0 k x0 (x3 ++ [(Int.tmod (shr .u32 x0 (IntKind.u64.wrap (wrap64 (8 * x4)))) 256) % 256]) (wrap64 (x4 - 1))) else (none)) else (none)) else (some x3)
def Yn.f (k : Nat) (a0 : Int) : Option (List Int) := Yn.l0 k a0 ([] : List Int) 3
theorem Yn.mono_l : ∀ k, (∀ y0 y1 y2, LeO (Yn.l0 k y0 y1 y2) (Yn.l0 (k + 1) y0 y1 y2))
 | 0 => fun _ _ _ r h => by simp [Yn.l0] at h
 | k + 1 => by
  have ih0 := Yn.mono_l k
  ·intro y0 y1 y2
   unfold Yn.l0
   exact XI
theorem Yn.mono : ∀ a0 k, LeO (Yn.f k a0) (Yn.f (k + 1) a0) := by
 intro a0 k
 have ih0 := Yn.mono_l k
 unfold Yn.f
 exact XI
theorem Yn.calls (k : Nat) (a0 : Int) (r : List Int) (w : World) (h : Yn.f k a0 = some r) :
 Calls Try.prog 53 #[.int .u32 a0] w fun e w' => ∃ v0_ : Value, e = .returned (v0_) ∧ Kd.R (Kd.int .u8) 5 w' w.heap.size (fun _ => True) v0_ r ∧ Below w.heap.size w w' := by
 have HB := Aside0.mk (Below.refl w.heap.size w)
 have H : (Yn.l0 k a0 ([] : List Int) 3) = some r := h
 clear h
 have H' := Aside0.mk H
 clear H
 go_enter Try.func53, Try.ntmps53
 go_wp2
 go_loopg [3, 4] k (fun kq v3 v4 w' => ∃ (x3_1 : List Int) (x4_1 : Int), v4 = .int .i64 x4_1 ∧ Aside0 (Yn.l0 kq a0 x3_1 x4_1 = some r) ∧ Aside0 (kq ≤ k) ∧ Aside0 (Kd.R (Kd.int .u8) 5 w' w.heap.size (fun _ => True) v3 x3_1) ∧ Aside0 (Below w.heap.size w w'))
 case atStart => exact ⟨(([] : List Int)), (3), Zp, H', ⟨Nat.le_refl _⟩, ⟨Zl⟩, ⟨Z6⟩⟩
 case round =>
  clear H'
  obtain ⟨x3_1, x4_1, rfl, HA, HK1, HO_3, HB⟩ := hrel
  cases gk with
  | zero => exact absurd HA.out (by simp [Yn.l0])
  | succ k1 =>
   have H := HA.out
   clear HA
   simp only [Yn.l0] at H
   by_cases c2 : x4_1 ≥ 0
   ·rw [if_pos c2] at H
    have c2b0 := decide_eq_true c2
    clear c2
    obtain ⟨ji3, hji3⟩ : ∃ j_ : Int, (IntKind.u64.wrap (wrap64 (8 * x4_1))) = j_ := ⟨_, rfl⟩
    replace H : (if 0 ≤ (ji3) then (if x3_1.length < 140737488355328 then (Yn.l0 k1 a0 (x3_1 ++ [(Int.tmod (shr .u32 a0 (ji3)) 256) % 256]) (wrap64 (x4_1 - 1))) else (none)) else (none)) = some r := by first | (rw [hji3] at H; exact H) | (simp only [hji3] at H ⊢; exact H)
    by_cases c4 : 0 ≤ (ji3)
    ·rw [if_pos c4] at H
     have c4b0 := eq_true c4
     have c4b1 := decide_eq_true c4
     clear c4
     obtain ⟨ji5, hji5⟩ : ∃ j_ : Int, (shr .u32 a0 (ji3)) = j_ := ⟨_, rfl⟩
     replace H : (if x3_1.length < 140737488355328 then (Yn.l0 k1 a0 (x3_1 ++ [(Int.tmod (ji5) 256) % 256]) (wrap64 (x4_1 - 1))) else (none)) = some r := by first | (rw [hji5] at H; exact H) | (simp only [hji5] at H ⊢; exact H)
     have hji5_ : (a0 / 2 ^ min (ji3).toNat 32) = ji5 := hji5
     have hji5z : (ji3) ≤ 32 → (a0 / 2 ^ (ji3).toNat) = ji5 := shr_small hji5
     by_cases c6 : x3_1.length < 140737488355328
     ·rw [if_pos c6] at H
      have LMc6 := Aside0.mk c6
      clear c6
      obtain ⟨y231, Ny231⟩ := aE (x3_1 ++ [(Int.tmod (ji5) 256) % 256]); rw [← Ny231.out] at H; try rw [Option.bind_some] at H
      have H' := Aside0.mk H
      clear H
      go_wp2_with (first | ((with_reducible refine Xj (b := .append) (xs := #[.tmp 9, .tmp 17]) rfl ?_); at_builtin; refine Kd.R_append (Kd.int .u8) (w0 := w) w.heap.size rfl (.tmp 9) (.tmp 17) 29 5 (.int .u8 0) 1 rfl Try.underlying29 VL rfl Z1 Z0 u3 x3_1 ((Int.tmod (ji5) 256) % 256) [.int .u8 ((Int.tmod (ji5) 256) % 256)] (fun _ => True) (fun _ => False) rfl rfl ?aP (fun _ hk => hk.elim) ?aF ?aO ?aB ?aS ?aL ?_; (case aP => exact rfl); (case aB => exact Z6); (case aF => exact (fun _ _ => trivial)); (case aO => exact (Zr HO_3.out)); (case aS => exact (YK Z6)); (case aL => exact (Zo LMc6.out)); intro v232 w7 ho hb hg hat; rw [← Ny231.out] at ho; have n0_ := Aside0.mk (hb); have n1_ := Aside0.mk (ho); clear HB; clear HO_3; have HB := n0_; have HO233 := n1_; clear n0_ n1_; clear ho hb hg hat))
      go_roundg k1
      case measure => have := HK1.out; omega
      case rel => exact ⟨(y231), (wrap64 (x4_1 - 1)), Zp, H', ⟨(Zo HK1.out)⟩, ⟨(Zr HO233.out)⟩, ⟨Z6⟩⟩
     ·rw [if_neg c6] at H
      exact absurd H Z3
    ·rw [if_neg c4] at H
     exact absurd H Z3
   ·rw [if_neg c2] at H
    have c2b0 := decide_eq_false c2
    clear c2
    obtain rfl := Option.some.inj H
    go_wp2
    go_ret
    exact ⟨_, ZG, (Zr HO_3.out), Z6⟩
def Xy.f (k : Nat) (l0 : List Int) (a1 : Bool) : Option (List Int × Int) := if (l0.length : Int) > 8184 then (some (([] : List Int), 3)) else ((Yx.f k l0).bind fun t234 => ((some (([253, 8, (wrap64 (Int.tdiv t234 256)) % 256, (Int.tmod t234 256) % 256] : List Int) : List Int)).bind fun y235 => (if a1 = true then (if 0 < (y235.length : Int) then ((some (y235.set (0 : Int).toNat 241 : List Int)).bind fun y238 => ((Yn.f k ((wrap64 (8 + (l0.length : Int))) % 4294967296)).bind fun t239 => (if y238.length + t239.length < 140737488355328 then ((some (y238 ++ t239 : List Int)).bind fun y242 => (if y242.length + l0.length < 140737488355328 then (some ((y242 ++ l0), 0)) else (none))) else (none)))) else (none)) else ((Yn.f k ((wrap64 (8 + (l0.length : Int))) % 4294967296)).bind fun t248 => (if y235.length + t248.length < 140737488355328 then ((some (y235 ++ t248 : List Int)).bind fun y251 => (if y251.length + l0.length < 140737488355328 then (some ((y251 ++ l0), 0)) else (none))) else (none))))))
theorem Xy.mono : ∀ a0 a1 k, LeO (Xy.f k a0 a1) (Xy.f (k + 1) a0 a1) := by
 intro a0 a1 k
 unfold Xy.f
 have ih7 := @Yn.mono; have ih6 := @Yx.mono; exact XI
theorem Xy.calls (k : Nat) (A0 : Option Addr) (c0 : Nat) (l0 : List Int) (a1 : Bool) (r1 : List Int) (r2 : Int) (w : World) (hr0 : Kd.C (Kd.int .u8) w A0 l0.length l0) (hc0 : l0.length ≤ c0) (h : Xy.f k l0 a1 = some (r1, r2)) :
 Calls Try.prog 27 #[.slice A0 l0.length c0, .bool a1] w fun e w' => ∃ v0_ : Value, e = .returned (.tuple #[v0_, .int .i64 r2]) ∧ Kd.R (Kd.int .u8) 5 w' w.heap.size (fun _ => True) v0_ r1 ∧ Below w.heap.size w w' := by
 have HR0 := Aside0.mk hr0
 have HC0 := Aside0.mk hc0
 clear hr0 hc0
 have HB := Aside0.mk (Below.refl w.heap.size w)
 have H : (if (l0.length : Int) > 8184 then (some (([] : List Int), 3)) else ((Yx.f k l0).bind fun t234 => ((some (([253, 8, (wrap64 (Int.tdiv t234 256)) % 256, (Int.tmod t234 256) % 256] : List Int) : List Int)).bind fun y235 => (if a1 = true then (if 0 < (y235.length : Int) then ((some (y235.set (0 : Int).toNat 241 : List Int)).bind fun y238 => ((Yn.f k ((wrap64 (8 + (l0.length : Int))) % 4294967296)).bind fun t239 => (if y238.length + t239.length < 140737488355328 then ((some (y238 ++ t239 : List Int)).bind fun y242 => (if y242.length + l0.length < 140737488355328 then (some ((y242 ++ l0), 0)) else (none))) else (none)))) else (none)) else ((Yn.f k ((wrap64 (8 + (l0.length : Int))) % 4294967296)).bind fun t248 => (if y235.length + t248.length < 140737488355328 then ((some (y235 ++ t248 : List Int)).bind fun y251 => (if y251.length + l0.length < 140737488355328 then (some ((y251 ++ l0), 0)) else (none))) else (none))))))) = some (r1, r2) := h
 clear h
 by_cases c3 : (l0.length : Int) > 8184
 ·rw [if_pos c3] at H
  have c3b0 := decide_eq_true c3
  have c3b1 : decide (8184 < l0.length) = true := decide_eq_true Z0
  clear c3
  simp only [Option.some.injEq, Prod.mk.injEq] at H
  obtain ⟨rfl, rfl⟩ := H
  go_enter Try.func27, Try.ntmps27
  go_wp2
  go_ret2
  exact Z2g
 ·rw [if_neg c3] at H
  have c3b0 := decide_eq_false c3
  have c3b1 : decide (8184 < l0.length) = false := decide_eq_false Z0
  clear c3
  replace H := bE H; obtain ⟨t234, A4, H⟩ := H
  obtain ⟨y235, Ny235⟩ := aE (([253, 8, (wrap64 (Int.tdiv t234 256)) % 256, (Int.tmod t234 256) % 256] : List Int)); rw [← Ny235.out] at H; try rw [Option.bind_some] at H
  by_cases c5 : a1 = true
  ·subst c5
   rw [if_pos rfl] at H
   by_cases c6 : 0 < (y235.length : Int)
   ·rw [if_pos c6] at H
    have c6b0 := decide_eq_true c6
    have c6b1 : decide (0 < y235.length) = true := decide_eq_true Z0
    clear c6
    obtain ⟨y238, Ny238⟩ := aE (y235.set (0 : Int).toNat 241); rw [← Ny238.out] at H; try rw [Option.bind_some] at H
    replace H := bE H; obtain ⟨t239, A8, H⟩ := H
    by_cases c9 : y238.length + t239.length < 140737488355328
    ·rw [if_pos c9] at H
     have LMc9 := Aside0.mk c9
     clear c9
     obtain ⟨y242, Ny242⟩ := aE (y238 ++ t239); rw [← Ny242.out] at H; try rw [Option.bind_some] at H
     by_cases c10 : y242.length + l0.length < 140737488355328
     ·rw [if_pos c10] at H
      have LMc10 := Aside0.mk c10
      clear c10
      obtain ⟨y245, Ny245⟩ := aE (y242 ++ l0); rw [← Ny245.out] at H; try rw [Option.bind_some] at H
      simp only [Option.some.injEq, Prod.mk.injEq] at H
      obtain ⟨rfl, rfl⟩ := H
      go_enter Try.func27, Try.ntmps27
      go_wp2_with (first | ((with_reducible refine Ym (f := 52) rfl ?_); refine YL (some 12) rfl rfl Try.func52 Z2 rfl #[.slice A0 l0.length c0] rfl Zb ?_; (with_reducible refine (Yx.calls k _ _ l0 t234 _ ?side1 ?side2 A4.out).mono ?_); (case side1 => exact Z14); (case side2 => exact HC0.out); rintro e w' ⟨rfl, ⟨nd, rfl⟩⟩; refine ⟨_, rfl, ?_⟩) | ((with_reducible refine Vm (N := 19) rfl ?_); refine Kd.R_lit (Kd.int .u8) _ 5 ?hg (N := 19) ?hd (xs := ([253, 8, (wrap64 (Int.tdiv t234 256)) % 256, (Int.tmod t234 256) % 256] : List Int)) (inner := [.int .u8 253, .int .u8 8, .int .u8 ((wrap64 (Int.tdiv t234 256)) % 256), .int .u8 ((Int.tmod t234 256) % 256)]) (ok := fun _ => True) (okp := fun _ => True) ?hr ?hp (fun _ hk => hk) trivial (Below.refl _ _) (Nat.le_refl _) Z3 ?_; (case hd => rfl); (case hg => rfl); (case hr => exact Zx); (case hp => exact (Reps.one (show Kd.M (Kd.int .u8) _ _ _ 253 [.int .u8 253] from rfl) (Reps.one (show Kd.M (Kd.int .u8) _ _ _ 8 [.int .u8 8] from rfl) (Reps.one (show Kd.M (Kd.int .u8) _ _ _ ((wrap64 (Int.tdiv t234 256)) % 256) [.int .u8 ((wrap64 (Int.tdiv t234 256)) % 256)] from rfl) (Reps.one (show Kd.M (Kd.int .u8) _ _ _ ((Int.tmod t234 256) % 256) [.int .u8 ((Int.tmod t234 256) % 256)] from rfl) (Reps.none _ _)))))); intro v236 w11 ho12 hb hg_ hnew_; clear hg_ hnew_; (first | rw [← Ny235.out] at ho12 | (simp only [Int.reduceToNat] at ho12; rw [← Ny235.out] at ho12)); have n0_ := Aside0.mk (Kd.R_lower ho12 (YK Z6)); have n1_ := Aside0.mk (YN Z6 hb); clear HB; have HO237 := n0_; have HB := n1_; clear n0_ n1_; clear hb ho12; have p7 : 0 ≤ (0 : Int) := Z0; have q7 : (0 : Int) < ((y235.length : Int) : Int) := of_decide_eq_true Z5; have qi7 : (0 < y235.length) = True := eq_true Z0; obtain ⟨go7, co7, eo7, gb7, gl7, cl7, HG7⟩ := Kd.R_form HO237.out Z0; (first | cases eo7 | (injection eo7 with ea_ en_ ec_; (first | subst ea_ | (injection ea_ with ea_; subst ea_)); subst ec_; clear en_)); have GB7 := Aside0.mk gb7; have GG7 := Aside0.mk HG7; clear gb7 gl7 HG7; obtain ⟨hx7_0, hf7_0⟩ := Kd.R_celln 0 HO237.out (0 : Int) p7 q7; (try rw [show ((0 : Int)).toNat = 0 from rfl] at hx7_0); (try simp only [Nat.reduceMul, Nat.zero_mul, Nat.zero_add, Nat.reduceAdd] at hx7_0); (try rw [show ((0 : Int)).toNat = 0 from rfl] at hf7_0); (try simp only [Nat.reduceMul, Nat.zero_mul, Nat.zero_add, Nat.reduceAdd] at hf7_0); replace p7 := eq_true p7; replace q7 := eq_true q7; obtain ⟨hy13_, hz13_⟩ := Kd.R_celln 0 HO237.out (0 : Int) Z0 (of_decide_eq_true Z5); (try simp only [Int.reduceToNat, Int.toNat_zero, Int.toNat_ofNat, Nat.reduceMul, Nat.zero_mul, Nat.zero_add] at hy13_ hz13_); (try rw [show ((0 : Int)).toNat = 0 from rfl] at hy13_); (try rw [show ((0 : Int)).toNat = 0 from rfl] at hz13_); have HP13 := Kd.R_putg HO237.out (0 : Int) 241) | ((with_reducible refine Yd0 (t := 5) (p := 22) rfl ?_); refine Ycy (t := 5) (p := 22) (v := ?vo_w14) (w1 := (w11.setCell ⟨go7, (0 : Int).toNat, none⟩ (.int .u8 241))) ?hg ?ho ?hn ?hr ?_; (case ho => rfl); (case hg => rfl); (case hn => rfl); (case hr => exact Zx); intro w14 hw; have hg : w11.grownBy w14 (some go7) := (by rw [hw]; exact HP13.2); have hp_ : Kd.R (Kd.int .u8) 5 w14 w.heap.size (fun _ => True) (.slice (some ⟨go7, 0, none⟩) y235.length co7) y238 := (by rw [hw, Ny238.out]; exact HP13.1); clear HP13; have n0_ := Aside0.mk (hp_); have n1_ := Aside0.mk ((by rw [hw]; exact below_set (HB.out) GB7.out : Below w.heap.size w w14)); clear HO237; clear HB; have HO237 := n0_; have HB := n1_; clear n0_ n1_; clear hg hw hp_) | ((with_reducible refine Ym (f := 53) rfl ?_); refine YL (some 28) rfl rfl Try.func53 Z2 rfl #[.int .u32 ((wrap64 (8 + (l0.length : Int))) % 4294967296)] rfl Zb ?_; (with_reducible refine (Yn.calls k ((wrap64 (8 + (l0.length : Int))) % 4294967296) t239 _ A8.out).mono ?_); rintro e w15 ⟨v240, rfl, ho0, hb⟩; refine ⟨_, rfl, ?_⟩; have n0_ := Aside0.mk (Kd.R_elder' (Zr HO237.out) (Kd.R_base ho0) hb); have n1_ := Aside0.mk (Kd.R_lower (Kd.R_new' ho0 (Kd.R_lt (Zr HO237.out))) (YK Z6)); have n2_ := Aside0.mk (YN Z6 hb); clear HO237; clear HB; have HO237 := n0_; have HO241 := n1_; have HB := n2_; clear n0_ n1_ n2_; (try clear hb); (try clear hb2); (try clear hk); (try clear hi); (try clear ho0); obtain ⟨Ao17, co17, eo17⟩ := Kd.R_slice HO241.out; subst eo17) | ((with_reducible refine Xj (b := .append) (xs := #[.tmp 23, .tmp 28]) rfl ?_); at_builtin; refine Kd.R_append_rows (Kd.int .u8) (w0 := w) w.heap.size rfl (.tmp 23) (.tmp 28) 29 5 (.int .u8 0) 1 rfl Try.underlying29 VL rfl Z1 Z0 (.slice (some ⟨go7, 0, none⟩) y235.length co7) y238 t239 _ _ _ (fun k_ => some k_ ≠ (.slice Ao17 t239.length co17 : Value).ownBlock) (fun _ => False) rfl rfl ?aO ?aR (fun _ _ h => h) (fun _ h => h.elim) ?aF ?aB ?aS ?aL ?_; (case aR => exact (by repeat (first | exact (Kd.R_reads' HO241.out).2.2 | (with_reducible refine Kd.C_alloc ?_ _) | (with_reducible refine Kd.C_drewN ?_ _) | (with_reducible refine Kd.C_drew ?_)))); (case aB => exact Z6); (case aF => exact Z28); (case aO => exact Z23); (case aS => exact (YK Z6)); (case aL => exact (Zo LMc9.out)); intro v243 w16 ho hb hg hat; rw [← Ny242.out] at ho; have n0_ := Aside0.mk (Kd.R_after (ok := (fun _ => True)) (Zr HO241.out) hg hat); have n1_ := Aside0.mk (hb); have n2_ := Aside0.mk (ho); clear HO241; clear HB; clear HO237; have HO241 := n0_; have HB := n1_; have HO244 := n2_; clear n0_ n1_ n2_; clear ho hb hg hat) | ((with_reducible refine Xj (b := .append) (xs := #[.tmp 30, .tmp 31]) rfl ?_); at_builtin; refine Kd.R_append_rows (Kd.int .u8) (w0 := w) w.heap.size rfl (.tmp 30) (.tmp 31) 29 5 (.int .u8 0) 1 rfl Try.underlying29 VL rfl Z1 Z0 v243 y242 l0 _ _ _ (fun k_ => some k_ ≠ (.slice Ao17 t239.length co17 : Value).ownBlock) (fun _ => False) rfl rfl ?aO ?aR (fun _ _ h => h) (fun _ h => h.elim) ?aF ?aB ?aS ?aL ?_; (case aR => exact Z1f); (case aB => exact Z6); (case aF => exact Z28); (case aO => exact (Zr HO244.out)); (case aS => exact (YK Z6)); (case aL => exact (Zo LMc10.out)); intro v246 w18 ho hb hg hat; rw [← Ny245.out] at ho; have n0_ := Aside0.mk (Kd.R_after (ok := (fun _ => True)) (Zr HO241.out) hg hat); have n1_ := Aside0.mk (hb); have n2_ := Aside0.mk (ho); clear HO241; clear HB; clear HO244; have HO241 := n0_; have HB := n1_; have HO247 := n2_; clear n0_ n1_ n2_; clear ho hb hg hat))
      go_ret2
      exact ⟨_, ZG, (by (with_reducible repeat (first | apply Kd.R_alloc | apply Kd.R_drewN | apply Kd.R_drew)); exact Kd.R_mono HO247.out (fun _ hk => trivial)), Z6⟩
     ·rw [if_neg c10] at H
      exact absurd H Z3
    ·rw [if_neg c9] at H
     exact absurd H Z3
   ·rw [if_neg c6] at H
    exact absurd H Z3
  ·replace c5 := Bool.eq_false_iff.mpr c5
   subst c5
   rw [if_neg Z1] at H
   replace H := bE H; obtain ⟨t248, A19, H⟩ := H
   by_cases c20 : y235.length + t248.length < 140737488355328
   ·rw [if_pos c20] at H
    have LMc20 := Aside0.mk c20
    clear c20
    obtain ⟨y251, Ny251⟩ := aE (y235 ++ t248); rw [← Ny251.out] at H; try rw [Option.bind_some] at H
    by_cases c21 : y251.length + l0.length < 140737488355328
    ·rw [if_pos c21] at H
     have LMc21 := Aside0.mk c21
     clear c21
     obtain ⟨y254, Ny254⟩ := aE (y251 ++ l0); rw [← Ny254.out] at H; try rw [Option.bind_some] at H
     simp only [Option.some.injEq, Prod.mk.injEq] at H
     obtain ⟨rfl, rfl⟩ := H
     go_enter Try.func27, Try.ntmps27
     go_wp2_with (first | ((with_reducible refine Ym (f := 52) rfl ?_); refine YL (some 12) rfl rfl Try.func52 Z2 rfl #[.slice A0 l0.length c0] rfl Zb ?_; (with_reducible refine (Yx.calls k _ _ l0 t234 _ ?side1 ?side2 A4.out).mono ?_); (case side1 => exact Z14); (case side2 => exact HC0.out); rintro e w' ⟨rfl, ⟨nd, rfl⟩⟩; refine ⟨_, rfl, ?_⟩) | ((with_reducible refine Vm (N := 19) rfl ?_); refine Kd.R_lit (Kd.int .u8) _ 5 ?hg (N := 19) ?hd (xs := ([253, 8, (wrap64 (Int.tdiv t234 256)) % 256, (Int.tmod t234 256) % 256] : List Int)) (inner := [.int .u8 253, .int .u8 8, .int .u8 ((wrap64 (Int.tdiv t234 256)) % 256), .int .u8 ((Int.tmod t234 256) % 256)]) (ok := fun _ => True) (okp := fun _ => True) ?hr ?hp (fun _ hk => hk) trivial (Below.refl _ _) (Nat.le_refl _) Z3 ?_; (case hd => rfl); (case hg => rfl); (case hr => exact Zx); (case hp => exact (Reps.one (show Kd.M (Kd.int .u8) _ _ _ 253 [.int .u8 253] from rfl) (Reps.one (show Kd.M (Kd.int .u8) _ _ _ 8 [.int .u8 8] from rfl) (Reps.one (show Kd.M (Kd.int .u8) _ _ _ ((wrap64 (Int.tdiv t234 256)) % 256) [.int .u8 ((wrap64 (Int.tdiv t234 256)) % 256)] from rfl) (Reps.one (show Kd.M (Kd.int .u8) _ _ _ ((Int.tmod t234 256) % 256) [.int .u8 ((Int.tmod t234 256) % 256)] from rfl) (Reps.none _ _)))))); intro v236 w22 ho23 hb hg_ hnew_; clear hg_ hnew_; (first | rw [← Ny235.out] at ho23 | (simp only [Int.reduceToNat] at ho23; rw [← Ny235.out] at ho23)); have n0_ := Aside0.mk (Kd.R_lower ho23 (YK Z6)); have n1_ := Aside0.mk (YN Z6 hb); clear HB; have HO237 := n0_; have HB := n1_; clear n0_ n1_; clear hb ho23) | ((with_reducible refine Ym (f := 53) rfl ?_); refine YL (some 28) rfl rfl Try.func53 Z2 rfl #[.int .u32 ((wrap64 (8 + (l0.length : Int))) % 4294967296)] rfl Zb ?_; (with_reducible refine (Yn.calls k ((wrap64 (8 + (l0.length : Int))) % 4294967296) t248 _ A19.out).mono ?_); rintro e w24 ⟨v249, rfl, ho0, hb⟩; refine ⟨_, rfl, ?_⟩; have n0_ := Aside0.mk (Kd.R_elder' (Zr HO237.out) (Kd.R_base ho0) hb); have n1_ := Aside0.mk (Kd.R_lower (Kd.R_new' ho0 (Kd.R_lt (Zr HO237.out))) (YK Z6)); have n2_ := Aside0.mk (YN Z6 hb); clear HO237; clear HB; have HO237 := n0_; have HO250 := n1_; have HB := n2_; clear n0_ n1_ n2_; (try clear hb); (try clear hb2); (try clear hk); (try clear hi); (try clear ho0); obtain ⟨Ao26, co26, eo26⟩ := Kd.R_slice HO250.out; subst eo26) | ((with_reducible refine Xj (b := .append) (xs := #[.tmp 23, .tmp 28]) rfl ?_); at_builtin; refine Kd.R_append_rows (Kd.int .u8) (w0 := w) w.heap.size rfl (.tmp 23) (.tmp 28) 29 5 (.int .u8 0) 1 rfl Try.underlying29 VL rfl Z1 Z0 v236 y235 t248 _ _ _ (fun k_ => some k_ ≠ (.slice Ao26 t248.length co26 : Value).ownBlock) (fun _ => False) rfl rfl ?aO ?aR (fun _ _ h => h) (fun _ h => h.elim) ?aF ?aB ?aS ?aL ?_; (case aR => exact (by repeat (first | exact (Kd.R_reads' HO250.out).2.2 | (with_reducible refine Kd.C_alloc ?_ _) | (with_reducible refine Kd.C_drewN ?_ _) | (with_reducible refine Kd.C_drew ?_)))); (case aB => exact Z6); (case aF => exact Z29); (case aO => exact Z23); (case aS => exact (YK Z6)); (case aL => exact (Zo LMc20.out)); intro v252 w25 ho hb hg hat; rw [← Ny251.out] at ho; have n0_ := Aside0.mk (Kd.R_after (ok := (fun _ => True)) (Zr HO250.out) hg hat); have n1_ := Aside0.mk (hb); have n2_ := Aside0.mk (ho); clear HO250; clear HB; clear HO237; have HO250 := n0_; have HB := n1_; have HO253 := n2_; clear n0_ n1_ n2_; clear ho hb hg hat) | ((with_reducible refine Xj (b := .append) (xs := #[.tmp 30, .tmp 31]) rfl ?_); at_builtin; refine Kd.R_append_rows (Kd.int .u8) (w0 := w) w.heap.size rfl (.tmp 30) (.tmp 31) 29 5 (.int .u8 0) 1 rfl Try.underlying29 VL rfl Z1 Z0 v252 y251 l0 _ _ _ (fun k_ => some k_ ≠ (.slice Ao26 t248.length co26 : Value).ownBlock) (fun _ => False) rfl rfl ?aO ?aR (fun _ _ h => h) (fun _ h => h.elim) ?aF ?aB ?aS ?aL ?_; (case aR => exact Z1f); (case aB => exact Z6); (case aF => exact Z29); (case aO => exact (Zr HO253.out)); (case aS => exact (YK Z6)); (case aL => exact (Zo LMc21.out)); intro v255 w27 ho hb hg hat; rw [← Ny254.out] at ho; have n0_ := Aside0.mk (Kd.R_after (ok := (fun _ => True)) (Zr HO250.out) hg hat); have n1_ := Aside0.mk (hb); have n2_ := Aside0.mk (ho); clear HO250; clear HB; clear HO253; have HO250 := n0_; have HB := n1_; have HO256 := n2_; clear n0_ n1_ n2_; clear ho hb hg hat))
     go_ret2
     exact ⟨_, ZG, (by (with_reducible repeat (first | apply Kd.R_alloc | apply Kd.R_drewN | apply Kd.R_drew)); exact Kd.R_mono HO256.out (fun _ hk => trivial)), Z6⟩
    ·rw [if_neg c21] at H
     exact absurd H Z3
   ·rw [if_neg c20] at H
    exact absurd H Z3
end Go.Proofs.Ytehmhgpogpbjiaa.PFccTokens
