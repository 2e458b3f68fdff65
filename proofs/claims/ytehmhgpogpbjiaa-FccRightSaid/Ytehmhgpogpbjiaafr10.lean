import Derived.Test.Ytehmhgpogpbjiaafr09
set_option linter.unusedVariables false
set_option linter.unusedSimpArgs false
set_option maxRecDepth 100000
set_option maxHeartbeats 8000000
namespace Go.Proofs.Ytehmhgpogpbjiaa.PFccTokens
open Go.RowKit Go.Proofs.YtehmhgpogpbjiaaW.PrintWords Go.Proofs.YtehmhgpogpbjiaaW.PrintLast Go.Proofs.YtehmhgpogpbjiaaW.PrintMore
attribute [local go_sem] Vx Vv VV VU Ve Vd Vw Vu
def Xb.f (a0 : ByteArray) (a1 : Int) : Option (Bool) := if a1 ≥ 0 then (if a1 < (a0.size : Int) then (if 0 ≤ a1 then (some (decide ((bt a0 a1) ≤ 32))) else (none)) else (some false)) else (some false)
theorem Xb.calls (a0 : ByteArray) (a1 : Int) (r : Bool) (w : World) (h : Xb.f a0 a1 = some r) :
 Calls Try.prog 41 #[.string a0, .int .i64 a1] w fun e w' => e = .returned (.bool r) ∧ YZ w w' := by
 have H : (if a1 ≥ 0 then (if a1 < (a0.size : Int) then (if 0 ≤ a1 then (some (decide ((bt a0 a1) ≤ 32))) else (none)) else (some false)) else (some false)) = some r := h
 clear h
 by_cases c3 : a1 ≥ 0
 ·rw [if_pos c3] at H
  have c3b0 := decide_eq_true c3
  clear c3
  by_cases c4 : a1 < (a0.size : Int)
  ·rw [if_pos c4] at H
   have c4b0 := decide_eq_true c4
   clear c4
   by_cases c5 : 0 ≤ a1
   ·rw [if_pos c5] at H
    have c5b0 := decide_eq_true c5
    clear c5
    obtain rfl := Option.some.inj H
    have p6 : 0 ≤ (a1 : Int) := of_decide_eq_true Z5
    have q6 : a1 < (a0.size : Int) := of_decide_eq_true Z5
    have hx6 := XD a0 a1
    replace p6 := eq_true p6
    replace q6 := eq_true q6
    go_enter Try.func41, Try.ntmps41
    go_wp2
    go_ret
    exact Zc
   ·rw [if_neg c5] at H
    exact absurd H Z3
  ·rw [if_neg c4] at H
   have c4b0 := decide_eq_false c4
   clear c4
   obtain rfl := Option.some.inj H
   go_enter Try.func41, Try.ntmps41
   go_wp2
   go_ret
   exact Zc
 ·rw [if_neg c3] at H
  have c3b0 := decide_eq_false c3
  clear c3
  obtain rfl := Option.some.inj H
  go_enter Try.func41, Try.ntmps41
  go_wp2
  go_ret
  exact Zc
def YI.f (a0 : ByteArray) : Option (Bool) := if a0.toList = ([92] : List UInt8) then (some true) else (if a0.toList = ([40] : List UInt8) then (some true) else (if a0.toList = ([46, 40] : List UInt8) then (some true) else (if a0.toList = ([34] : List UInt8) then (some true) else (some (a0.toList == ([46, 34] : List UInt8))))))
theorem YI.calls (a0 : ByteArray) (r : Bool) (w : World) (h : YI.f a0 = some r) :
 Calls Try.prog 42 #[.string a0] w fun e w' => e = .returned (.bool r) ∧ YZ w w' := by
 have H : (if a0.toList = ([92] : List UInt8) then (some true) else (if a0.toList = ([40] : List UInt8) then (some true) else (if a0.toList = ([46, 40] : List UInt8) then (some true) else (if a0.toList = ([34] : List UInt8) then (some true) else (some (a0.toList == ([46, 34] : List UInt8))))))) = some r := h
 clear h
 by_cases c2 : a0.toList = ([92] : List UInt8)
 ·rw [if_pos c2] at H
  obtain ⟨c2b0, c2b1⟩ := eqB c2
  clear c2
  obtain rfl := Option.some.inj H
  go_enter Try.func42, Try.ntmps42
  go_wp2
  go_ret
  exact Zc
 ·rw [if_neg c2] at H
  obtain ⟨c2b0, c2b1⟩ := neB c2
  by_cases c3 : a0.toList = ([40] : List UInt8)
  ·rw [if_pos c3] at H
   obtain ⟨c3b0, c3b1⟩ := eqB c3
   clear c3
   obtain rfl := Option.some.inj H
   go_enter Try.func42, Try.ntmps42
   go_wp2
   go_ret
   exact Zc
  ·rw [if_neg c3] at H
   obtain ⟨c3b0, c3b1⟩ := neB c3
   by_cases c4 : a0.toList = ([46, 40] : List UInt8)
   ·rw [if_pos c4] at H
    obtain ⟨c4b0, c4b1⟩ := eqB c4
    clear c4
    obtain rfl := Option.some.inj H
    go_enter Try.func42, Try.ntmps42
    go_wp2
    go_ret
    exact Zc
   ·rw [if_neg c4] at H
    obtain ⟨c4b0, c4b1⟩ := neB c4
    by_cases c5 : a0.toList = ([34] : List UInt8)
    ·rw [if_pos c5] at H
     obtain ⟨c5b0, c5b1⟩ := eqB c5
     clear c5
     obtain rfl := Option.some.inj H
     go_enter Try.func42, Try.ntmps42
     go_wp2
     go_ret
     exact Zc
    ·rw [if_neg c5] at H
     obtain ⟨c5b0, c5b1⟩ := neB c5
     obtain rfl := Option.some.inj H
     go_enter Try.func42, Try.ntmps42
     go_wp2
     go_ret
     exact Zc
def YB.f (a0 : Int) : Option (Int) := if a0 ≥ 65 then (if a0 ≤ 90 then (some ((a0 + 32) % 256)) else (some a0)) else (some a0)
theorem YB.calls (a0 : Int) (r : Int) (w : World) (h : YB.f a0 = some r) :
 Calls Try.prog 68 #[.int .u8 a0] w fun e w' => e = .returned (.int .u8 r) ∧ YZ w w' := by
 have H : (if a0 ≥ 65 then (if a0 ≤ 90 then (some ((a0 + 32) % 256)) else (some a0)) else (some a0)) = some r := h
 clear h
 by_cases c2 : a0 ≥ 65
 ·rw [if_pos c2] at H
  have c2b0 := decide_eq_true c2
  clear c2
  by_cases c3 : a0 ≤ 90
  ·rw [if_pos c3] at H
   have c3b0 := decide_eq_true c3
   clear c3
   obtain rfl := Option.some.inj H
   go_enter Try.func68, Try.ntmps68
   go_wp2
   go_ret
   exact Zc
  ·rw [if_neg c3] at H
   have c3b0 := decide_eq_false c3
   clear c3
   obtain rfl := Option.some.inj H
   go_enter Try.func68, Try.ntmps68
   go_wp2
   go_ret
   exact Zc
 ·rw [if_neg c2] at H
  have c2b0 := decide_eq_false c2
  clear c2
  obtain rfl := Option.some.inj H
  go_enter Try.func68, Try.ntmps68
  go_wp2
  go_ret
  exact Zc
def Ys.l0 : Nat → ByteArray → List Int → Int → Option (ByteArray)
 | 0, _, _, _ => none
 | k + 1, x0, x3, x4 => if x4 < (x0.size : Int) then (if 0 ≤ x4 then ((YB.f (bt x0 x4)).bind fun t310 => (if x3.length < 140737488355328 then (Ys.l0 k x0 (x3 ++ [t310]) (wrap64 (x4 + 1))) else (none))) else (none)) else (some (strOfNums x3))
def Ys.f (k : Nat) (a0 : ByteArray) : Option (ByteArray) := Ys.l0 k a0 ([] : List Int) 0
theorem Ys.mono_l : ∀ k, (∀ y0 y1 y2, LeO (Ys.l0 k y0 y1 y2) (Ys.l0 (k + 1) y0 y1 y2))
 | 0 => fun _ _ _ r h => by simp [Ys.l0] at h
 | k + 1 => by
  have ih0 := Ys.mono_l k
  ·intro y0 y1 y2
   unfold Ys.l0
   exact XI
theorem Ys.mono : ∀ a0 k, LeO (Ys.f k a0) (Ys.f (k + 1) a0) := by
 intro a0 k
 have ih0 := Ys.mono_l k
 unfold Ys.f
 exact XI
theorem Ys.calls (k : Nat) (a0 : ByteArray) (r : ByteArray) (w : World) (h : Ys.f k a0 = some r) :
 Calls Try.prog 43 #[.string a0] w fun e w' => e = .returned (.string r) ∧ Below w.heap.size w w' := by
 have HB := Aside0.mk (Below.refl w.heap.size w)
 have H : (Ys.l0 k a0 ([] : List Int) 0) = some r := h
 clear h
 have H' := Aside0.mk H
 clear H
 go_enter Try.func43, Try.ntmps43
 go_wp2
 go_loopg [3, 4] k (fun kq v3 v4 w' => ∃ (x3_1 : List Int) (x4_1 : Int), v4 = .int .i64 x4_1 ∧ Aside0 (Ys.l0 kq a0 x3_1 x4_1 = some r) ∧ Aside0 (kq ≤ k) ∧ Aside0 (Kd.R (Kd.int .u8) 5 w' w.heap.size (fun _ => True) v3 x3_1) ∧ Aside0 (Below w.heap.size w w'))
 case atStart => exact ⟨(([] : List Int)), (0), Z4, H', ⟨Nat.le_refl _⟩, ⟨Zl⟩, ⟨Z6⟩⟩
 case round =>
  clear H'
  obtain ⟨x3_1, x4_1, rfl, HA, HK1, HO_3, HB⟩ := hrel
  cases gk with
  | zero => exact absurd HA.out (by simp [Ys.l0])
  | succ k1 =>
   have H := HA.out
   clear HA
   simp only [Ys.l0] at H
   by_cases c2 : x4_1 < (a0.size : Int)
   ·rw [if_pos c2] at H
    have c2b0 := decide_eq_true c2
    clear c2
    by_cases c3 : 0 ≤ x4_1
    ·rw [if_pos c3] at H
     have c3b0 := decide_eq_true c3
     clear c3
     replace H := bE H; obtain ⟨t310, A5, H⟩ := H
     by_cases c6 : x3_1.length < 140737488355328
     ·rw [if_pos c6] at H
      have LMc6 := Aside0.mk c6
      clear c6
      obtain ⟨y311, Ny311⟩ := aE (x3_1 ++ [t310]); rw [← Ny311.out] at H; try rw [Option.bind_some] at H
      have H' := Aside0.mk H
      clear H
      have p4 : 0 ≤ (x4_1 : Int) := of_decide_eq_true Z5
      have q4 : x4_1 < (a0.size : Int) := of_decide_eq_true Z5
      have hx4 := XD a0 x4_1
      replace p4 := eq_true p4
      replace q4 := eq_true q4
      go_wp2_with (first | ((with_reducible refine Ym (f := 68) rfl ?_); refine YL (some 15) rfl rfl Try.func68 Z2 rfl #[.int .u8 (bt a0 x4_1)] rfl Zb ?_; (with_reducible refine (YB.calls (bt a0 x4_1) t310 _ A5.out).mono ?_); rintro e w' ⟨rfl, ⟨nd, rfl⟩⟩; refine ⟨_, rfl, ?_⟩) | ((with_reducible refine Xj (b := .append) (xs := #[.tmp 11, .tmp 16]) rfl ?_); at_builtin; refine Kd.R_append (Kd.int .u8) (w0 := w) w.heap.size rfl (.tmp 11) (.tmp 16) 29 5 (.int .u8 0) 1 rfl Try.underlying29 VL rfl Z1 Z0 u3 x3_1 t310 [.int .u8 t310] (fun _ => True) (fun _ => False) rfl rfl ?aP (fun _ hk => hk.elim) ?aF ?aO ?aB ?aS ?aL ?_; (case aP => exact rfl); (case aB => exact Z6); (case aF => exact (fun _ _ => trivial)); (case aO => exact (Zr HO_3.out)); (case aS => exact (YK Z6)); (case aL => exact (Zo LMc6.out)); intro v312 w7 ho hb hg hat; rw [← Ny311.out] at ho; have n0_ := Aside0.mk (hb); have n1_ := Aside0.mk (ho); clear HB; clear HO_3; have HB := n0_; have HO313 := n1_; clear n0_ n1_; clear ho hb hg hat))
      go_roundg k1
      case measure => have := HK1.out; omega
      case rel => exact ⟨(y311), (wrap64 (x4_1 + 1)), Z4, H', ⟨(Zo HK1.out)⟩, ⟨(Zr HO313.out)⟩, ⟨Z6⟩⟩
     ·rw [if_neg c6] at H
      exact absurd H Z3
    ·rw [if_neg c3] at H
     exact absurd H Z3
   ·rw [if_neg c2] at H
    have c2b0 := decide_eq_false c2
    clear c2
    obtain rfl := Option.some.inj H
    have hcv8 := JC (P := Try.prog) Try.underlying29 Try.underlying5 Try.underlying9 (Kd.own_of_R HO_3.out)
    go_wp2
    go_ret
    exact Z12
def Yl.l0 : Nat → ByteArray → Int → Int → Option (Int)
 | 0, _, _, _ => none
 | k + 1, x0, x1, x2 => if x1 < (x0.size : Int) then (if 0 ≤ x1 then (if (bt x0 x1) = x2 then (some (mn x1 (x0.size : Int))) else (Yl.l0 k x0 (wrap64 (x1 + 1)) x2)) else (none)) else (some (mn x1 (x0.size : Int)))
def Yl.f (k : Nat) (a0 : ByteArray) (a1 : Int) (a2 : Int) : Option (Int) := Yl.l0 k a0 a1 a2
theorem Yl.mono_l : ∀ k, (∀ y0 y1 y2, LeO (Yl.l0 k y0 y1 y2) (Yl.l0 (k + 1) y0 y1 y2))
 | 0 => fun _ _ _ r h => by simp [Yl.l0] at h
 | k + 1 => by
  have ih0 := Yl.mono_l k
  ·intro y0 y1 y2
   unfold Yl.l0
   exact XI
theorem Yl.mono : ∀ a0 a1 a2 k, LeO (Yl.f k a0 a1 a2) (Yl.f (k + 1) a0 a1 a2) := by
 intro a0 a1 a2 k
 have ih0 := Yl.mono_l k
 unfold Yl.f
 exact XI
theorem Yl.calls (k : Nat) (a0 : ByteArray) (a1 : Int) (a2 : Int) (r : Int) (w : World) (h : Yl.f k a0 a1 a2 = some r) :
 Calls Try.prog 44 #[.string a0, .int .i64 a1, .int .u8 a2] w fun e w' => e = .returned (.int .i64 r) ∧ Below w.heap.size w w' := by
 have HB := Aside0.mk (Below.refl w.heap.size w)
 have H : (Yl.l0 k a0 a1 a2) = some r := h
 clear h
 have H' := Aside0.mk H
 clear H
 go_enter Try.func44, Try.ntmps44
 go_wp2
 go_loopg [1] k (fun kq v1 w' => ∃ (x1_1 : Int), v1 = .int .i64 x1_1 ∧ Aside0 (Yl.l0 kq a0 x1_1 a2 = some r) ∧ Aside0 (kq ≤ k) ∧ Aside0 (Below w.heap.size w w'))
 case atStart => exact ⟨(a1), Z4, H', ⟨Nat.le_refl _⟩, ⟨Z6⟩⟩
 case round =>
  clear H'
  try clear p2
  obtain ⟨x1_1, rfl, HA, HK1, HB⟩ := hrel
  cases gk with
  | zero => exact absurd HA.out (by simp [Yl.l0])
  | succ k1 =>
   have H := HA.out
   clear HA
   simp only [Yl.l0] at H
   by_cases c4 : x1_1 < (a0.size : Int)
   ·rw [if_pos c4] at H
    have c4b0 := decide_eq_true c4
    clear c4
    by_cases c5 : 0 ≤ x1_1
    ·rw [if_pos c5] at H
     have c5b0 := decide_eq_true c5
     clear c5
     by_cases c7 : (bt a0 x1_1) = a2
     ·rw [if_pos c7] at H
      obtain ⟨c7b0, c7b1⟩ := eqB c7
      clear c7
      obtain ⟨ji8, hji8⟩ : ∃ j_ : Int, (mn x1_1 (a0.size : Int)) = j_ := ⟨_, rfl⟩
      replace H : (some ji8) = some r := by first | (rw [hji8] at H; exact H) | (simp only [hji8] at H ⊢; exact H)
      have hji8_ : (if (a0.size : Int) < x1_1 then (a0.size : Int) else x1_1) = ji8 := hji8
      obtain rfl := Option.some.inj H
      have p6 : 0 ≤ (x1_1 : Int) := of_decide_eq_true Z5
      have q6 : x1_1 < (a0.size : Int) := of_decide_eq_true Z5
      have hx6 := XD a0 x1_1
      replace p6 := eq_true p6
      replace q6 := eq_true q6
      go_wp2
      go_ret
      exact ⟨(by first | rfl | (simp [Xv, Xu] <;> rfl) | (simp only [← hji8]; first | rfl | (simp [Xv, Xu] <;> rfl)) | (simp [*, Xv, Xu] <;> rfl) | (simp [Xv, Xu] <;> omega) | (simp [*, Xv, Xu] <;> omega)), Z6⟩
     ·rw [if_neg c7] at H
      obtain ⟨c7b0, c7b1⟩ := neB c7
      have H' := Aside0.mk H
      clear H
      have p6 : 0 ≤ (x1_1 : Int) := of_decide_eq_true Z5
      have q6 : x1_1 < (a0.size : Int) := of_decide_eq_true Z5
      have hx6 := XD a0 x1_1
      replace p6 := eq_true p6
      replace q6 := eq_true q6
      go_wp2
      go_roundg k1
      case measure => have := HK1.out; omega
      case rel => exact ⟨(wrap64 (x1_1 + 1)), Z4, H', ⟨(Zo HK1.out)⟩, ⟨Z6⟩⟩
    ·rw [if_neg c5] at H
     exact absurd H Z3
   ·rw [if_neg c4] at H
    have c4b0 := decide_eq_false c4
    clear c4
    obtain ⟨ji9, hji9⟩ : ∃ j_ : Int, (mn x1_1 (a0.size : Int)) = j_ := ⟨_, rfl⟩
    replace H : (some ji9) = some r := by first | (rw [hji9] at H; exact H) | (simp only [hji9] at H ⊢; exact H)
    have hji9_ : (if (a0.size : Int) < x1_1 then (a0.size : Int) else x1_1) = ji9 := hji9
    obtain rfl := Option.some.inj H
    go_wp2
    go_ret
    exact ⟨(by first | rfl | (simp [Xv, Xu] <;> rfl) | (simp only [← hji9]; first | rfl | (simp [Xv, Xu] <;> rfl)) | (simp [*, Xv, Xu] <;> rfl) | (simp [Xv, Xu] <;> omega) | (simp [*, Xv, Xu] <;> omega)), Z6⟩
mutual
def Yi.j0 : Nat → Int → Int → Bool → Option (Int × Bool)
 | 0, _, _, _ => none
 | k + 1, x0, x1, x12 => if x12 = true then (some (0, false)) else (Yi.l0 k x0 x1 0)
def Yi.l0 : Nat → Int → Int → Int → Option (Int × Bool)
 | 0, _, _, _ => none
 | k + 1, x0, x1, x6 => if x6 < (wrap64 (x1)) then (if 0 ≤ x6 then (if x6 < 36 then ((YB.f x0).bind fun t314 => (if (bt (⟨#[48, 49, 50, 51, 52, 53, 54, 55, 56, 57, 97, 98, 99, 100, 101, 102, 103, 104, 105, 106, 107, 108, 109, 110, 111, 112, 113, 114, 115, 116, 117, 118, 119, 120, 121, 122]⟩ : ByteArray) x6) = t314 then (some ((x6) % 4294967296, true)) else (Yi.l0 k x0 x1 (wrap64 (x6 + 1))))) else (none)) else (none)) else (some (0, false))
end
def Yi.f (k : Nat) (a0 : Int) (a1 : Int) : Option (Int × Bool) := if a1 < 2 then (Yi.j0 k a0 a1 true) else (Yi.j0 k a0 a1 (decide (a1 > 36)))
theorem Yi.mono_l : ∀ k, (∀ y0 y1 y2, LeO (Yi.j0 k y0 y1 y2) (Yi.j0 (k + 1) y0 y1 y2)) ∧ (∀ y0 y1 y2, LeO (Yi.l0 k y0 y1 y2) (Yi.l0 (k + 1) y0 y1 y2))
 | 0 => ⟨fun _ _ _ r h => by simp [Yi.j0] at h, fun _ _ _ r h => by simp [Yi.l0] at h⟩
 | k + 1 => by
  obtain ⟨ih0, ih1⟩ := Yi.mono_l k
  refine ⟨?_, ?_⟩
  ·intro y0 y1 y2
   unfold Yi.j0
   exact XI
  ·intro y0 y1 y2
   unfold Yi.l0
   exact XI
theorem Yi.mono : ∀ a0 a1 k, LeO (Yi.f k a0 a1) (Yi.f (k + 1) a0 a1) := by
 intro a0 a1 k
 obtain ⟨ih0, ih1⟩ := Yi.mono_l k
 unfold Yi.f
 exact XI
theorem Yi.calls (k : Nat) (a0 : Int) (a1 : Int) (r1 : Int) (r2 : Bool) (w : World) (h : Yi.f k a0 a1 = some (r1, r2)) :
 Calls Try.prog 93 #[.int .u8 a0, .int .u32 a1] w fun e w' => e = .returned (.tuple #[.int .u32 r1, .bool r2]) ∧ YZ w w' := by
 have H : (if a1 < 2 then (Yi.j0 k a0 a1 true) else (Yi.j0 k a0 a1 (decide (a1 > 36)))) = some (r1, r2) := h
 clear h
 have HC3 := Aside0.mk H
 clear H
 go_enter Try.func93, Try.ntmps93
 go_upto_region 1 with (fail)
 repeat (go_quiet (fail); go_upto_region 1 with (fail))
 go_cut [12] (fun v12 wc => ∃ (kq : Nat) (x12_2 : Bool), v12 = .bool x12_2 ∧ Aside0 (Yi.j0 kq a0 a1 x12_2 = some (r1, r2)) ∧ Aside0 (kq ≤ k) ∧ YZ w wc)
 case first =>
  have H := HC3.out
  clear HC3
  by_cases c4 : a1 < 2
  ·rw [if_pos c4] at H
   have c4b0 := decide_eq_true c4
   clear c4
   (first | rw [c4b0] | (simp only [YH, YJ]; rw [c4b0]) | skip)
   have H' := Aside0.mk H
   clear H
   go_wp2
   repeat (go_quiet (fail); try go_wp2)
   go_meet
   case rel => exact ⟨_, (true), Z4, H', ⟨ZD⟩, Z8⟩
  ·rw [if_neg c4] at H
   have c4b0 := decide_eq_false c4
   clear c4
   (first | rw [c4b0] | (simp only [YH, YJ]; rw [c4b0]) | skip)
   have H' := Aside0.mk H
   clear H
   go_wp2
   repeat (go_quiet (fail); try go_wp2)
   go_meet
   case rel => exact ⟨_, (decide (a1 > 36)), Z4, H', ⟨ZD⟩, Z8⟩
 case rest =>
  clear HC3
  try clear p2
  try clear c4
  try clear c4b0
  obtain ⟨kq, x12_2, rfl, HA, HJ2, ⟨mc2, rfl⟩⟩ := hcut
  cases kq with
  | zero => exact absurd HA.out (by simp [Yi.j0])
  | succ kj2 =>
   have H := HA.out
   clear HA
   simp only [Yi.j0] at H
   by_cases c5 : x12_2 = true
   ·subst c5
    rw [if_pos rfl] at H
    simp only [Option.some.injEq, Prod.mk.injEq] at H
    obtain ⟨rfl, rfl⟩ := H
    go_wp2
    repeat (go_quiet (fail); try go_wp2)
    go_ret2
    exact Zc
   ·replace c5 := Bool.eq_false_iff.mpr c5
    subst c5
    rw [if_neg Z1] at H
    have H' := Aside0.mk H
    clear H
    go_wp2
    repeat (go_quiet (fail); try go_wp2)
    go_loopg [6] kj2 (fun kq v6 w' => ∃ (x6_2 : Int), v6 = .int .i64 x6_2 ∧ Aside0 (Yi.l0 kq a0 a1 x6_2 = some (r1, r2)) ∧ Aside0 (kq ≤ kj2) ∧ YZ w w')
    case atStart => exact ⟨(0), Z4, H', ⟨Nat.le_refl _⟩, Z8⟩
    case round =>
     clear H'
     try clear c2
     try clear p2
     try clear c4
     try clear c4b0
     try clear c5
     try clear p2
     obtain ⟨x6_2, rfl, HA, HK2, ⟨m2, rfl⟩⟩ := hrel
     cases gk with
     | zero => exact absurd HA.out (by simp [Yi.l0])
     | succ k2 =>
      have H := HA.out
      clear HA
      simp only [Yi.l0] at H
      by_cases c6 : x6_2 < (wrap64 (a1))
      ·rw [if_pos c6] at H
       have c6b0 := decide_eq_true c6
       clear c6
       by_cases c7 : 0 ≤ x6_2
       ·rw [if_pos c7] at H
        have c7b0 := decide_eq_true c7
        clear c7
        by_cases c8 : x6_2 < 36
        ·rw [if_pos c8] at H
         have c8b0 := decide_eq_true c8
         clear c8
         replace H := bE H; obtain ⟨t314, A10, H⟩ := H
         by_cases c11 : (bt (⟨#[48, 49, 50, 51, 52, 53, 54, 55, 56, 57, 97, 98, 99, 100, 101, 102, 103, 104, 105, 106, 107, 108, 109, 110, 111, 112, 113, 114, 115, 116, 117, 118, 119, 120, 121, 122]⟩ : ByteArray) x6_2) = t314
         ·rw [if_pos c11] at H
          obtain ⟨c11b0, c11b1⟩ := eqB c11
          clear c11
          simp only [Option.some.injEq, Prod.mk.injEq] at H
          obtain ⟨rfl, rfl⟩ := H
          have p9 : 0 ≤ (x6_2 : Int) := of_decide_eq_true Z5
          have q9 : x6_2 < (36 : Int) := of_decide_eq_true Z5
          have hx9 := XD (⟨#[48, 49, 50, 51, 52, 53, 54, 55, 56, 57, 97, 98, 99, 100, 101, 102, 103, 104, 105, 106, 107, 108, 109, 110, 111, 112, 113, 114, 115, 116, 117, 118, 119, 120, 121, 122]⟩ : ByteArray) x6_2
          replace p9 := eq_true p9
          replace q9 := eq_true q9
          go_wp2_with (first | (go_at_call 68; (with_reducible refine (YB.calls a0 t314 _ A10.out).mono ?_); rintro e w' ⟨rfl, ⟨nd, rfl⟩⟩; (try first | exact ⟨rfl, _, World.drewN_drewN _ _ _⟩ | exact ⟨rfl, _, Eq.trans (World.drewN_drewN _ _ _) (congrArg (World.drewN _) (Nat.add_assoc _ _ _))⟩)))
          repeat (go_quiet (first | (go_at_call 68; (with_reducible refine (YB.calls a0 t314 _ A10.out).mono ?_); rintro e w' ⟨rfl, ⟨nd, rfl⟩⟩; (try first | exact ⟨rfl, _, World.drewN_drewN _ _ _⟩ | exact ⟨rfl, _, Eq.trans (World.drewN_drewN _ _ _) (congrArg (World.drewN _) (Nat.add_assoc _ _ _))⟩))); try go_wp2_with (first | (go_at_call 68; (with_reducible refine (YB.calls a0 t314 _ A10.out).mono ?_); rintro e w' ⟨rfl, ⟨nd, rfl⟩⟩; (try first | exact ⟨rfl, _, World.drewN_drewN _ _ _⟩ | exact ⟨rfl, _, Eq.trans (World.drewN_drewN _ _ _) (congrArg (World.drewN _) (Nat.add_assoc _ _ _))⟩))))
          go_ret2
          exact Zc
         ·rw [if_neg c11] at H
          obtain ⟨c11b0, c11b1⟩ := neB c11
          have H' := Aside0.mk H
          clear H
          have p9 : 0 ≤ (x6_2 : Int) := of_decide_eq_true Z5
          have q9 : x6_2 < (36 : Int) := of_decide_eq_true Z5
          have hx9 := XD (⟨#[48, 49, 50, 51, 52, 53, 54, 55, 56, 57, 97, 98, 99, 100, 101, 102, 103, 104, 105, 106, 107, 108, 109, 110, 111, 112, 113, 114, 115, 116, 117, 118, 119, 120, 121, 122]⟩ : ByteArray) x6_2
          replace p9 := eq_true p9
          replace q9 := eq_true q9
          go_wp2_with (first | (go_at_call 68; (with_reducible refine (YB.calls a0 t314 _ A10.out).mono ?_); rintro e w' ⟨rfl, ⟨nd, rfl⟩⟩; (try first | exact ⟨rfl, _, World.drewN_drewN _ _ _⟩ | exact ⟨rfl, _, Eq.trans (World.drewN_drewN _ _ _) (congrArg (World.drewN _) (Nat.add_assoc _ _ _))⟩)))
          repeat (go_quiet (first | (go_at_call 68; (with_reducible refine (YB.calls a0 t314 _ A10.out).mono ?_); rintro e w' ⟨rfl, ⟨nd, rfl⟩⟩; (try first | exact ⟨rfl, _, World.drewN_drewN _ _ _⟩ | exact ⟨rfl, _, Eq.trans (World.drewN_drewN _ _ _) (congrArg (World.drewN _) (Nat.add_assoc _ _ _))⟩))); try go_wp2_with (first | (go_at_call 68; (with_reducible refine (YB.calls a0 t314 _ A10.out).mono ?_); rintro e w' ⟨rfl, ⟨nd, rfl⟩⟩; (try first | exact ⟨rfl, _, World.drewN_drewN _ _ _⟩ | exact ⟨rfl, _, Eq.trans (World.drewN_drewN _ _ _) (congrArg (World.drewN _) (Nat.add_assoc _ _ _))⟩))))
          go_roundg k2
          case measure => have := HJ2.out; have := HK2.out; omega
          case rel => exact ⟨(wrap64 (x6_2 + 1)), Z4, H', ⟨(Zo (And.intro HJ2.out HK2.out))⟩, Z8⟩
        ·rw [if_neg c8] at H
         exact absurd H Z3
       ·rw [if_neg c7] at H
        exact absurd H Z3
      ·rw [if_neg c6] at H
       have c6b0 := decide_eq_false c6
       clear c6
       simp only [Option.some.injEq, Prod.mk.injEq] at H
       obtain ⟨rfl, rfl⟩ := H
       go_wp2
       repeat (go_quiet (fail); try go_wp2)
       go_ret2
       exact Zc
def Yj.l0 : Nat → ByteArray → List Int → Int → Bool → Int → Option (List Int × Bool)
 | 0, _, _, _, _, _ => none
 | k + 1, x0, x4, x5, x6, x7 => if x7 < (x0.size : Int) then (if 0 ≤ x7 then (if (bt x0 x7) ≤ 32 then (Yj.l0 k x0 x4 x5 x6 (wrap64 (x7 + 1))) else ((Yi.f k (bt x0 x7) 16).bind fun bt315 => (if bt315.2 = true then (if x6 = true then (if x4.length < 140737488355328 then (Yj.l0 k x0 (x4 ++ [((((x5 * 16) % 4294967296) + bt315.1) % 4294967296) % 256]) bt315.1 (!x6) (wrap64 (x7 + 1))) else (none)) else (Yj.l0 k x0 x4 bt315.1 (!x6) (wrap64 (x7 + 1)))) else (some (([] : List Int), false))))) else (none)) else (some (x4, !x6))
def Yj.f (k : Nat) (a0 : ByteArray) : Option (List Int × Bool) := Yj.l0 k a0 ([] : List Int) 0 false 0
theorem Yj.mono_l : ∀ k, (∀ y0 y1 y2 y3 y4, LeO (Yj.l0 k y0 y1 y2 y3 y4) (Yj.l0 (k + 1) y0 y1 y2 y3 y4))
 | 0 => fun _ _ _ _ _ r h => by simp [Yj.l0] at h
 | k + 1 => by
  have ih0 := Yj.mono_l k
  ·intro y0 y1 y2 y3 y4
   unfold Yj.l0
   have ih7 := @Yi.mono; exact XI
theorem Yj.mono : ∀ a0 k, LeO (Yj.f k a0) (Yj.f (k + 1) a0) := by
 intro a0 k
 have ih0 := Yj.mono_l k
 unfold Yj.f
 have ih7 := @Yi.mono; exact XI
theorem Yj.calls (k : Nat) (a0 : ByteArray) (r1 : List Int) (r2 : Bool) (w : World) (h : Yj.f k a0 = some (r1, r2)) :
 Calls Try.prog 69 #[.string a0] w fun e w' => ∃ v0_ : Value, e = .returned (.tuple #[v0_, .bool r2]) ∧ Kd.R (Kd.int .u8) 5 w' w.heap.size (fun _ => True) v0_ r1 ∧ Below w.heap.size w w' := by
 have HB := Aside0.mk (Below.refl w.heap.size w)
 have H : (Yj.l0 k a0 ([] : List Int) 0 false 0) = some (r1, r2) := h
 clear h
 have H' := Aside0.mk H
 clear H
 go_enter Try.func69, Try.ntmps69
 go_wp2
 go_loopg [4, 5, 6, 7] k (fun kq v4 v5 v6 v7 w' => ∃ (x4_1 : List Int) (x5_1 : Int) (x6_1 : Bool) (x7_1 : Int), v5 = .int .u32 x5_1 ∧ v6 = .bool x6_1 ∧ v7 = .int .i64 x7_1 ∧ Aside0 (Yj.l0 kq a0 x4_1 x5_1 x6_1 x7_1 = some (r1, r2)) ∧ Aside0 (kq ≤ k) ∧ Aside0 (Kd.R (Kd.int .u8) 5 w' w.heap.size (fun _ => True) v4 x4_1) ∧ Aside0 (Below w.heap.size w w'))
 case atStart => exact ⟨(([] : List Int)), (0), (false), (0), Z4, Z4, Z4, H', ⟨Nat.le_refl _⟩, ⟨Zl⟩, ⟨Z6⟩⟩
 case round =>
  clear H'
  obtain ⟨x4_1, x5_1, x6_1, x7_1, rfl, rfl, rfl, HA, HK1, HO_4, HB⟩ := hrel
  cases gk with
  | zero => exact absurd HA.out (by simp [Yj.l0])
  | succ k1 =>
   have H := HA.out
   clear HA
   simp only [Yj.l0] at H
   by_cases c2 : x7_1 < (a0.size : Int)
   ·rw [if_pos c2] at H
    have c2b0 := decide_eq_true c2
    clear c2
    by_cases c3 : 0 ≤ x7_1
    ·rw [if_pos c3] at H
     have c3b0 := decide_eq_true c3
     clear c3
     by_cases c5 : (bt a0 x7_1) ≤ 32
     ·rw [if_pos c5] at H
      have c5b0 := decide_eq_true c5
      clear c5
      have H' := Aside0.mk H
      clear H
      have p4 : 0 ≤ (x7_1 : Int) := of_decide_eq_true Z5
      have q4 : x7_1 < (a0.size : Int) := of_decide_eq_true Z5
      have hx4 := XD a0 x7_1
      replace p4 := eq_true p4
      replace q4 := eq_true q4
      go_wp2
      go_roundg k1
      case measure => have := HK1.out; omega
      case rel => exact ⟨(x4_1), (x5_1), (x6_1), (wrap64 (x7_1 + 1)), Z4, Z4, Z4, H', ⟨(Zo HK1.out)⟩, ⟨(Zr HO_4.out)⟩, ⟨Z6⟩⟩
     ·rw [if_neg c5] at H
      have c5b0 := decide_eq_false c5
      clear c5
      replace H := bE H; obtain ⟨⟨t315, t316⟩, A7, H⟩ := H; try dsimp only at H
      by_cases c8 : t316 = true
      ·subst c8
       rw [if_pos rfl] at H
       by_cases c9 : x6_1 = true
       ·subst c9
        rw [if_pos rfl] at H
        by_cases c10 : x4_1.length < 140737488355328
        ·rw [if_pos c10] at H
         have LMc10 := Aside0.mk c10
         clear c10
         obtain ⟨y317, Ny317⟩ := aE (x4_1 ++ [((((x5_1 * 16) % 4294967296) + t315) % 4294967296) % 256]); rw [← Ny317.out] at H; try rw [Option.bind_some] at H
         have H' := Aside0.mk H
         clear H
         have p4 : 0 ≤ (x7_1 : Int) := of_decide_eq_true Z5
         have q4 : x7_1 < (a0.size : Int) := of_decide_eq_true Z5
         have hx4 := XD a0 x7_1
         replace p4 := eq_true p4
         replace q4 := eq_true q4
         have p6 : 0 ≤ (x7_1 : Int) := of_decide_eq_true Z5
         have q6 : x7_1 < (a0.size : Int) := of_decide_eq_true Z5
         have hx6 := XD a0 x7_1
         replace p6 := eq_true p6
         replace q6 := eq_true q6
         go_wp2_with (first | ((with_reducible refine Ym (f := 93) rfl ?_); refine YL (some 24) rfl rfl Try.func93 Z2 rfl #[.int .u8 (bt a0 x7_1), .int .u32 16] rfl Zb ?_; (with_reducible refine (Yi.calls k1 (bt a0 x7_1) 16 t315 true _ A7.out).mono ?_); rintro e w' ⟨rfl, ⟨nd, rfl⟩⟩; refine ⟨_, rfl, ?_⟩) | ((with_reducible refine Xj (b := .append) (xs := #[.tmp 30, .tmp 36]) rfl ?_); at_builtin; refine Kd.R_append (Kd.int .u8) (w0 := w) w.heap.size rfl (.tmp 30) (.tmp 36) 29 5 (.int .u8 0) 1 rfl Try.underlying29 VL rfl Z1 Z0 u4 x4_1 ((x5_1 * 16 + t315) % 256) [.int .u8 ((x5_1 * 16 + t315) % 256)] (fun _ => True) (fun _ => False) rfl rfl ?aP (fun _ hk => hk.elim) ?aF ?aO ?aB ?aS ?aL ?_; (case aP => exact rfl); (case aB => exact Z6); (case aF => exact (fun _ _ => trivial)); (case aO => exact (Zr HO_4.out)); (case aS => exact (YK Z6)); (case aL => exact (Zo LMc10.out)); intro v318 w11 ho hb hg hat; have hE_ : ((x5_1 * 16 + t315) % 256 : Int) = ((((x5_1 * 16) % 4294967296) + t315) % 4294967296) % 256 := Z0; rw [hE_, ← Ny317.out] at ho; clear hE_; have n0_ := Aside0.mk (hb); have n1_ := Aside0.mk (ho); clear HB; clear HO_4; have HB := n0_; have HO319 := n1_; clear n0_ n1_; clear ho hb hg hat))
         go_roundg k1
         case measure => have := HK1.out; omega
         case rel => exact ⟨(y317), (t315), (!true), (wrap64 (x7_1 + 1)), Z4, Z4, Z4, H', ⟨(Zo HK1.out)⟩, ⟨(Zr HO319.out)⟩, ⟨Z6⟩⟩
        ·rw [if_neg c10] at H
         exact absurd H Z3
       ·replace c9 := Bool.eq_false_iff.mpr c9
        subst c9
        rw [if_neg Z1] at H
        have H' := Aside0.mk H
        clear H
        have p4 : 0 ≤ (x7_1 : Int) := of_decide_eq_true Z5
        have q4 : x7_1 < (a0.size : Int) := of_decide_eq_true Z5
        have hx4 := XD a0 x7_1
        replace p4 := eq_true p4
        replace q4 := eq_true q4
        have p6 : 0 ≤ (x7_1 : Int) := of_decide_eq_true Z5
        have q6 : x7_1 < (a0.size : Int) := of_decide_eq_true Z5
        have hx6 := XD a0 x7_1
        replace p6 := eq_true p6
        replace q6 := eq_true q6
        go_wp2_with (first | ((with_reducible refine Ym (f := 93) rfl ?_); refine YL (some 24) rfl rfl Try.func93 Z2 rfl #[.int .u8 (bt a0 x7_1), .int .u32 16] rfl Zb ?_; (with_reducible refine (Yi.calls k1 (bt a0 x7_1) 16 t315 true _ A7.out).mono ?_); rintro e w' ⟨rfl, ⟨nd, rfl⟩⟩; refine ⟨_, rfl, ?_⟩))
        go_roundg k1
        case measure => have := HK1.out; omega
        case rel => exact ⟨(x4_1), (t315), (!false), (wrap64 (x7_1 + 1)), Z4, Z4, Z4, H', ⟨(Zo HK1.out)⟩, ⟨(Zr HO_4.out)⟩, ⟨Z6⟩⟩
      ·replace c8 := Bool.eq_false_iff.mpr c8
       subst c8
       rw [if_neg Z1] at H
       simp only [Option.some.injEq, Prod.mk.injEq] at H
       obtain ⟨rfl, rfl⟩ := H
       have p4 : 0 ≤ (x7_1 : Int) := of_decide_eq_true Z5
       have q4 : x7_1 < (a0.size : Int) := of_decide_eq_true Z5
       have hx4 := XD a0 x7_1
       replace p4 := eq_true p4
       replace q4 := eq_true q4
       have p6 : 0 ≤ (x7_1 : Int) := of_decide_eq_true Z5
       have q6 : x7_1 < (a0.size : Int) := of_decide_eq_true Z5
       have hx6 := XD a0 x7_1
       replace p6 := eq_true p6
       replace q6 := eq_true q6
       go_wp2_with (first | ((with_reducible refine Ym (f := 93) rfl ?_); refine YL (some 24) rfl rfl Try.func93 Z2 rfl #[.int .u8 (bt a0 x7_1), .int .u32 16] rfl Zb ?_; (with_reducible refine (Yi.calls k1 (bt a0 x7_1) 16 t315 false _ A7.out).mono ?_); rintro e w' ⟨rfl, ⟨nd, rfl⟩⟩; refine ⟨_, rfl, ?_⟩))
       go_ret2
       exact Z1s
    ·rw [if_neg c3] at H
     exact absurd H Z3
   ·rw [if_neg c2] at H
    have c2b0 := decide_eq_false c2
    clear c2
    simp only [Option.some.injEq, Prod.mk.injEq] at H
    obtain ⟨rfl, rfl⟩ := H
    go_wp2
    go_ret2
    exact Z2k
end Go.Proofs.Ytehmhgpogpbjiaa.PFccTokens
namespace Go.Proofs.Ytehmhgpogpbjiaa
open Go.RowKit Go.Proofs.YtehmhgpogpbjiaaW.PrintWords Go.Proofs.YtehmhgpogpbjiaaW.PrintLast Go.Proofs.Ytehmhgpogpbjiaa.PFccTokens
section
variable {s : ByteArray} {l t r : List UInt8}
theorem up34 (hs : s.size ≤ 4096) (hl : l <:+ s.data.toList) (hu : upL 34 l = some (t, r)) : Yk.f s (pos s l) 34 = some (byt t, true, s, pos s r) := Yai (c := 34) hs hl hu
theorem up34n (hs : s.size ≤ 4096) (hl : l <:+ s.data.toList) (hu : upL 34 l = none) : Yk.f s (pos s l) 34 = some (byt l, false, s, pos s l) := Yaj (c := 34) hs hl hu
theorem up41 (hs : s.size ≤ 4096) (hl : l <:+ s.data.toList) (hu : upL 41 l = some (t, r)) : Yk.f s (pos s l) 41 = some (byt t, true, s, pos s r) := Yai (c := 41) hs hl hu
theorem up41n (hs : s.size ≤ 4096) (hl : l <:+ s.data.toList) (hu : upL 41 l = none) : Yk.f s (pos s l) 41 = some (byt l, false, s, pos s l) := Yaj (c := 41) hs hl hu
theorem up10 (hs : s.size ≤ 4096) (hl : l <:+ s.data.toList) (hu : upL 10 l = some (t, r)) : Yk.f s (pos s l) 10 = some (byt t, true, s, pos s r) := Yai (c := 10) hs hl hu
theorem up10n (hs : s.size ≤ 4096) (hl : l <:+ s.data.toList) (hu : upL 10 l = none) : Yk.f s (pos s l) 10 = some (byt l, false, s, pos s l) := Yaj (c := 10) hs hl hu
theorem UC {c : UInt8} (hl : l <:+ s.data.toList) (hu : upL c l = some (t, r)) : r <:+ s.data.toList := by
 rw [(US hu).1] at hl
 exact XB (VF hl)
end
theorem lim_f (x : List UInt8) : XC.f (byt x) = some (byt (limL x []).2.1, (limL x []).1) := by
 unfold XC.f limL
 rw [byt_size]
 by_cases h : x.length > 255
 ·rw [if_pos Z0, if_pos h]; rfl
 ·rw [if_neg Z0, if_neg h]
theorem quoted_ev (s : ByteArray) (hs : s.size ≤ 4096) {acc l : List UInt8} {e : Int} {t r : List UInt8} (h : UD acc l e t r) :
 l <:+ s.data.toList → acc.length + l.length ≤ 100000 → ∃ p, Ev (fun k => Yd.l0 k (ints acc) s (pos s l)) (byt t, e, s, p) ∧ (e = 0 → p = pos s r) := by
 induction h with
 | @none acc l hu =>
   intro hl hb
   refine ⟨pos s l, Ev.step (f := fun k => Yd.l0 (k + 1) _ _ _) (fun k => rfl) ?_, fun h => by cases h⟩
   simp only [Yd.l0, up34n hs hl hu, Option.bind_some, Bool.false_eq_true, ↓reduceIte]
   exact Ev.now _
 | @fin acc l t hu =>
   intro hl hb
   have hlen := Xd hu
   have h1 : (ints acc).length + (byt t).size < 140737488355328 := by rw [XY, byt_size]; omega
   refine ⟨pos s [], Ev.step (f := fun k => Yd.l0 (k + 1) _ _ _) (fun k => rfl) ?_, fun _ => rfl⟩
   simp only [Yd.l0, up34 hs hl hu, Option.bind_some, ↓reduceIte, h1, Vz, ← Ui, XX]
   refine Ev.step (f := fun k => Yd.j1 (k + 1) _ _ _ _) (fun k => rfl) ?_
   simp only [Yd.j1, ↓reduceIte, Jl, lim_f, Option.bind_some]
   exact Ev.now _
 | @blank acc l t r b hu hb0 =>
   intro hl hb
   have hlen := Xd hu
   have hl2 := UC hl hu
   have h1 : (ints acc).length + (byt t).size < 140737488355328 := by rw [XY, byt_size]; simp at hlen; omega
   have h2 : ¬ (pos s (b :: r) = (s.size : Int)) := by have := Xq (s := s) (b := b) (r := r); omega
   refine ⟨pos s (b :: r), Ev.step (f := fun k => Yd.l0 (k + 1) _ _ _) (fun k => rfl) ?_, fun _ => rfl⟩
   simp only [Yd.l0, up34 hs hl hu, Option.bind_some, ↓reduceIte, h1, Vz, ← Ui, h2, Xg hl2, Xq, VQ hl2, hb0]
   refine Ev.step (f := fun k => Yd.j1 (k + 1) _ _ _ _) (fun k => rfl) ?_
   simp only [Yd.j1, ↓reduceIte, Jl, lim_f, Option.bind_some]
   exact Ev.now _
 | @bad acc l t r b hu hb0 hne =>
   intro hl hb
   have hlen := Xd hu
   have hl2 := UC hl hu
   have h1 : (ints acc).length + (byt t).size < 140737488355328 := by rw [XY, byt_size]; simp at hlen; omega
   have h2 : ¬ (pos s (b :: r) = (s.size : Int)) := by have := Xq (s := s) (b := b) (r := r); omega
   have h3 : ¬ (((b.toNat : Nat) : Int) = 40) := fun e => hne (UInt8.toNat_inj.1 (by show b.toNat = 40; omega))
   refine ⟨pos s (b :: r), Ev.step (f := fun k => Yd.l0 (k + 1) _ _ _) (fun k => rfl) ?_, fun h => by cases h⟩
   simp only [Yd.l0, up34 hs hl hu, Option.bind_some, ↓reduceIte, h1, Vz, ← Ui, h2, Xg hl2, Xq, VQ hl2, hb0]
   refine Ev.step (f := fun k => Yd.j1 (k + 1) _ _ _ _) (fun k => rfl) ?_
   simp only [Yd.j1, Bool.false_eq_true, ↓reduceIte, Xg hl2, Xq, Vr hl2, h3]
   exact Ev.now _
 | @noend acc l t r hu h41 =>
   intro hl hb
   have hlen := Xd hu
   have hl2 := UC hl hu
   have h1 : (ints acc).length + (byt t).size < 140737488355328 := by rw [XY, byt_size]; simp at hlen; omega
   have h2 : ¬ (pos s (40 :: r) = (s.size : Int)) := by have := Xq (s := s) (b := 40) (r := r); omega
   have h3 : bt s (pos s (40 :: r)) = 40 := Vr hl2
   have hb0 : isB 40 = false := rfl
   refine ⟨pos s r, Ev.step (f := fun k => Yd.l0 (k + 1) _ _ _) (fun k => rfl) ?_, fun h => by cases h⟩
   simp only [Yd.l0, up34 hs hl hu, Option.bind_some, ↓reduceIte, h1, Vz, ← Ui, h2, Xg hl2, Xq, VQ hl2, hb0]
   refine Ev.step (f := fun k => Yd.j1 (k + 1) _ _ _ _) (fun k => rfl) ?_
   simp only [Yd.j1, Bool.false_eq_true, ↓reduceIte, Xg hl2, Xq, h3, YX hs hl2, up41n hs (XB hl2) h41, Option.bind_some]
   exact Ev.now _
 | @nohex acc l t r x r2 hu h41 hx =>
   intro hl hb
   have hlen := Xd hu
   have hlen2 := Xd h41
   have hl2 := UC hl hu
   have h1 : (ints acc).length + (byt t).size < 140737488355328 := by rw [XY, byt_size]; simp at hlen; omega
   have h2 : ¬ (pos s (40 :: r) = (s.size : Int)) := by have := Xq (s := s) (b := 40) (r := r); omega
   have h3 : bt s (pos s (40 :: r)) = 40 := Vr hl2
   have hb0 : isB 40 = false := rfl
   have hxs : (byt x).size ≤ 4096 := by
    rw [byt_size]; have := Vy (XB hl2); omega
   obtain ⟨z, hz⟩ := (Ut (byt x) hxs x none (acc ++ t) Z1h (fun u e => nomatch e) Z1p).2 hx
   have hp : pos (byt x) x = 0 := by unfold pos; rw [byt_size]; omega
   rw [hp] at hz
   refine ⟨pos s r2, Ev.step (f := fun k => Yd.l0 (k + 1) _ _ _) (fun k => rfl) ?_, fun h => by cases h⟩
   simp only [Yd.l0, up34 hs hl hu, Option.bind_some, ↓reduceIte, h1, Vz, ← Ui, h2, Xg hl2, Xq, VQ hl2, hb0]
   refine Ev.step (f := fun k => Yd.j1 (k + 1) _ _ _ _) (fun k => rfl) ?_
   simp only [Yd.j1, Bool.false_eq_true, ↓reduceIte, Xg hl2, Xq, h3, YX hs hl2, up41 hs (XB hl2) h41, Option.bind_some]
   refine Ev.bind hz ?_
   simp only [Bool.false_eq_true, ↓reduceIte]
   exact Ev.now _
 | @hex acc l t r x r2 y t' r' e hu h41 hx hq ih =>
   intro hl hb
   have hlen := Xd hu
   have hlen2 := Xd h41
   have hl2 := UC hl hu
   have hl3 := UC (XB hl2) h41
   have h1 : (ints acc).length + (byt t).size < 140737488355328 := by rw [XY, byt_size]; simp at hlen; omega
   have h2 : ¬ (pos s (40 :: r) = (s.size : Int)) := by have := Xq (s := s) (b := 40) (r := r); omega
   have h3 : bt s (pos s (40 :: r)) = 40 := Vr hl2
   have hb0 : isB 40 = false := rfl
   have hxs : (byt x).size ≤ 4096 := by
    rw [byt_size]; have := Vy (XB hl2); omega
   have hy := hexL_len x none y hx
   have hz := (Ut (byt x) hxs x none (acc ++ t) Z1h (fun u e => nomatch e) Z1p).1 y hx
   have hp : pos (byt x) x = 0 := by unfold pos; rw [byt_size]; omega
   rw [hp] at hz
   obtain ⟨p, hp1, hp2⟩ := ih hl3 Z1p
   refine ⟨p, Ev.step (f := fun k => Yd.l0 (k + 1) _ _ _) (fun k => rfl) ?_, hp2⟩
   simp only [Yd.l0, up34 hs hl hu, Option.bind_some, ↓reduceIte, h1, Vz, ← Ui, h2, Xg hl2, Xq, VQ hl2, hb0]
   refine Ev.step (f := fun k => Yd.j1 (k + 1) _ _ _ _) (fun k => rfl) ?_
   simp only [Yd.j1, Bool.false_eq_true, ↓reduceIte, Xg hl2, Xq, h3, YX hs hl2, up41 hs (XB hl2) h41, Option.bind_some]
   refine Ev.bind hz ?_
   simp only [↓reduceIte]
   exact hp1
def YaT (s : ByteArray) (k : Int) (t : List UInt8) (e : Int) (p : Int) : Int × ByteArray × Int × ByteArray × Int := (k, byt t, e, s, p)
theorem YdG {s : ByteArray} {R : List UInt8} (hs : s.size ≤ 4096) (hl : R <:+ s.data.toList) (hu : upL 10 R = none) :
 Ev (fun k => Yt.f k s (pos s R) (byt [92])) (YaT s 0 [] 0 (pos s [])) := by
 simp only [Yt.f, Xp, ↓reduceIte, up10n hs hl hu, Option.bind_some, Bool.false_eq_true]
 rw [XX]
 exact Ev.now _
theorem sp_line {s : ByteArray} {R t r : List UInt8} (hs : s.size ≤ 4096) (hl : R <:+ s.data.toList) (hu : upL 10 R = some (t, r)) :
 Ev (fun k => Yt.f k s (pos s R) (byt [92])) (YaT s 0 [] 0 (pos s r)) := by
 simp only [Yt.f, Xp, ↓reduceIte, up10 hs hl hu, Option.bind_some]
 exact Ev.now _
theorem w40 : ¬ (([40] : List UInt8) = [92]) := by decide
theorem YdF {s : ByteArray} {R : List UInt8} (hs : s.size ≤ 4096) (hl : R <:+ s.data.toList) (hu : upL 41 R = none) :
 Ev (fun k => Yt.f k s (pos s R) (byt [40])) (YaT s 0 [] 15 (pos s R)) := by
 simp only [Yt.f, Xp, w40, ↓reduceIte, up41n hs hl hu, Option.bind_some, Bool.false_eq_true]
 exact Ev.now _
theorem sp_paren {s : ByteArray} {R t r : List UInt8} (hs : s.size ≤ 4096) (hl : R <:+ s.data.toList) (hu : upL 41 R = some (t, r)) :
 Ev (fun k => Yt.f k s (pos s R) (byt [40])) (YaT s 0 [] 0 (pos s r)) := by
 simp only [Yt.f, Xp, w40, ↓reduceIte, up41 hs hl hu, Option.bind_some]
 exact Ev.now _
theorem sp_bare {s : ByteArray} {w : List UInt8} (h1 : w ≠ [92]) (h2 : w ≠ [40]) :
 Ev (fun k => Yt.f k s (pos s []) (byt w)) (YaT s 0 [] 15 (pos s [])) := by
 simp only [Yt.f, Xp, h1, h2, ↓reduceIte, XX]
 exact Ev.now _
theorem YbV : ¬ (([46, 40] : List UInt8) = [92]) := by decide
theorem YbU : ¬ (([46, 40] : List UInt8) = [40]) := by decide
theorem Up {s : ByteArray} {b : UInt8} {r : List UInt8} : ¬ (pos s (b :: r) = (s.size : Int)) := by have := Xq (s := s) (b := b) (r := r); omega
theorem YdE {s : ByteArray} {r : List UInt8} {b : UInt8} (hs : s.size ≤ 4096) (hl : (b :: r) <:+ s.data.toList) (hu : upL 41 r = none) :
 Ev (fun k => Yt.f k s (pos s (b :: r)) (byt [46, 40])) (YaT s 0 [] 15 (pos s r)) := by
 simp only [Yt.f, Xp, YbV, YbU, ↓reduceIte, Up, YX hs hl, up41n hs (XB hl) hu, Option.bind_some, Bool.false_eq_true]
 exact Ev.now _
theorem Ydd {s : ByteArray} {r t r2 : List UInt8} {b : UInt8} (hs : s.size ≤ 4096) (hl : (b :: r) <:+ s.data.toList) (hu : upL 41 r = some (t, r2)) :
 Ev (fun k => Yt.f k s (pos s (b :: r)) (byt [46, 40])) (YaT s 3 (limL t []).2.1 (limL t []).1 (pos s r2)) := by
 simp only [Yt.f, Xp, YbV, YbU, ↓reduceIte, Up, YX hs hl, up41 hs (XB hl) hu, Option.bind_some, lim_f]
 exact Ev.now _
theorem sp_quot {s : ByteArray} {w r t r2 : List UInt8} {b : UInt8} {e : Int} (hs : s.size ≤ 4096) (hl : (b :: r) <:+ s.data.toList) (hw : w = [34] ∨ w = [46, 34]) (hq : UD [] r e t r2) :
 ∃ p, Ev (fun k => Yt.f k s (pos s (b :: r)) (byt w)) (YaT s (if w = [34] then 2 else 3) t e p) ∧ (e = 0 → p = pos s r2) := by
 obtain ⟨p, h1, h2⟩ := quoted_ev s hs hq (XB hl) (by have := Vy hl; simp at this ⊢; omega)
 refine ⟨p, ?_, h2⟩
 have a1 : ¬ (w = [92]) := by rcases hw with rfl | rfl <;> decide
 have a2 : ¬ (w = [40]) := by rcases hw with rfl | rfl <;> decide
 have a3 : ¬ (w = [46, 40]) := by rcases hw with rfl | rfl <;> decide
 simp only [Yt.f, Yd.f, Xp, a1, a2, a3, ↓reduceIte, Up, YX hs hl]
 have h3 : Ev (fun k => Yd.l0 k [] s (pos s r)) (byt t, e, s, p) := h1
 refine Ev.bind h3 ?_
 by_cases h4 : w = [34]
 ·simp only [h4, ↓reduceIte]; exact Ev.now _
 ·simp only [h4, ↓reduceIte]; exact Ev.now _
theorem Ydk {s : ByteArray} {acc l : List UInt8} {e : Int} {t r : List UInt8} (h : UD acc l e t r) (he : e = 0) : l <:+ s.data.toList → r <:+ s.data.toList := by
 induction h with
 | none _ => cases he
 | fin h => exact fun _ => List.nil_suffix
 | blank h _ => exact fun hl => UC hl h
 | bad _ _ _ => cases he
 | noend _ _ => cases he
 | nohex _ _ _ => cases he
 | hex h1 h2 _ _ ih => exact fun hl => ih he (UC (XB (UC hl h1)) h2)
def fin (acc : List S59) (q : Int × List S59) : List S59 × Int := (if q.1 = 0 then acc ++ q.2 else [], q.1)
theorem UV (acc : List S59) (x : S59) (q : Int × List S59) : fin acc (consT x q) = fin (acc ++ [x]) q := by
 unfold fin consT
 by_cases h : q.1 = 0
 ·simp [h]
 ·simp [h]
theorem YV {s : ByteArray} {l L : List UInt8} (hl : l <:+ s.data.toList) (h : l.dropWhile isB = L) : L <:+ s.data.toList := by
 subst h; exact (List.dropWhile_suffix _).trans hl
theorem XF {s : ByteArray} {L : List UInt8} (hl : L <:+ s.data.toList) : XG L <:+ s.data.toList := (List.dropWhile_suffix _).trans hl
theorem at_word {s : ByteArray} {L : List UInt8} (hs : s.size ≤ 4096) (hl : L <:+ s.data.toList) : wrap64 (pos s (XG L) - ((byt (XP L)).size : Int)) = (s.size : Int) - L.length := by
 have h1 := UT L
 have h2 := Xg hl
 rw [byt_size]
 unfold pos at h2 ⊢
 rw [w64 Z0 Z0]
 omega
theorem Ybm {s : ByteArray} {L : List UInt8} (hl : L <:+ s.data.toList) (hs : s.size ≤ 4096) : (XP L).length ≤ 4096 := by
 have := UT L
 have := Vy hl
 omega
theorem VR {s : ByteArray} (hs : s.size ≤ 4096) {l L : List UInt8} (acc : List S59) (hl : l <:+ s.data.toList) (hL : l.dropWhile isB = L) (h0 : L ≠ []) (hw : VX (XP L)) {k : Int} {t : List UInt8} {e p : Int} {r : List S59 × Int}
 (hsp : Ev (fun k => Yt.f k s (pos s (XG L)) (byt (XP L))) (YaT s k t e p))
 (hr : Ev (fun n => if e = 0 then (if k = 0 then YR.l0 n acc s p else if acc.length < 4398046511104 then YR.l0 n (acc ++ [⟨k, byt t, (s.size : Int) - L.length⟩]) s p else none) else some ([], e)) r) :
 Ev (fun n => YR.l0 n acc s (pos s l)) r := by
 have hLs := YV hl hL
 refine Ev.step (f := fun n => YR.l0 (n + 1) _ _ _) (fun k => rfl) ?_
 simp only [YR.l0]
 have hwd := Yag s hs l hl
 rw [hL] at hwd
 refine Ev.bind hwd ?_
 have h1 : decide (L ≠ []) = true := decide_eq_true h0
 simp only [h1, ↓reduceIte, small_f _ (Ybm hLs hs), Yan, Option.bind_some, decide_eq_true hw]
 refine Ev.bind hsp ?_
 simp only [YaT, at_word hs hLs]
 exact hr
theorem cut_ev (s : ByteArray) (hs : s.size ≤ 4096) {l : List UInt8} {q : Int × List S59} (h : CutR (s.size : Int) l q) :
 l <:+ s.data.toList → ∀ acc : List S59, acc.length + l.length ≤ 10000 → Ev (fun n => YR.l0 n acc s (pos s l)) (fin acc q) := by
 induction h with
 | @done l hL =>
   intro hl acc hb
   refine Ev.step (f := fun n => YR.l0 (n + 1) _ _ _) (fun k => rfl) ?_
   simp only [YR.l0]
   have hwd := Yag s hs l hl
   rw [hL] at hwd
   refine Ev.bind hwd ?_
   have h1 : decide (([] : List UInt8) ≠ []) = false := by simp
   simp only [h1, Bool.false_eq_true, ↓reduceIte]
   have : fin acc (0, []) = (acc, 0) := by simp [fin]
   rw [this]
   exact Ev.now _
 | @lineEnd l L hL h0 hw hu =>
   intro hl acc hb
   have hLs := YV hl hL
   have hsp := YdG hs (XF hLs) hu
   rw [← hw] at hsp
   refine VR hs acc hl hL h0 (.inl hw) hsp ?_
   simp only [↓reduceIte]
   refine Ev.step (f := fun n => YR.l0 (n + 1) _ _ _) (fun k => rfl) ?_
   simp only [YR.l0]
   have hwd := Yag s hs [] (List.nil_suffix)
   refine Ev.bind hwd ?_
   have h1 : decide (List.dropWhile isB [] ≠ []) = false := by simp
   simp only [h1, Bool.false_eq_true, ↓reduceIte]
   have : fin acc (0, []) = (acc, 0) := by simp [fin]
   rw [this]
   exact Ev.now _
 | @line l L t r q hL h0 hw hu hq ih =>
   intro hl acc hb
   have hLs := YV hl hL
   have hsp := sp_line hs (XF hLs) hu
   rw [← hw] at hsp
   refine VR hs acc hl hL h0 (.inl hw) hsp ?_
   simp only [↓reduceIte]
   have := Xd hu
   have := XM hL h0
   exact ih (UC (XF hLs) hu) acc Z0
 | @noParen l L hL h0 hw hu =>
   intro hl acc hb
   have hLs := YV hl hL
   have hsp := YdF hs (XF hLs) hu
   rw [← hw] at hsp
   refine VR hs acc hl hL h0 (.inr (.inl hw)) hsp ?_
   exact Ev.now _
 | @paren l L t r q hL h0 hw hu hq ih =>
   intro hl acc hb
   have hLs := YV hl hL
   have hsp := sp_paren hs (XF hLs) hu
   rw [← hw] at hsp
   refine VR hs acc hl hL h0 (.inr (.inl hw)) hsp ?_
   simp only [↓reduceIte]
   have := Xd hu
   have := XM hL h0
   exact ih (UC (XF hLs) hu) acc Z0
 | @bare l L hL h0 hw h1 h2 hr =>
   intro hl acc hb
   have hsp := sp_bare (s := s) h1 h2
   rw [← hr] at hsp
   refine VR hs acc hl hL h0 hw hsp ?_
   exact Ev.now _
 | @noPrint l L r b hL h0 hw hr hu =>
   intro hl acc hb
   have hLs := YV hl hL
   have hRs := XF hLs
   rw [hr] at hRs
   have hsp := YdE hs hRs hu
   rw [← hw, ← hr] at hsp
   refine VR hs acc hl hL h0 (.inr (.inr (.inl hw))) hsp ?_
   exact Ev.now _
 | @longPrint l L r t r2 b hL h0 hw hr hu ht =>
   intro hl acc hb
   have hLs := YV hl hL
   have hRs := XF hLs
   rw [hr] at hRs
   have hsp := Ydd hs hRs hu
   rw [← hw, ← hr] at hsp
   have e : limL t [] = (3, [], []) := by unfold limL; rw [if_pos Z0]
   rw [e] at hsp
   refine VR hs acc hl hL h0 (.inr (.inr (.inl hw))) hsp ?_
   exact Ev.now _
 | @print l L r t r2 b q hL h0 hw hr hu ht hq ih =>
   intro hl acc hb
   have hLs := YV hl hL
   have hRs := XF hLs
   rw [hr] at hRs
   have hsp := Ydd hs hRs hu
   rw [← hw, ← hr] at hsp
   have e : limL t [] = (0, t, []) := by unfold limL; rw [if_neg Z0]
   rw [e] at hsp
   refine VR hs acc hl hL h0 (.inr (.inr (.inl hw))) hsp ?_
   have h1 := Xd hu
   have h2 := XM hL h0
   rw [hr] at h2
   simp at h2
   have h3 : acc.length < 4398046511104 := by omega
   simp only [↓reduceIte, h3, show ¬ ((3 : Int) = 0) by decide]
   rw [UV]
   exact ih (UC (XB hRs) hu) _ Zj
 | @noQuot l L r t r2 b e hL h0 hw hr hq he =>
   intro hl acc hb
   have hLs := YV hl hL
   have hRs := XF hLs
   rw [hr] at hRs
   obtain ⟨p, hsp, _⟩ := sp_quot hs hRs hw hq
   rw [← hr] at hsp
   refine VR hs acc hl hL h0 (hw.elim (fun h => .inr (.inr (.inr (.inl h)))) (fun h => .inr (.inr (.inr (.inr h))))) hsp ?_
   simp only [he, ↓reduceIte]
   have : fin acc (e, []) = ([], e) := by simp [fin, he]
   rw [this]
   exact Ev.now _
 | @quot l L r t r2 b q hL h0 hw hr hq hc ih =>
   intro hl acc hb
   have hLs := YV hl hL
   have hRs := XF hLs
   rw [hr] at hRs
   obtain ⟨p, hsp, hp⟩ := sp_quot hs hRs hw hq
   rw [hp rfl, ← hr] at hsp
   refine VR hs acc hl hL h0 (hw.elim (fun h => .inr (.inr (.inr (.inl h)))) (fun h => .inr (.inr (.inr (.inr h))))) hsp ?_
   have h1 := Js hq rfl
   have h2 := XM hL h0
   rw [hr] at h2
   simp at h2
   have h3 : acc.length < 4398046511104 := by omega
   have h4 : ¬ ((if XP L = [34] then (2 : Int) else 3) = 0) := by split <;> decide
   simp only [↓reduceIte, h3, h4]
   rw [UV]
   have hs2 : r2 <:+ s.data.toList := Ydk hq rfl (XB hRs)
   exact ih hs2 _ Zj
 | @word l L q hL h0 hw hq ih =>
   intro hl acc hb
   have hLs := YV hl hL
   have h2 := XM hL h0
   have h3 : acc.length < 4398046511104 := by omega
   refine Ev.step (f := fun n => YR.l0 (n + 1) _ _ _) (fun k => rfl) ?_
   simp only [YR.l0]
   have hwd := Yag s hs l hl
   rw [hL] at hwd
   refine Ev.bind hwd ?_
   have h1 : decide (L ≠ []) = true := decide_eq_true h0
   simp only [h1, ↓reduceIte, small_f _ (Ybm hLs hs), Yan, Option.bind_some, decide_eq_false hw, Bool.false_eq_true, h3, at_word hs hLs]
   rw [UV]
   exact ih (XF hLs) _ Zj
end Go.Proofs.Ytehmhgpogpbjiaa
