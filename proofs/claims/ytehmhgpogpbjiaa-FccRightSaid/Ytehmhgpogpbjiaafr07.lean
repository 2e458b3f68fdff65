import Derived.Test.Ytehmhgpogpbjiaafr06
set_option linter.unusedVariables false
set_option linter.unusedSimpArgs false
set_option maxRecDepth 100000
set_option maxHeartbeats 8000000
namespace Go.Proofs.Ytehmhgpogpbjiaa.PFccTokens
open Go.RowKit Go.Proofs.YtehmhgpogpbjiaaW.PrintWords Go.Proofs.YtehmhgpogpbjiaaW.PrintLast Go.Proofs.YtehmhgpogpbjiaaW.PrintMore
attribute [local go_sem] Vx Vv VV VU Ve Vd Vw Vu
def YU.f (a0 : Int) : Option (Bool) := some (decide (a0 ≤ 32))
theorem YU.calls (a0 : Int) (r : Bool) (w : World) (h : YU.f a0 = some r) :
 Calls Try.prog 57 #[.int .u8 a0] w fun e w' => e = .returned (.bool r) ∧ YZ w w' := by
 have H : (some (decide (a0 ≤ 32))) = some r := h
 clear h
 obtain rfl := Option.some.inj H
 go_enter Try.func57, Try.ntmps57
 go_wp2
 go_ret
 exact Zc
mutual
def Yh.j1 : Nat → ByteArray → Int → Option (ByteArray × Bool × ByteArray × Int)
 | 0, _, _ => none
 | k + 1, x1000, x1001 => Yh.l1 k x1001 x1000 x1001
def Yh.l1 : Nat → Int → ByteArray → Int → Option (ByteArray × Bool × ByteArray × Int)
 | 0, _, _, _ => none
 | k + 1, x4, x1000, x1001 => if x1001 < (x1000.size : Int) then (if 0 ≤ x1001 then ((YU.f (bt x1000 x1001)).bind fun t102 => (if t102 = true then (if 0 ≤ x4 then (if x4 ≤ x1001 then (if x1001 ≤ (x1000.size : Int) then (some (x1000.extract (x4 : Int).toNat (x1001 : Int).toNat, decide (x1001 > x4), x1000, x1001)) else (none)) else (none)) else (none)) else (Yh.l1 k x4 x1000 (wrap64 (x1001 + 1))))) else (none)) else (if 0 ≤ x4 then (if x4 ≤ x1001 then (if x1001 ≤ (x1000.size : Int) then (some (x1000.extract (x4 : Int).toNat (x1001 : Int).toNat, decide (x1001 > x4), x1000, x1001)) else (none)) else (none)) else (none))
def Yh.l0 : Nat → ByteArray → Int → Option (ByteArray × Bool × ByteArray × Int)
 | 0, _, _ => none
 | k + 1, x1000, x1001 => if x1001 < (x1000.size : Int) then (if 0 ≤ x1001 then ((YU.f (bt x1000 x1001)).bind fun t101 => (if t101 = true then (Yh.l0 k x1000 (wrap64 (x1001 + 1))) else (Yh.j1 k x1000 x1001))) else (none)) else (Yh.j1 k x1000 x1001)
end
def Yh.f (k : Nat) (s0_0 : ByteArray) (s0_1 : Int) : Option (ByteArray × Bool × ByteArray × Int) := Yh.l0 k s0_0 s0_1
theorem Yh.mono_l : ∀ k, (∀ y0 y1, LeO (Yh.j1 k y0 y1) (Yh.j1 (k + 1) y0 y1)) ∧ (∀ y0 y1 y2, LeO (Yh.l1 k y0 y1 y2) (Yh.l1 (k + 1) y0 y1 y2)) ∧ (∀ y0 y1, LeO (Yh.l0 k y0 y1) (Yh.l0 (k + 1) y0 y1))
 | 0 => ⟨fun _ _ r h => by simp [Yh.j1] at h, fun _ _ _ r h => by simp [Yh.l1] at h, fun _ _ r h => by simp [Yh.l0] at h⟩
 | k + 1 => by
  obtain ⟨ih0, ih1, ih2⟩ := Yh.mono_l k
  refine ⟨?_, ?_, ?_⟩
  ·intro y0 y1
   unfold Yh.j1
   exact XI
  ·intro y0 y1 y2
   unfold Yh.l1
   exact XI
  ·intro y0 y1
   unfold Yh.l0
   exact XI
theorem Yh.mono : ∀ a0 a1 k, LeO (Yh.f k a0 a1) (Yh.f (k + 1) a0 a1) := by
 intro a0 a1 k
 obtain ⟨ih0, ih1, ih2⟩ := Yh.mono_l k
 unfold Yh.f
 exact XI
theorem Yh.calls (k : Nat) (g : Nat) (s0_0 : ByteArray) (s0_1 : Int) (r1 : ByteArray) (r2 : Bool) (r3 : ByteArray) (r4 : Int) (w0 w : World) (hI : IsS88 w0 w g s0_0 s0_1) (hB : Below w0.heap.size w0 w) (h : Yh.f k s0_0 s0_1 = some (r1, r2, r3, r4)) :
 Calls Try.prog 30 #[.pointer (some ⟨g, 0, none⟩)] w fun e w' => e = .returned (.tuple #[.string r1, .bool r2]) ∧ IsS88 w0 w' g r3 r4 ∧ Below w0.heap.size w0 w' ∧ Yw w w' g none := by
 have HI0 := Aside0.mk hI
 have HK := Aside0.mk (Yw.refl w g none)
 have HL := Aside0.mk hB.size
 clear hI
 have HW0 := Aside0.mk hB.size
 have HB := Aside0.mk hB
 clear hB
 have H : (Yh.l0 k s0_0 s0_1) = some (r1, r2, r3, r4) := h
 clear h
 have HC2 := Aside0.mk H
 clear H
 go_enter Try.func30, Try.ntmps30
 go_upto_block 0 with (fail)
 repeat (go_quiet (fail); go_upto_block 0 with (fail))
 go_cut [] (fun wc => ∃ (kq : Nat) (x1001_1 : Int), Aside0 (Yh.j1 kq s0_0 x1001_1 = some (r1, r2, r3, r4)) ∧ Aside0 (kq ≤ k) ∧ Aside0 (IsS88 w0 wc g s0_0 x1001_1) ∧ Aside0 (Yw w wc g none) ∧ Aside0 (Below w0.heap.size w0 wc))
 case first =>
  have H := HC2.out
  clear HC2
  have H' := Aside0.mk H
  clear H
  go_wp2
  repeat (go_quiet (fail); try go_wp2)
  go_loopg [] k (fun kq w' => ∃ (x1001_1 : Int), Aside0 (Yh.l0 kq s0_0 x1001_1 = some (r1, r2, r3, r4)) ∧ Aside0 (kq ≤ k) ∧ Aside0 (IsS88 w0 w' g s0_0 x1001_1) ∧ Aside0 (Yw w w' g none) ∧ Aside0 (Below w0.heap.size w0 w'))
  case atStart => exact ⟨(s0_1), H', ⟨Nat.le_refl _⟩, ⟨Z9⟩, ⟨Za⟩, ⟨Zd⟩⟩
  case round =>
   clear H'
   try clear p2
   obtain ⟨x1001_1, HA, HK1, HI0, HK, HB⟩ := hrel
   cases gk with
   | zero => exact absurd HA.out (by simp [Yh.l0])
   | succ k1 =>
    have H := HA.out
    clear HA
    simp only [Yh.l0] at H
    by_cases c3 : x1001_1 < (s0_0.size : Int)
    ·rw [if_pos c3] at H
     have c3b0 := decide_eq_true c3
     clear c3
     (first | rw [c3b0] | (simp only [YH, YJ]; rw [c3b0]) | skip)
     by_cases c4 : 0 ≤ x1001_1
     ·rw [if_pos c4] at H
      have c4b0 := decide_eq_true c4
      clear c4
      replace H := bE H; obtain ⟨t101, A6, H⟩ := H
      by_cases c7 : t101 = true
      ·subst c7
       rw [if_pos rfl] at H
       have H' := Aside0.mk H
       clear H
       obtain ⟨HGz8, hgz8⟩ := HI0.out
       have hcz8_0 := Xx HGz8
       have hcz8_1 := Xw HGz8
       have hfz8_0 := Yf HGz8 0
       have hfz8_1 := Yf HGz8 1
       clear HGz8 hgz8
       have p5 : 0 ≤ (x1001_1 : Int) := of_decide_eq_true Z5
       have q5 : x1001_1 < (s0_0.size : Int) := of_decide_eq_true Z5
       have hx5 := XD s0_0 x1001_1
       replace p5 := eq_true p5
       replace q5 := eq_true q5
       go_wp2_with (first | (go_at_call 57; (with_reducible refine (YU.calls (bt s0_0 x1001_1) true _ A6.out).mono ?_); rintro e w' ⟨rfl, ⟨nd, rfl⟩⟩; (try first | exact ⟨rfl, _, World.drewN_drewN _ _ _⟩ | exact ⟨rfl, _, Eq.trans (World.drewN_drewN _ _ _) (congrArg (World.drewN _) (Nat.add_assoc _ _ _))⟩)))
       repeat (go_quiet (first | (go_at_call 57; (with_reducible refine (YU.calls (bt s0_0 x1001_1) true _ A6.out).mono ?_); rintro e w' ⟨rfl, ⟨nd, rfl⟩⟩; (try first | exact ⟨rfl, _, World.drewN_drewN _ _ _⟩ | exact ⟨rfl, _, Eq.trans (World.drewN_drewN _ _ _) (congrArg (World.drewN _) (Nat.add_assoc _ _ _))⟩))); try go_wp2_with (first | (go_at_call 57; (with_reducible refine (YU.calls (bt s0_0 x1001_1) true _ A6.out).mono ?_); rintro e w' ⟨rfl, ⟨nd, rfl⟩⟩; (try first | exact ⟨rfl, _, World.drewN_drewN _ _ _⟩ | exact ⟨rfl, _, Eq.trans (World.drewN_drewN _ _ _) (congrArg (World.drewN _) (Nat.add_assoc _ _ _))⟩))))
       go_roundg k1
       case measure => have := HK1.out; omega
       case rel => exact ⟨(wrap64 (x1001_1 + 1)), H', ⟨(Zo HK1.out)⟩, ⟨Z9⟩, ⟨Za⟩, ⟨Zd⟩⟩
      ·replace c7 := Bool.eq_false_iff.mpr c7
       subst c7
       rw [if_neg Z1] at H
       have H' := Aside0.mk H
       clear H
       obtain ⟨HGz9, hgz9⟩ := HI0.out
       have hcz9_0 := Xx HGz9
       have hcz9_1 := Xw HGz9
       have hfz9_0 := Yf HGz9 0
       have hfz9_1 := Yf HGz9 1
       clear HGz9 hgz9
       have p5 : 0 ≤ (x1001_1 : Int) := of_decide_eq_true Z5
       have q5 : x1001_1 < (s0_0.size : Int) := of_decide_eq_true Z5
       have hx5 := XD s0_0 x1001_1
       replace p5 := eq_true p5
       replace q5 := eq_true q5
       go_wp2_with (first | (go_at_call 57; (with_reducible refine (YU.calls (bt s0_0 x1001_1) false _ A6.out).mono ?_); rintro e w' ⟨rfl, ⟨nd, rfl⟩⟩; (try first | exact ⟨rfl, _, World.drewN_drewN _ _ _⟩ | exact ⟨rfl, _, Eq.trans (World.drewN_drewN _ _ _) (congrArg (World.drewN _) (Nat.add_assoc _ _ _))⟩)))
       repeat (go_quiet (first | (go_at_call 57; (with_reducible refine (YU.calls (bt s0_0 x1001_1) false _ A6.out).mono ?_); rintro e w' ⟨rfl, ⟨nd, rfl⟩⟩; (try first | exact ⟨rfl, _, World.drewN_drewN _ _ _⟩ | exact ⟨rfl, _, Eq.trans (World.drewN_drewN _ _ _) (congrArg (World.drewN _) (Nat.add_assoc _ _ _))⟩))); try go_wp2_with (first | (go_at_call 57; (with_reducible refine (YU.calls (bt s0_0 x1001_1) false _ A6.out).mono ?_); rintro e w' ⟨rfl, ⟨nd, rfl⟩⟩; (try first | exact ⟨rfl, _, World.drewN_drewN _ _ _⟩ | exact ⟨rfl, _, Eq.trans (World.drewN_drewN _ _ _) (congrArg (World.drewN _) (Nat.add_assoc _ _ _))⟩))))
       go_meet
       case rel => exact ⟨_, (x1001_1), H', ⟨(Zo HK1.out)⟩, ⟨Z9⟩, ⟨Za⟩, ⟨Zd⟩⟩
     ·rw [if_neg c4] at H
      exact absurd H Z3
    ·rw [if_neg c3] at H
     have c3b0 := decide_eq_false c3
     clear c3
     (first | rw [c3b0] | (simp only [YH, YJ]; rw [c3b0]) | skip)
     have H' := Aside0.mk H
     clear H
     obtain ⟨HGz10, hgz10⟩ := HI0.out
     have hcz10_0 := Xx HGz10
     have hcz10_1 := Xw HGz10
     have hfz10_0 := Yf HGz10 0
     have hfz10_1 := Yf HGz10 1
     clear HGz10 hgz10
     go_wp2
     repeat (go_quiet (fail); try go_wp2)
     go_meet
     case rel => exact ⟨_, (x1001_1), H', ⟨(Zo HK1.out)⟩, ⟨Z9⟩, ⟨Za⟩, ⟨Zd⟩⟩
 case rest =>
  clear HC2
  try clear p2
  try clear c3
  try clear c3b0
  try clear c4
  try clear c4b0
  try clear p5
  try clear q5
  try clear hx5
  try clear p6
  try clear c7
  try clear hcz10_0
  try clear hcz10_1
  try clear hcz8_0
  try clear hcz8_1
  try clear hcz9_0
  try clear hcz9_1
  try clear hfz10_0
  try clear hfz10_1
  try clear hfz8_0
  try clear hfz8_1
  try clear hfz9_0
  try clear hfz9_1
  try clear p2
  try clear p5
  try clear q5
  obtain ⟨kq, x1001_1, HA, HJ1, HI0, HK, HB⟩ := hcut
  cases kq with
  | zero => exact absurd HA.out (by simp [Yh.j1])
  | succ kj1 =>
   have H := HA.out
   clear HA
   simp only [Yh.j1] at H
   have H' := Aside0.mk H
   clear H
   obtain ⟨HGz11, hgz11⟩ := HI0.out
   have hcz11_0 := Xx HGz11
   have hcz11_1 := Xw HGz11
   have hfz11_0 := Yf HGz11 0
   have hfz11_1 := Yf HGz11 1
   clear HGz11 hgz11
   go_wp2
   repeat (go_quiet (fail); try go_wp2)
   go_loopg [] kj1 (fun kq w' => ∃ (x1001_2 : Int), Aside0 (Yh.l1 kq x1001_1 s0_0 x1001_2 = some (r1, r2, r3, r4)) ∧ Aside0 (kq ≤ kj1) ∧ Aside0 (IsS88 w0 w' g s0_0 x1001_2) ∧ Aside0 (Yw w w' g none) ∧ Aside0 (Below w0.heap.size w0 w'))
   case atStart => exact ⟨(x1001_1), H', ⟨Nat.le_refl _⟩, ⟨Z9⟩, ⟨Za⟩, ⟨Zd⟩⟩
   case round =>
    clear H'
    try clear p2
    try clear c3
    try clear c3b0
    try clear c4
    try clear c4b0
    try clear p5
    try clear q5
    try clear hx5
    try clear p6
    try clear c7
    try clear hcz10_0
    try clear hcz10_1
    try clear hcz11_0
    try clear hcz11_1
    try clear hcz8_0
    try clear hcz8_1
    try clear hcz9_0
    try clear hcz9_1
    try clear hfz10_0
    try clear hfz10_1
    try clear hfz11_0
    try clear hfz11_1
    try clear hfz8_0
    try clear hfz8_1
    try clear hfz9_0
    try clear hfz9_1
    try clear p2
    try clear p5
    try clear p6
    try clear q5
    obtain ⟨x1001_2, HA, HK2, HI0, HK, HB⟩ := hrel
    cases gk with
    | zero => exact absurd HA.out (by simp [Yh.l1])
    | succ k2 =>
     have H := HA.out
     clear HA
     simp only [Yh.l1] at H
     by_cases c12 : x1001_2 < (s0_0.size : Int)
     ·rw [if_pos c12] at H
      have c12b0 := decide_eq_true c12
      clear c12
      by_cases c13 : 0 ≤ x1001_2
      ·rw [if_pos c13] at H
       have c13b0 := decide_eq_true c13
       clear c13
       replace H := bE H; obtain ⟨t102, A15, H⟩ := H
       by_cases c16 : t102 = true
       ·subst c16
        rw [if_pos rfl] at H
        by_cases c17 : 0 ≤ x1001_1
        ·rw [if_pos c17] at H
         have c17b0 := eq_true c17
         have c17b1 := decide_eq_true c17
         clear c17
         by_cases c18 : x1001_1 ≤ x1001_2
         ·rw [if_pos c18] at H
          have c18b0 := eq_true c18
          have c18b1 := decide_eq_true c18
          clear c18
          by_cases c19 : x1001_2 ≤ (s0_0.size : Int)
          ·rw [if_pos c19] at H
           have c19b0 := eq_true c19
           have c19b1 := decide_eq_true c19
           clear c19
           simp only [Option.some.injEq, Prod.mk.injEq] at H
           obtain ⟨rfl, rfl, rfl, rfl⟩ := H
           obtain ⟨HGz20, hgz20⟩ := HI0.out
           have hcz20_0 := Xx HGz20
           have hcz20_1 := Xw HGz20
           have hfz20_0 := Yf HGz20 0
           have hfz20_1 := Yf HGz20 1
           clear HGz20 hgz20
           have p14 : 0 ≤ (x1001_2 : Int) := of_decide_eq_true Z5
           have q14 : x1001_2 < (s0_0.size : Int) := of_decide_eq_true Z5
           have hx14 := XD s0_0 x1001_2
           replace p14 := eq_true p14
           replace q14 := eq_true q14
           go_wp2_with (first | (go_at_call 57; (with_reducible refine (YU.calls (bt s0_0 x1001_2) true _ A15.out).mono ?_); rintro e w' ⟨rfl, ⟨nd, rfl⟩⟩; (try first | exact ⟨rfl, _, World.drewN_drewN _ _ _⟩ | exact ⟨rfl, _, Eq.trans (World.drewN_drewN _ _ _) (congrArg (World.drewN _) (Nat.add_assoc _ _ _))⟩)))
           repeat (go_quiet (first | (go_at_call 57; (with_reducible refine (YU.calls (bt s0_0 x1001_2) true _ A15.out).mono ?_); rintro e w' ⟨rfl, ⟨nd, rfl⟩⟩; (try first | exact ⟨rfl, _, World.drewN_drewN _ _ _⟩ | exact ⟨rfl, _, Eq.trans (World.drewN_drewN _ _ _) (congrArg (World.drewN _) (Nat.add_assoc _ _ _))⟩))); try go_wp2_with (first | (go_at_call 57; (with_reducible refine (YU.calls (bt s0_0 x1001_2) true _ A15.out).mono ?_); rintro e w' ⟨rfl, ⟨nd, rfl⟩⟩; (try first | exact ⟨rfl, _, World.drewN_drewN _ _ _⟩ | exact ⟨rfl, _, Eq.trans (World.drewN_drewN _ _ _) (congrArg (World.drewN _) (Nat.add_assoc _ _ _))⟩))))
           go_ret2
           exact Zu
          ·rw [if_neg c19] at H
           exact absurd H Z3
         ·rw [if_neg c18] at H
          exact absurd H Z3
        ·rw [if_neg c17] at H
         exact absurd H Z3
       ·replace c16 := Bool.eq_false_iff.mpr c16
        subst c16
        rw [if_neg Z1] at H
        have H' := Aside0.mk H
        clear H
        obtain ⟨HGz21, hgz21⟩ := HI0.out
        have hcz21_0 := Xx HGz21
        have hcz21_1 := Xw HGz21
        have hfz21_0 := Yf HGz21 0
        have hfz21_1 := Yf HGz21 1
        clear HGz21 hgz21
        have p14 : 0 ≤ (x1001_2 : Int) := of_decide_eq_true Z5
        have q14 : x1001_2 < (s0_0.size : Int) := of_decide_eq_true Z5
        have hx14 := XD s0_0 x1001_2
        replace p14 := eq_true p14
        replace q14 := eq_true q14
        go_wp2_with (first | (go_at_call 57; (with_reducible refine (YU.calls (bt s0_0 x1001_2) false _ A15.out).mono ?_); rintro e w' ⟨rfl, ⟨nd, rfl⟩⟩; (try first | exact ⟨rfl, _, World.drewN_drewN _ _ _⟩ | exact ⟨rfl, _, Eq.trans (World.drewN_drewN _ _ _) (congrArg (World.drewN _) (Nat.add_assoc _ _ _))⟩)))
        repeat (go_quiet (first | (go_at_call 57; (with_reducible refine (YU.calls (bt s0_0 x1001_2) false _ A15.out).mono ?_); rintro e w' ⟨rfl, ⟨nd, rfl⟩⟩; (try first | exact ⟨rfl, _, World.drewN_drewN _ _ _⟩ | exact ⟨rfl, _, Eq.trans (World.drewN_drewN _ _ _) (congrArg (World.drewN _) (Nat.add_assoc _ _ _))⟩))); try go_wp2_with (first | (go_at_call 57; (with_reducible refine (YU.calls (bt s0_0 x1001_2) false _ A15.out).mono ?_); rintro e w' ⟨rfl, ⟨nd, rfl⟩⟩; (try first | exact ⟨rfl, _, World.drewN_drewN _ _ _⟩ | exact ⟨rfl, _, Eq.trans (World.drewN_drewN _ _ _) (congrArg (World.drewN _) (Nat.add_assoc _ _ _))⟩))))
        go_roundg k2
        case measure => have := HJ1.out; have := HK2.out; omega
        case rel => exact ⟨(wrap64 (x1001_2 + 1)), H', ⟨(Zo (And.intro HJ1.out HK2.out))⟩, ⟨Z9⟩, ⟨Za⟩, ⟨Zd⟩⟩
      ·rw [if_neg c13] at H
       exact absurd H Z3
     ·rw [if_neg c12] at H
      have c12b0 := decide_eq_false c12
      clear c12
      by_cases c22 : 0 ≤ x1001_1
      ·rw [if_pos c22] at H
       have c22b0 := eq_true c22
       have c22b1 := decide_eq_true c22
       clear c22
       by_cases c23 : x1001_1 ≤ x1001_2
       ·rw [if_pos c23] at H
        have c23b0 := eq_true c23
        have c23b1 := decide_eq_true c23
        clear c23
        by_cases c24 : x1001_2 ≤ (s0_0.size : Int)
        ·rw [if_pos c24] at H
         have c24b0 := eq_true c24
         have c24b1 := decide_eq_true c24
         clear c24
         simp only [Option.some.injEq, Prod.mk.injEq] at H
         obtain ⟨rfl, rfl, rfl, rfl⟩ := H
         obtain ⟨HGz25, hgz25⟩ := HI0.out
         have hcz25_0 := Xx HGz25
         have hcz25_1 := Xw HGz25
         have hfz25_0 := Yf HGz25 0
         have hfz25_1 := Yf HGz25 1
         clear HGz25 hgz25
         go_wp2
         repeat (go_quiet (fail); try go_wp2)
         go_ret2
         exact Zu
        ·rw [if_neg c24] at H
         exact absurd H Z3
       ·rw [if_neg c23] at H
        exact absurd H Z3
      ·rw [if_neg c22] at H
       exact absurd H Z3
def XW.f (a0 : ByteArray) : Option (Bool) := if a0.toList = ([92] : List UInt8) then (some true) else (if a0.toList = ([40] : List UInt8) then (some true) else (if a0.toList = ([46, 40] : List UInt8) then (some true) else (if a0.toList = ([34] : List UInt8) then (some true) else (if a0.toList = ([46, 34] : List UInt8) then (some true) else (some false)))))
theorem XW.calls (a0 : ByteArray) (r : Bool) (w : World) (h : XW.f a0 = some r) :
 Calls Try.prog 32 #[.string a0] w fun e w' => e = .returned (.bool r) ∧ YZ w w' := by
 have H : (if a0.toList = ([92] : List UInt8) then (some true) else (if a0.toList = ([40] : List UInt8) then (some true) else (if a0.toList = ([46, 40] : List UInt8) then (some true) else (if a0.toList = ([34] : List UInt8) then (some true) else (if a0.toList = ([46, 34] : List UInt8) then (some true) else (some false)))))) = some r := h
 clear h
 by_cases c2 : a0.toList = ([92] : List UInt8)
 ·rw [if_pos c2] at H
  obtain ⟨c2b0, c2b1⟩ := eqB c2
  clear c2
  obtain rfl := Option.some.inj H
  go_enter Try.func32, Try.ntmps32
  go_wp2
  go_ret
  exact Zc
 ·rw [if_neg c2] at H
  obtain ⟨c2b0, c2b1⟩ := neB c2
  by_cases c3 : a0.toList = ([40] : List UInt8)
  ·rw [if_pos c3] at H
   obtain ⟨c3b0, c3b1⟩ := eqB c3
   clear c3
   obtain rfl := Option.some.inj H
   go_enter Try.func32, Try.ntmps32
   go_wp2
   go_ret
   exact Zc
  ·rw [if_neg c3] at H
   obtain ⟨c3b0, c3b1⟩ := neB c3
   by_cases c4 : a0.toList = ([46, 40] : List UInt8)
   ·rw [if_pos c4] at H
    obtain ⟨c4b0, c4b1⟩ := eqB c4
    clear c4
    obtain rfl := Option.some.inj H
    go_enter Try.func32, Try.ntmps32
    go_wp2
    go_ret
    exact Zc
   ·rw [if_neg c4] at H
    obtain ⟨c4b0, c4b1⟩ := neB c4
    by_cases c5 : a0.toList = ([34] : List UInt8)
    ·rw [if_pos c5] at H
     obtain ⟨c5b0, c5b1⟩ := eqB c5
     clear c5
     obtain rfl := Option.some.inj H
     go_enter Try.func32, Try.ntmps32
     go_wp2
     go_ret
     exact Zc
    ·rw [if_neg c5] at H
     obtain ⟨c5b0, c5b1⟩ := neB c5
     by_cases c6 : a0.toList = ([46, 34] : List UInt8)
     ·rw [if_pos c6] at H
      obtain ⟨c6b0, c6b1⟩ := eqB c6
      clear c6
      obtain rfl := Option.some.inj H
      go_enter Try.func32, Try.ntmps32
      go_wp2
      go_ret
      exact Zc
     ·rw [if_neg c6] at H
      obtain ⟨c6b0, c6b1⟩ := neB c6
      obtain rfl := Option.some.inj H
      go_enter Try.func32, Try.ntmps32
      go_wp2
      go_ret
      exact Zc
def XC.f (a0 : ByteArray) : Option (ByteArray × Int) := if (a0.size : Int) > 255 then (some ((⟨#[]⟩ : ByteArray), 3)) else (some (a0, 0))
theorem XC.calls (a0 : ByteArray) (r1 : ByteArray) (r2 : Int) (w : World) (h : XC.f a0 = some (r1, r2)) :
 Calls Try.prog 59 #[.string a0] w fun e w' => e = .returned (.tuple #[.string r1, .int .i64 r2]) ∧ YZ w w' := by
 have H : (if (a0.size : Int) > 255 then (some ((⟨#[]⟩ : ByteArray), 3)) else (some (a0, 0))) = some (r1, r2) := h
 clear h
 by_cases c2 : (a0.size : Int) > 255
 ·rw [if_pos c2] at H
  have c2b0 := decide_eq_true c2
  have c2b1 : decide (255 < a0.size) = true := decide_eq_true Z0
  clear c2
  simp only [Option.some.injEq, Prod.mk.injEq] at H
  obtain ⟨rfl, rfl⟩ := H
  go_enter Try.func59, Try.ntmps59
  go_wp2
  go_ret2
  exact Zc
 ·rw [if_neg c2] at H
  have c2b0 := decide_eq_false c2
  have c2b1 : decide (255 < a0.size) = false := decide_eq_false Z0
  clear c2
  simp only [Option.some.injEq, Prod.mk.injEq] at H
  obtain ⟨rfl, rfl⟩ := H
  go_enter Try.func59, Try.ntmps59
  go_wp2
  go_ret2
  exact Zc
def Xk.f (a0 : Int) : Option (Bool) := if a0 ≥ 2 then (some (decide (a0 ≤ 36))) else (some false)
theorem Xk.calls (a0 : Int) (r : Bool) (w : World) (h : Xk.f a0 = some r) :
 Calls Try.prog 90 #[.int .u32 a0] w fun e w' => e = .returned (.bool r) ∧ YZ w w' := by
 have H : (if a0 ≥ 2 then (some (decide (a0 ≤ 36))) else (some false)) = some r := h
 clear h
 by_cases c2 : a0 ≥ 2
 ·rw [if_pos c2] at H
  have c2b0 := decide_eq_true c2
  clear c2
  obtain rfl := Option.some.inj H
  go_enter Try.func90, Try.ntmps90
  go_wp2
  go_ret
  exact Zc
 ·rw [if_neg c2] at H
  have c2b0 := decide_eq_false c2
  clear c2
  obtain rfl := Option.some.inj H
  go_enter Try.func90, Try.ntmps90
  go_wp2
  go_ret
  exact Zc
mutual
def Yq.j0 : Nat → Int → Int → Int → Bool → Option (Int × Bool)
 | 0, _, _, _, _ => none
 | k + 1, x0, x1, x6, x7 => if x7 = true then ((Xk.f x1).bind fun t103 => (if t103 = true then (if ((x0 - 48) % 256) ≥ x1 then (some (0, false)) else (some ((x0 - 48) % 256, true))) else (some (0, false)))) else (if x0 ≥ 97 then (Yq.j1 k x0 x1 x6 (decide (x0 ≤ 122))) else (Yq.j1 k x0 x1 x6 false))
def Yq.j1 : Nat → Int → Int → Int → Bool → Option (Int × Bool)
 | 0, _, _, _, _ => none
 | k + 1, x0, x1, x6, x17 => if x17 = true then ((Xk.f x1).bind fun t104 => (if t104 = true then (if (((x0 - 97) % 256) + 10) ≥ x1 then (some (0, false)) else (some (((x0 - 97) % 256) + 10, true))) else (some (0, false)))) else (if x0 ≥ 65 then (Yq.j2 k x0 x1 x6 (decide (x0 ≤ 90))) else (Yq.j2 k x0 x1 x6 false))
def Yq.j2 : Nat → Int → Int → Int → Bool → Option (Int × Bool)
 | 0, _, _, _, _ => none
 | k + 1, x0, x1, x6, x28 => if x28 = true then ((Xk.f x1).bind fun t105 => (if t105 = true then (if (((x0 - 65) % 256) + 10) ≥ x1 then (some (0, false)) else (some (((x0 - 65) % 256) + 10, true))) else (some (0, false)))) else ((Xk.f x1).bind fun t106 => (if t106 = true then (if x6 ≥ x1 then (some (0, false)) else (some (x6, true))) else (some (0, false))))
end
def Yq.f (k : Nat) (a0 : Int) (a1 : Int) : Option (Int × Bool) := if a0 ≥ 48 then (Yq.j0 k a0 a1 255 (decide (a0 ≤ 57))) else (Yq.j0 k a0 a1 255 false)
theorem Yq.mono_l : ∀ k, (∀ y0 y1 y2 y3, LeO (Yq.j0 k y0 y1 y2 y3) (Yq.j0 (k + 1) y0 y1 y2 y3)) ∧ (∀ y0 y1 y2 y3, LeO (Yq.j1 k y0 y1 y2 y3) (Yq.j1 (k + 1) y0 y1 y2 y3)) ∧ (∀ y0 y1 y2 y3, LeO (Yq.j2 k y0 y1 y2 y3) (Yq.j2 (k + 1) y0 y1 y2 y3))
 | 0 => ⟨fun _ _ _ _ r h => by simp [Yq.j0] at h, fun _ _ _ _ r h => by simp [Yq.j1] at h, fun _ _ _ _ r h => by simp [Yq.j2] at h⟩
 | k + 1 => by
  obtain ⟨ih0, ih1, ih2⟩ := Yq.mono_l k
  refine ⟨?_, ?_, ?_⟩
  ·intro y0 y1 y2 y3
   unfold Yq.j0
   exact XI
  ·intro y0 y1 y2 y3
   unfold Yq.j1
   exact XI
  ·intro y0 y1 y2 y3
   unfold Yq.j2
   exact XI
theorem Yq.mono : ∀ a0 a1 k, LeO (Yq.f k a0 a1) (Yq.f (k + 1) a0 a1) := by
 intro a0 a1 k
 obtain ⟨ih0, ih1, ih2⟩ := Yq.mono_l k
 unfold Yq.f
 exact XI
theorem Yq.calls (k : Nat) (a0 : Int) (a1 : Int) (r1 : Int) (r2 : Bool) (w : World) (h : Yq.f k a0 a1 = some (r1, r2)) :
 Calls Try.prog 92 #[.int .u8 a0, .int .u32 a1] w fun e w' => e = .returned (.tuple #[.int .u32 r1, .bool r2]) ∧ YZ w w' := by
 have H : (if a0 ≥ 48 then (Yq.j0 k a0 a1 255 (decide (a0 ≤ 57))) else (Yq.j0 k a0 a1 255 false)) = some (r1, r2) := h
 clear h
 have HC3 := Aside0.mk H
 clear H
 go_enter Try.func92, Try.ntmps92
 go_upto_region 2 with (fail)
 go_cut [7] (fun v7 wc => ∃ (kq : Nat) (x7_2 : Bool), v7 = .bool x7_2 ∧ Aside0 (Yq.j0 kq a0 a1 255 x7_2 = some (r1, r2)) ∧ Aside0 (kq ≤ k) ∧ YZ w wc)
 case first =>
  have H := HC3.out
  clear HC3
  by_cases c4 : a0 ≥ 48
  ·rw [if_pos c4] at H
   have c4b0 := decide_eq_true c4
   clear c4
   (first | rw [c4b0] | (simp only [YH, YJ]; rw [c4b0]) | skip)
   have H' := Aside0.mk H
   clear H
   go_wp2
   go_meet
   case rel => exact ⟨_, (decide (a0 ≤ 57)), Z4, H', ⟨ZD⟩, Z8⟩
  ·rw [if_neg c4] at H
   have c4b0 := decide_eq_false c4
   clear c4
   (first | rw [c4b0] | (simp only [YH, YJ]; rw [c4b0]) | skip)
   have H' := Aside0.mk H
   clear H
   go_wp2
   go_meet
   case rel => exact ⟨_, (false), Z4, H', ⟨ZD⟩, Z8⟩
 case rest =>
  clear HC3
  try clear p2
  try clear c4
  try clear c4b0
  obtain ⟨kq, x7_2, rfl, HA, HJ2, ⟨mc2, rfl⟩⟩ := hcut
  cases kq with
  | zero => exact absurd HA.out (by simp [Yq.j0])
  | succ kj2 =>
   have H := HA.out
   clear HA
   simp only [Yq.j0] at H
   by_cases c5 : x7_2 = true
   ·subst c5
    rw [if_pos rfl] at H
    replace H := bE H; obtain ⟨t103, A6, H⟩ := H
    by_cases c7 : t103 = true
    ·subst c7
     rw [if_pos rfl] at H
     by_cases c8 : ((a0 - 48) % 256) ≥ a1
     ·rw [if_pos c8] at H
      have c8b0 := decide_eq_true c8
      clear c8
      simp only [Option.some.injEq, Prod.mk.injEq] at H
      obtain ⟨rfl, rfl⟩ := H
      go_wp2_with (first | ((with_reducible refine Ym (f := 90) rfl ?_); refine YL (some 40) rfl rfl Try.func90 Z2 rfl #[.int .u32 a1] rfl Zb ?_; (with_reducible refine (Xk.calls a1 true _ A6.out).mono ?_); rintro e w' ⟨rfl, ⟨nd, rfl⟩⟩; refine ⟨_, rfl, ?_⟩))
      go_ret2
      exact Zc
     ·rw [if_neg c8] at H
      have c8b0 := decide_eq_false c8
      clear c8
      simp only [Option.some.injEq, Prod.mk.injEq] at H
      obtain ⟨rfl, rfl⟩ := H
      go_wp2_with (first | ((with_reducible refine Ym (f := 90) rfl ?_); refine YL (some 40) rfl rfl Try.func90 Z2 rfl #[.int .u32 a1] rfl Zb ?_; (with_reducible refine (Xk.calls a1 true _ A6.out).mono ?_); rintro e w' ⟨rfl, ⟨nd, rfl⟩⟩; refine ⟨_, rfl, ?_⟩))
      go_ret2
      exact Zc
    ·replace c7 := Bool.eq_false_iff.mpr c7
     subst c7
     rw [if_neg Z1] at H
     simp only [Option.some.injEq, Prod.mk.injEq] at H
     obtain ⟨rfl, rfl⟩ := H
     go_wp2_with (first | ((with_reducible refine Ym (f := 90) rfl ?_); refine YL (some 40) rfl rfl Try.func90 Z2 rfl #[.int .u32 a1] rfl Zb ?_; (with_reducible refine (Xk.calls a1 false _ A6.out).mono ?_); rintro e w' ⟨rfl, ⟨nd, rfl⟩⟩; refine ⟨_, rfl, ?_⟩))
     go_ret2
     exact Zc
   ·replace c5 := Bool.eq_false_iff.mpr c5
    subst c5
    rw [if_neg Z1] at H
    have HC9 := Aside0.mk H
    clear H
    go_upto_region 4 with (fail)
    go_cut [17] (fun v17 wc => ∃ (kq : Nat) (x17_8 : Bool), v17 = .bool x17_8 ∧ Aside0 (Yq.j1 kq a0 a1 255 x17_8 = some (r1, r2)) ∧ Aside0 (kq ≤ kj2) ∧ YZ w wc)
    case first =>
     have H := HC9.out
     clear HC9
     by_cases c10 : a0 ≥ 97
     ·rw [if_pos c10] at H
      have c10b0 := decide_eq_true c10
      clear c10
      (first | rw [c10b0] | (simp only [YH, YJ]; rw [c10b0]) | skip)
      have H' := Aside0.mk H
      clear H
      go_wp2
      go_meet
      case rel => exact ⟨_, (decide (a0 ≤ 122)), Z4, H', ⟨(Zo HJ2.out)⟩, Z8⟩
     ·rw [if_neg c10] at H
      have c10b0 := decide_eq_false c10
      clear c10
      (first | rw [c10b0] | (simp only [YH, YJ]; rw [c10b0]) | skip)
      have H' := Aside0.mk H
      clear H
      go_wp2
      go_meet
      case rel => exact ⟨_, (false), Z4, H', ⟨(Zo HJ2.out)⟩, Z8⟩
    case rest =>
     clear HC9
     try clear c1
     try clear c2
     try clear p2
     try clear c4
     try clear c4b0
     try clear c5
     try clear c7
     try clear c8
     try clear c8b0
     try clear c9
     try clear c10
     try clear c10b0
     try clear p2
     obtain ⟨kq, x17_8, rfl, HA, HJ8, ⟨mc8, rfl⟩⟩ := hcut
     cases kq with
     | zero => exact absurd HA.out (by simp [Yq.j1])
     | succ kj8 =>
      have H := HA.out
      clear HA
      simp only [Yq.j1] at H
      by_cases c11 : x17_8 = true
      ·subst c11
       rw [if_pos rfl] at H
       replace H := bE H; obtain ⟨t104, A12, H⟩ := H
       by_cases c13 : t104 = true
       ·subst c13
        rw [if_pos rfl] at H
        by_cases c14 : (((a0 - 97) % 256) + 10) ≥ a1
        ·rw [if_pos c14] at H
         have c14b0 := decide_eq_true c14
         clear c14
         simp only [Option.some.injEq, Prod.mk.injEq] at H
         obtain ⟨rfl, rfl⟩ := H
         go_wp2_with (first | ((with_reducible refine Ym (f := 90) rfl ?_); refine YL (some 40) rfl rfl Try.func90 Z2 rfl #[.int .u32 a1] rfl Zb ?_; (with_reducible refine (Xk.calls a1 true _ A12.out).mono ?_); rintro e w' ⟨rfl, ⟨nd, rfl⟩⟩; refine ⟨_, rfl, ?_⟩))
         go_ret2
         exact Zc
        ·rw [if_neg c14] at H
         have c14b0 := decide_eq_false c14
         clear c14
         simp only [Option.some.injEq, Prod.mk.injEq] at H
         obtain ⟨rfl, rfl⟩ := H
         go_wp2_with (first | ((with_reducible refine Ym (f := 90) rfl ?_); refine YL (some 40) rfl rfl Try.func90 Z2 rfl #[.int .u32 a1] rfl Zb ?_; (with_reducible refine (Xk.calls a1 true _ A12.out).mono ?_); rintro e w' ⟨rfl, ⟨nd, rfl⟩⟩; refine ⟨_, rfl, ?_⟩))
         go_ret2
         exact Zc
       ·replace c13 := Bool.eq_false_iff.mpr c13
        subst c13
        rw [if_neg Z1] at H
        simp only [Option.some.injEq, Prod.mk.injEq] at H
        obtain ⟨rfl, rfl⟩ := H
        go_wp2_with (first | ((with_reducible refine Ym (f := 90) rfl ?_); refine YL (some 40) rfl rfl Try.func90 Z2 rfl #[.int .u32 a1] rfl Zb ?_; (with_reducible refine (Xk.calls a1 false _ A12.out).mono ?_); rintro e w' ⟨rfl, ⟨nd, rfl⟩⟩; refine ⟨_, rfl, ?_⟩))
        go_ret2
        exact Zc
      ·replace c11 := Bool.eq_false_iff.mpr c11
       subst c11
       rw [if_neg Z1] at H
       have HC15 := Aside0.mk H
       clear H
       go_upto_region 6 with (fail)
       go_cut [28] (fun v28 wc => ∃ (kq : Nat) (x28_14 : Bool), v28 = .bool x28_14 ∧ Aside0 (Yq.j2 kq a0 a1 255 x28_14 = some (r1, r2)) ∧ Aside0 (kq ≤ kj8) ∧ YZ w wc)
       case first =>
        have H := HC15.out
        clear HC15
        by_cases c16 : a0 ≥ 65
        ·rw [if_pos c16] at H
         have c16b0 := decide_eq_true c16
         clear c16
         (first | rw [c16b0] | (simp only [YH, YJ]; rw [c16b0]) | skip)
         have H' := Aside0.mk H
         clear H
         go_wp2
         go_meet
         case rel => exact ⟨_, (decide (a0 ≤ 90)), Z4, H', ⟨(Zo (And.intro HJ2.out HJ8.out))⟩, Z8⟩
        ·rw [if_neg c16] at H
         have c16b0 := decide_eq_false c16
         clear c16
         (first | rw [c16b0] | (simp only [YH, YJ]; rw [c16b0]) | skip)
         have H' := Aside0.mk H
         clear H
         go_wp2
         go_meet
         case rel => exact ⟨_, (false), Z4, H', ⟨(Zo (And.intro HJ2.out HJ8.out))⟩, Z8⟩
       case rest =>
        clear HC15
        try clear c1
        try clear c2
        try clear p2
        try clear c4
        try clear c4b0
        try clear c5
        try clear c7
        try clear c8
        try clear c8b0
        try clear c9
        try clear c10
        try clear c10b0
        try clear c11
        try clear c13
        try clear c14
        try clear c14b0
        try clear c16
        try clear c16b0
        try clear p2
        obtain ⟨kq, x28_14, rfl, HA, HJ14, ⟨mc14, rfl⟩⟩ := hcut
        cases kq with
        | zero => exact absurd HA.out (by simp [Yq.j2])
        | succ kj14 =>
         have H := HA.out
         clear HA
         simp only [Yq.j2] at H
         by_cases c17 : x28_14 = true
         ·subst c17
          rw [if_pos rfl] at H
          replace H := bE H; obtain ⟨t105, A18, H⟩ := H
          by_cases c19 : t105 = true
          ·subst c19
           rw [if_pos rfl] at H
           by_cases c20 : (((a0 - 65) % 256) + 10) ≥ a1
           ·rw [if_pos c20] at H
            have c20b0 := decide_eq_true c20
            clear c20
            simp only [Option.some.injEq, Prod.mk.injEq] at H
            obtain ⟨rfl, rfl⟩ := H
            go_wp2_with (first | ((with_reducible refine Ym (f := 90) rfl ?_); refine YL (some 40) rfl rfl Try.func90 Z2 rfl #[.int .u32 a1] rfl Zb ?_; (with_reducible refine (Xk.calls a1 true _ A18.out).mono ?_); rintro e w' ⟨rfl, ⟨nd, rfl⟩⟩; refine ⟨_, rfl, ?_⟩))
            go_ret2
            exact Zc
           ·rw [if_neg c20] at H
            have c20b0 := decide_eq_false c20
            clear c20
            simp only [Option.some.injEq, Prod.mk.injEq] at H
            obtain ⟨rfl, rfl⟩ := H
            go_wp2_with (first | ((with_reducible refine Ym (f := 90) rfl ?_); refine YL (some 40) rfl rfl Try.func90 Z2 rfl #[.int .u32 a1] rfl Zb ?_; (with_reducible refine (Xk.calls a1 true _ A18.out).mono ?_); rintro e w' ⟨rfl, ⟨nd, rfl⟩⟩; refine ⟨_, rfl, ?_⟩))
            go_ret2
            exact Zc
          ·replace c19 := Bool.eq_false_iff.mpr c19
           subst c19
           rw [if_neg Z1] at H
           simp only [Option.some.injEq, Prod.mk.injEq] at H
           obtain ⟨rfl, rfl⟩ := H
           go_wp2_with (first | ((with_reducible refine Ym (f := 90) rfl ?_); refine YL (some 40) rfl rfl Try.func90 Z2 rfl #[.int .u32 a1] rfl Zb ?_; (with_reducible refine (Xk.calls a1 false _ A18.out).mono ?_); rintro e w' ⟨rfl, ⟨nd, rfl⟩⟩; refine ⟨_, rfl, ?_⟩))
           go_ret2
           exact Zc
         ·replace c17 := Bool.eq_false_iff.mpr c17
          subst c17
          rw [if_neg Z1] at H
          replace H := bE H; obtain ⟨t106, A21, H⟩ := H
          by_cases c22 : t106 = true
          ·subst c22
           rw [if_pos rfl] at H
           by_cases c23 : 255 ≥ a1
           ·rw [if_pos c23] at H
            have c23b0 := decide_eq_true c23
            clear c23
            simp only [Option.some.injEq, Prod.mk.injEq] at H
            obtain ⟨rfl, rfl⟩ := H
            go_wp2_with (first | ((with_reducible refine Ym (f := 90) rfl ?_); refine YL (some 40) rfl rfl Try.func90 Z2 rfl #[.int .u32 a1] rfl Zb ?_; (with_reducible refine (Xk.calls a1 true _ A21.out).mono ?_); rintro e w' ⟨rfl, ⟨nd, rfl⟩⟩; refine ⟨_, rfl, ?_⟩))
            go_ret2
            exact Zc
           ·rw [if_neg c23] at H
            have c23b0 := decide_eq_false c23
            clear c23
            simp only [Option.some.injEq, Prod.mk.injEq] at H
            obtain ⟨rfl, rfl⟩ := H
            go_wp2_with (first | ((with_reducible refine Ym (f := 90) rfl ?_); refine YL (some 40) rfl rfl Try.func90 Z2 rfl #[.int .u32 a1] rfl Zb ?_; (with_reducible refine (Xk.calls a1 true _ A21.out).mono ?_); rintro e w' ⟨rfl, ⟨nd, rfl⟩⟩; refine ⟨_, rfl, ?_⟩))
            go_ret2
            exact Zc
          ·replace c22 := Bool.eq_false_iff.mpr c22
           subst c22
           rw [if_neg Z1] at H
           simp only [Option.some.injEq, Prod.mk.injEq] at H
           obtain ⟨rfl, rfl⟩ := H
           go_wp2_with (first | ((with_reducible refine Ym (f := 90) rfl ?_); refine YL (some 40) rfl rfl Try.func90 Z2 rfl #[.int .u32 a1] rfl Zb ?_; (with_reducible refine (Xk.calls a1 false _ A21.out).mono ?_); rintro e w' ⟨rfl, ⟨nd, rfl⟩⟩; refine ⟨_, rfl, ?_⟩))
           go_ret2
           exact Zc
def Yo.l0 : Nat → List Int → ByteArray → List Int → Int → Int → Option (List Int × Bool)
 | 0, _, _, _, _, _ => none
 | k + 1, x0, x1, x6, x11, x12 => if x12 < x11 then (if 0 ≤ x12 then (if x12 < (x1.size : Int) then ((YU.f (bt x1 x12)).bind fun t107 => (if t107 = true then (Yo.l0 k x0 x1 x6 x11 (wrap64 (x12 + 1))) else ((Yq.f k (bt x1 x12) 16).bind fun bt108 => (if bt108.2 = true then (if x6.length < 35184372088832 then ((some (x6 ++ [bt108.1] : List Int)).bind fun y110 => (if (y110.length : Int) = 2 then (if 0 < (y110.length : Int) then (if 1 < (y110.length : Int) then (if x0.length < 140737488355328 then (if 0 ≤ (y110.length : Int) then (Yo.l0 k (x0 ++ [(Go.bits .or .u32 (((rd y110 0) * 16) % 4294967296) (rd y110 1)) % 256]) x1 (y110.take (0 : Int).toNat) x11 (wrap64 (x12 + 1))) else (none)) else (none)) else (none)) else (none)) else (Yo.l0 k x0 x1 y110 x11 (wrap64 (x12 + 1))))) else (none)) else (some (([] : List Int), false)))))) else (none)) else (none)) else (some (x0, ((x6.length : Int) == 0)))
def Yo.f (k : Nat) (l0 : List Int) (a1 : ByteArray) : Option (List Int × Bool) := Yo.l0 k l0 a1 ([] : List Int) (a1.size : Int) 0
theorem Yo.mono_l : ∀ k, (∀ y0 y1 y2 y3 y4, LeO (Yo.l0 k y0 y1 y2 y3 y4) (Yo.l0 (k + 1) y0 y1 y2 y3 y4))
 | 0 => fun _ _ _ _ _ r h => by simp [Yo.l0] at h
 | k + 1 => by
  have ih0 := Yo.mono_l k
  ·intro y0 y1 y2 y3 y4
   unfold Yo.l0
   have ih7 := @Yq.mono; exact XI
theorem Yo.mono : ∀ a0 a1 k, LeO (Yo.f k a0 a1) (Yo.f (k + 1) a0 a1) := by
 intro a0 a1 k
 have ih0 := Yo.mono_l k
 unfold Yo.f
 have ih7 := @Yq.mono; exact XI
def Yo.T11 : Bool × List (List Nat × List Nat) := (true, [([], []), ([], []), ([1], [1]), ([2], [2]), ([3], [3]), ([], []), ([5], [5]), ([6], [6]), ([4, 7], [4, 7]), ([8], [8]), ([9], [9]), ([0, 10], [0, 10]), ([], []), ([12], [12]), ([11, 11, 0, 1, 2, 3, 4, 5, 6, 7, 8, 9, 10, 11], [0, 11]), ([13, 14, 0, 1, 2, 3, 4, 5, 6, 7, 8, 9, 10, 11, 12, 13, 14], [1, 5, 12, 13])])
def Yo.B11 : List Nat := [0, 0, 2, 6, 14, 0, 32, 96, 254, 510, 1022, 2047, 0, 4096, 4095, 32767]
theorem Yo.tab11 : rtab .any (Yaw Try.f85 11) = Yo.T11 := by kernel_rfl
theorem Yo.bits11 : Yah Yo.T11.2 Yo.B11 = true := by kernel_rfl
theorem Yo.calls (k : Nat) (P0_ : Nat → Prop) (u9000_ : Value) (l0 : List Int) (a1 : ByteArray) (r1 : List Int) (r2 : Bool) (w0 w : World) (hB : Below w0.heap.size w0 w) (ho0 : Kd.R (Kd.int .u8) 5 w w0.heap.size P0_ u9000_ l0) (h : Yo.f k l0 a1 = some (r1, r2)) :
 Calls Try.prog 85 #[u9000_, .string a1] w fun e w' => ∃ v0_ : Value, e = .returned (.tuple #[v0_, .bool r2]) ∧ Kd.R (Kd.int .u8) 5 w' w0.heap.size (fun k_ => (P0_ k_ ∨ w.heap.size ≤ k_)) v0_ r1 ∧ Below w0.heap.size w0 w' ∧ Kept w w' (fun k_ => P0_ k_) := by
 have HO0 := Aside0.mk (show Kd.R (Kd.int .u8) 5 w w0.heap.size (fun k_ => (P0_ k_ ∨ w.heap.size ≤ k_)) u9000_ l0 from Kd.R_mono ho0 (fun k_ hk => (.inl hk)))
 have HK := Aside0.mk (Kept.refl w (fun k_ => P0_ k_))
 have HW0 := Aside0.mk hB.size
 have HB := Aside0.mk hB
 clear hB
 have H : (Yo.l0 k l0 a1 ([] : List Int) (a1.size : Int) 0) = some (r1, r2) := h
 clear h
 have H' := Aside0.mk H
 clear H
 go_enter Try.func85, Try.ntmps85
 go_wp2
 go_loopg [0, 6, 12] k (fun kq v0 v6 v12 w' => ∃ (x0_1 : List Int) (x6_1 : List Int) (x12_1 : Int), v12 = .int .i64 x12_1 ∧ Aside0 (Yo.l0 kq x0_1 a1 x6_1 (a1.size : Int) x12_1 = some (r1, r2)) ∧ Aside0 (kq ≤ k) ∧ Aside0 (Kd.R (Kd.int .u8) 5 w' w0.heap.size (fun k_ => (P0_ k_ ∨ w.heap.size ≤ k_)) v0 x0_1) ∧ Aside0 (Kd.R (Kd.int .u32) 35 w' w0.heap.size (fun k_ => (P0_ k_ ∨ w.heap.size ≤ k_)) v6 x6_1) ∧ Aside0 (Kept w w' (fun k_ => P0_ k_)) ∧ Aside0 (Below w0.heap.size w0 w'))
 case atStart => exact ⟨(l0), (([] : List Int)), (0), Z4, H', ⟨Nat.le_refl _⟩, ⟨(Zr HO0.out)⟩, ⟨Zl⟩, ⟨Zn⟩, ⟨Z6⟩⟩
 case round =>
  clear H'
  try clear p2
  obtain ⟨x0_1, x6_1, x12_1, rfl, HA, HK1, HO_0, HO_6, HK, HB⟩ := hrel
  cases gk with
  | zero => exact absurd HA.out (by simp [Yo.l0])
  | succ k1 =>
   have H := HA.out
   clear HA
   simp only [Yo.l0] at H
   by_cases c3 : x12_1 < (a1.size : Int)
   ·rw [if_pos c3] at H
    have c3b0 := decide_eq_true c3
    clear c3
    by_cases c4 : 0 ≤ x12_1
    ·rw [if_pos c4] at H
     have c4b0 := decide_eq_true c4
     clear c4
     by_cases c5 : x12_1 < (a1.size : Int)
     ·rw [if_pos c5] at H
      have c5b0 := decide_eq_true c5
      clear c5
      replace H := bE H; obtain ⟨t107, A7, H⟩ := H
      by_cases c8 : t107 = true
      ·subst c8
       rw [if_pos rfl] at H
       have H' := Aside0.mk H
       clear H
       have p6 : 0 ≤ (x12_1 : Int) := of_decide_eq_true Z5
       have q6 : x12_1 < (a1.size : Int) := of_decide_eq_true Z5
       have hx6 := XD a1 x12_1
       replace p6 := eq_true p6
       replace q6 := eq_true q6
       go_wp2_with (first | ((with_reducible refine Ym (f := 57) rfl ?_); refine YL (some 18) rfl rfl Try.func57 Z2 rfl #[.int .u8 (bt a1 x12_1)] rfl Zb ?_; (with_reducible refine (YU.calls (bt a1 x12_1) true _ A7.out).mono ?_); rintro e w' ⟨rfl, ⟨nd, rfl⟩⟩; refine ⟨_, rfl, ?_⟩))
       go_roundg k1
       case measure => have := HK1.out; omega
       case rel => exact ⟨(x0_1), (x6_1), (wrap64 (x12_1 + 1)), Z4, H', ⟨(Zo HK1.out)⟩, ⟨(Zr HO_0.out)⟩, ⟨(Zr HO_6.out)⟩, ⟨Zn⟩, ⟨Z6⟩⟩
      ·replace c8 := Bool.eq_false_iff.mpr c8
       subst c8
       rw [if_neg Z1] at H
       replace H := bE H; obtain ⟨⟨t108, t109⟩, A10, H⟩ := H; try dsimp only at H
       by_cases c11 : t109 = true
       ·subst c11
        rw [if_pos rfl] at H
        by_cases c12 : x6_1.length < 35184372088832
        ·rw [if_pos c12] at H
         have LMc12 := Aside0.mk c12
         clear c12
         obtain ⟨y110, Ny110⟩ := aE (x6_1 ++ [t108]); rw [← Ny110.out] at H; try rw [Option.bind_some] at H
         by_cases c13 : (y110.length : Int) = 2
         ·rw [if_pos c13] at H
          obtain ⟨c13b0, c13b1⟩ := eqB c13
          clear c13
          by_cases c14 : 0 < (y110.length : Int)
          ·rw [if_pos c14] at H
           have c14b0 := decide_eq_true c14
           have c14b1 : decide (0 < y110.length) = true := decide_eq_true Z0
           clear c14
           by_cases c15 : 1 < (y110.length : Int)
           ·rw [if_pos c15] at H
            have c15b0 := decide_eq_true c15
            have c15b1 : decide (1 < y110.length) = true := decide_eq_true Z0
            clear c15
            by_cases c16 : x0_1.length < 140737488355328
            ·rw [if_pos c16] at H
             have LMc16 := Aside0.mk c16
             clear c16
             obtain ⟨y115, Ny115⟩ := aE (x0_1 ++ [(Go.bits .or .u32 (((rd y110 0) * 16) % 4294967296) (rd y110 1)) % 256]); rw [← Ny115.out] at H; try rw [Option.bind_some] at H
             by_cases c17 : 0 ≤ (y110.length : Int)
             ·rw [if_pos c17] at H
              have c17b0 := eq_true c17
              have c17b1 := decide_eq_true c17
              clear c17
              obtain ⟨y118, Ny118⟩ := aE (y110.take (0 : Int).toNat); rw [← Ny118.out] at H; try rw [Option.bind_some] at H
              have H' := Aside0.mk H
              clear H
              have p6 : 0 ≤ (x12_1 : Int) := of_decide_eq_true Z5
              have q6 : x12_1 < (a1.size : Int) := of_decide_eq_true Z5
              have hx6 := XD a1 x12_1
              replace p6 := eq_true p6
              replace q6 := eq_true q6
              try go_wp2_with (first | ((with_reducible refine Ym (f := 57) rfl ?_); refine YL (some 18) rfl rfl Try.func57 Z2 rfl #[.int .u8 (bt a1 x12_1)] rfl Zb ?_; (with_reducible refine (YU.calls (bt a1 x12_1) false _ A7.out).mono ?_); rintro e w' ⟨rfl, ⟨nd, rfl⟩⟩; refine ⟨_, rfl, ?_⟩; have p9 : 0 ≤ (x12_1 : Int) := of_decide_eq_true Z5; have q9 : x12_1 < (a1.size : Int) := of_decide_eq_true Z5; have hx9 := XD a1 x12_1; replace p9 := eq_true p9; replace q9 := eq_true q9) | ((with_reducible refine Ym (f := 92) rfl ?_); refine YL (some 23) rfl rfl Try.func92 Z2 rfl #[.int .u8 (bt a1 x12_1), .int .u32 16] rfl Zb ?_; (with_reducible refine (Yq.calls k1 (bt a1 x12_1) 16 t108 true _ A10.out).mono ?_); rintro e w' ⟨rfl, ⟨nd, rfl⟩⟩; refine ⟨_, rfl, ?_⟩) | ((with_reducible refine Xj (b := .append) (xs := #[.tmp 28, .tmp 30]) rfl ?_); at_builtin; refine Kd.R_append (Kd.int .u32) (w0 := w0) w0.heap.size rfl (.tmp 28) (.tmp 30) 30 35 (.int .u32 0) 4 rfl Try.underlying30 info35 rfl Z1 Z0 u6 x6_1 t108 [.int .u32 t108] (fun k_ => (P0_ k_ ∨ w.heap.size ≤ k_)) (fun _ => False) rfl rfl ?aP (fun _ hk => hk.elim) ?aF ?aO ?aB ?aS ?aL ?_; (case aP => exact rfl); (case aB => exact Z6); (case aF => exact (fun k_ hk => (.inr (Nat.le_trans Z1y hk)))); (case aO => exact (Zr HO_6.out)); (case aS => exact (YK Z6)); (case aL => exact (Zo LMc12.out)); intro v111 w18 ho hb hg hat; rw [← Ny110.out] at ho; have n0_ := Aside0.mk (Kd.R_over' (Zr HO_0.out) (Kd.R_typed (Zr HO_6.out)) Z1 hg); have n1_ := Aside0.mk (hb); have n2_ := Aside0.mk (Kept.of_grown (S := (fun k_ => P0_ k_)) hg Zn (fun k_ e_ => (HO_6.out.1 k_ e_))); have n3_ := Aside0.mk (ho); clear HO_0; clear HB; clear HK; clear HO_6; have HO_0 := n0_; have HB := n1_; have HK := n2_; have HO112 := n3_; clear n0_ n1_ n2_ n3_; clear ho hb hg hat; obtain ⟨Ao19, co19, eo19⟩ := Kd.R_slice HO112.out; subst eo19))
              have n0_ := Aside0.mk (Kd.R_drew HO_0.out)
              have n1_ := Aside0.mk (Kd.R_drew HO112.out)
              have n2_ := Aside0.mk (Kept.drew HK.out)
              have n3_ := Aside0.mk (VA HB.out)
              clear HO_0
              clear HO112
              clear HK
              clear HB
              have HO_0 := n0_
              have HO112 := n1_
              have HK := n2_
              have HB := n3_
              clear n0_ n1_ n2_ n3_
              have p113 : 0 ≤ (0 : Int) := Z0
              have q113 : 0 < (y110.length : Int) := of_decide_eq_true Z5
              obtain ⟨ad113, e113, hx113_0⟩ := Kd.at_int (Kd.R_reads' HO112.out).2.2 0 p113 q113
              cases e113
              have qi113 : (0 < y110.length) = True := eq_true Z0
              (try rw [show ((0 : Int)).toNat = 0 from rfl] at hx113_0)
              (try rw [Addr.add_zero'] at hx113_0)
              replace p113 := eq_true p113
              replace q113 := eq_true q113
              have p114 : 0 ≤ (1 : Int) := Z0
              have q114 : 1 < (y110.length : Int) := of_decide_eq_true Z5
              obtain ⟨ad114, e114, hx114_0⟩ := Kd.at_int (Kd.R_reads' HO112.out).2.2 1 p114 q114
              obtain rfl : ad113 = ad114 := (by injection e114)
              (try simp only [show (1 : Int).toNat = 1 from rfl, Nat.reduceMul, Nat.reduceEqDiff, Go.Addr.add, ↓reduceIte] at hx114_0)
              have qi114 : (1 < y110.length) = True := eq_true Z0
              (try rw [show ((1 : Int)).toNat = 1 from rfl] at hx114_0)
              replace p114 := eq_true p114
              replace q114 := eq_true q114
              have q21 : (0 : Int) ≤ ((y110.length : Int) : Int) := of_decide_eq_true Z5
              obtain ⟨i021, hi021, _, hsz21, _⟩ := info_parts info35
              have hcut21 := cut_to (P := Try.prog) 30 35 .i64 Try.underlying30 hi021 (some ad113) y110.length co19 0 Z0 q21 (Kd.R_reads' HO112.out).2.1
              have hr21 := Kd.R_take (m := (0 : Int).toNat) HO112.out Z0
              have hy21 : y118.length = (0 : Int).toNat := (by rw [Ny118.out, List.length_take]; omega)
              rw [← Ny118.out] at hr21
              rw [← hy21] at hr21 hcut21
              clear hy21 hi021 hsz21 HO112
              have HO120 := Aside0.mk hr21
              clear hr21
              replace q21 := eq_true q21
              refine Yam (n := 16) (S := fun w' => w'.cell? ad113 = some (.int .u32 (rd y110 0)) ∧ w'.cell? ⟨ad113.block, ad113.off + 1, none⟩ = some (.int .u32 (rd y110 1))) (ds := [10, 11]) #[false, false, false, false, false, false, false, false, false, false, false, false, false, false, false, false] Z2 rfl rfl ⟨hx113_0, hx114_0⟩ (fun hHeld => ?_); refine with_tabW Yo.tab11 Yo.bits11 (fun HT_ HW_ => ?_)
              generalize w18.drew = w20 at HO_0 HK HB HO120 hx113_0 hx114_0 hHeld ⊢
              refine Xr (i := 0) (N := some 35) (v := ?_) (a' := ?_) #[true, false, false, false, false, false, false, false, false, false, false, false, false, false, false, false] rfl rfl (any_of HT_.out Z2) (fun _ _ _ h => h) (Or.inl ⟨Z7, ?_⟩) ?_ ?_
              rotate_left
              ·intro w'
               go_simp
               with_reducible rfl
              rotate_left
              ·simp only [Act.put, List.setIfInBounds_toArray, List.set_cons_zero, List.set_cons_succ, YH, YJ]
               rfl
              refine Xr (i := 1) (N := some 36) (v := ?_) (a' := ?_) #[true, true, false, false, false, false, false, false, false, false, false, false, false, false, false, false] rfl rfl (any_of HT_.out Z2) (fun _ _ _ h => h) (Or.inl ⟨Z7, ?_⟩) ?_ ?_
              rotate_left
              ·intro w'
               go_simp
               with_reducible rfl
              rotate_left
              ·simp only [Act.put, List.setIfInBounds_toArray, List.set_cons_zero, List.set_cons_succ, YH, YJ]
               rfl
              refine Xr (i := 2) (N := some 37) (v := ?_) (a' := ?_) #[true, true, true, false, false, false, false, false, false, false, false, false, false, false, false, false] rfl rfl (any_of HT_.out Z2) (fun _ _ _ h => h) (Or.inl ⟨Z7, ?_⟩) ?_ ?_
              rotate_left
              ·intro w'
               go_simp
               with_reducible rfl
              rotate_left
              ·simp only [Act.put, List.setIfInBounds_toArray, List.set_cons_zero, List.set_cons_succ, YH, YJ]
               rfl
              refine Xr (i := 5) (N := some 40) (v := ?_) (a' := ?_) #[true, true, true, false, false, true, false, false, false, false, false, false, false, false, false, false] rfl rfl (any_of HT_.out Z2) (fun _ _ _ h => h) (Or.inl ⟨Z7, ?_⟩) ?_ ?_
              rotate_left
              ·intro w'
               go_simp
               with_reducible rfl
              rotate_left
              ·simp only [Act.put, List.setIfInBounds_toArray, List.set_cons_zero, List.set_cons_succ, YH, YJ]
               rfl
              refine Xr (i := 6) (N := some 41) (v := ?_) (a' := ?_) #[true, true, true, false, false, true, true, false, false, false, false, false, false, false, false, false] rfl rfl (any_of HT_.out Z2) (fun _ _ _ h => h) (Or.inl ⟨Z7, ?_⟩) ?_ ?_
              rotate_left
              ·intro w'
               go_simp
               with_reducible rfl
              rotate_left
              ·simp only [Act.put, List.setIfInBounds_toArray, List.set_cons_zero, List.set_cons_succ, YH, YJ]
               rfl
              refine Xr (i := 12) (N := some 47) (v := ?_) (a' := ?_) #[true, true, true, false, false, true, true, false, false, false, false, false, true, false, false, false] rfl rfl (any_of HT_.out Z2) (fun _ _ _ h => h) (Or.inl ⟨Z7, ?_⟩) ?_ ?_
              rotate_left
              ·intro w'
               go_simp
               with_reducible rfl
              rotate_left
              ·simp only [Act.put, List.setIfInBounds_toArray, List.set_cons_zero, List.set_cons_succ, YH, YJ]
               rfl
              refine Xr (i := 13) (N := some 48) (v := ?_) (a' := ?_) #[true, true, true, false, false, true, true, false, false, false, false, false, true, true, false, false] rfl rfl (any_of HT_.out Z2) (fun _ _ _ h => h) (Or.inl ⟨Z7, ?_⟩) ?_ ?_
              rotate_left
              ·intro w'
               go_simp
               with_reducible rfl
              rotate_left
              ·simp only [Act.put, List.setIfInBounds_toArray, List.set_cons_zero, List.set_cons_succ, YH, YJ]
               rfl
              refine take_ (i := 3) (N := some 38) (v := ?_) (a' := ?_) #[true, true, true, true, false, true, true, false, false, false, false, false, true, true, false, false] rfl rfl (Yc9 HT_.out HW_.out Z2) (fun _ _ _ h => h) (Or.inl ⟨Z7, ?_⟩) hHeld ?_ ?_
              rotate_left
              ·rintro w' ⟨s0, s1⟩
               go_simp
               with_reducible rfl
              rotate_left
              ·simp only [Act.put, List.setIfInBounds_toArray, List.set_cons_zero, List.set_cons_succ, YH, YJ]
               rfl
              refine Xr (i := 4) (N := some 39) (v := ?_) (a' := ?_) #[true, true, true, true, true, true, true, false, false, false, false, false, true, true, false, false] rfl rfl (any_of HT_.out Z2) (fun _ _ _ h => h) (Or.inl ⟨Z7, ?_⟩) ?_ ?_
              rotate_left
              ·intro w'
               go_simp
               with_reducible rfl
              rotate_left
              ·simp only [Act.put, List.setIfInBounds_toArray, List.set_cons_zero, List.set_cons_succ, YH, YJ]
               rfl
              refine take_ (i := 7) (N := some 42) (v := ?_) (a' := ?_) #[true, true, true, true, true, true, true, true, false, false, false, false, true, true, false, false] rfl rfl (Yc9 HT_.out HW_.out Z2) (fun _ _ _ h => h) (Or.inl ⟨Z7, ?_⟩) hHeld ?_ ?_
              rotate_left
              ·rintro w' ⟨s0, s1⟩
               go_simp
               with_reducible rfl
              rotate_left
              ·simp only [Act.put, List.setIfInBounds_toArray, List.set_cons_zero, List.set_cons_succ, YH, YJ]
               rfl
              refine Xr (i := 8) (N := some 43) (v := ?_) (a' := ?_) #[true, true, true, true, true, true, true, true, true, false, false, false, true, true, false, false] rfl rfl (any_of HT_.out Z2) (fun _ _ _ h => h) (Or.inl ⟨Z7, ?_⟩) ?_ ?_
              rotate_left
              ·intro w'
               go_simp
               with_reducible rfl
              rotate_left
              ·simp only [Act.put, List.setIfInBounds_toArray, List.set_cons_zero, List.set_cons_succ, YH, YJ]
               rfl
              refine Xr (i := 9) (N := some 44) (v := ?_) (a' := ?_) #[true, true, true, true, true, true, true, true, true, true, false, false, true, true, false, false] rfl rfl (any_of HT_.out Z2) (fun _ _ _ h => h) (Or.inl ⟨Z7, ?_⟩) ?_ ?_
              rotate_left
              ·intro w'
               go_simp
               with_reducible rfl
              rotate_left
              ·simp only [Act.put, List.setIfInBounds_toArray, List.set_cons_zero, List.set_cons_succ, YH, YJ]
               rfl
              refine YcM (i := 10) (N := some 45) #[true, true, true, true, true, true, true, true, true, true, true, false, true, true, false, false] rfl rfl (VM HT_.out Z2) Z1 (fun K hK => ?_)
              refine JR (w1 := ?_) (v := ?_) Z7 rfl ?_ ?_
              rotate_left 2
              ·go_simp
               constructor
               ·rfl
               ·rfl
              refine hK.out _ _ ?_
              clear hK K
              refine Jd (a' := ?_) ?_ ?_
              rotate_left
              ·show Act.put _ (some 45) _ = _
               simp only [Act.put, List.setIfInBounds_toArray, List.set_cons_zero, List.set_cons_succ, YH, YJ]
               rfl
              refine YcM (i := 11) (N := some 46) #[true, true, true, true, true, true, true, true, true, true, true, true, true, true, false, false] rfl rfl (VM HT_.out Z2) Z1 (fun K hK => ?_)
              refine Kd.R_append_step (Kd.int .u8) (w0 := w0) w0.heap.size Z7 (.tmp 35) (.tmp 45) 29 5 (.int .u8 0) 1 rfl Try.underlying29 VL rfl Z1 Z0 u0 x0_1 ((Go.bits .or .u32 (((rd y110 0) * 16) % 4294967296) (rd y110 1)) % 256) [.int .u8 ((Go.bits .or .u32 (((rd y110 0) * 16) % 4294967296) (rd y110 1)) % 256)] (fun k_ => (P0_ k_ ∨ w.heap.size ≤ k_)) (fun _ => False) rfl rfl ?aP (fun _ hk => hk.elim) ?aF ?aO ?aB ?aS ?aL ?_
              (case aP => exact rfl)
              (case aB => exact Z6)
              (case aF => exact (fun k_ hk => (.inr (Nat.le_trans Z1y hk))))
              (case aO => exact (Zr HO_0.out))
              (case aS => exact (YK Z6))
              (case aL => exact (Zo LMc16.out))
              intro v116 w22 ho hb hg hat
              rw [← Ny115.out] at ho
              have n0_ := Aside0.mk (Kd.R_over' (Zr HO120.out) (Kd.R_typed (Zr HO_0.out)) Z1 hg)
              have n1_ := Aside0.mk (hb)
              have n2_ := Aside0.mk (Kept.of_grown (S := (fun k_ => P0_ k_)) hg Zn (fun k_ e_ => (HO_0.out.1 k_ e_)))
              have n3_ := Aside0.mk (ho)
              clear HO120
              clear HB
              clear HK
              clear HO_0
              have HO120 := n0_
              have HB := n1_
              have HK := n2_
              have HO117 := n3_
              clear n0_ n1_ n2_ n3_
              clear ho hb hg hat
              refine hK.out _ _ ?_
              clear hK K
              refine Jd (a' := ?_) ?_ ?_
              rotate_left
              ·show Act.put _ (some 46) _ = _
               simp only [Act.put, List.setIfInBounds_toArray, List.set_cons_zero, List.set_cons_succ, YH, YJ]
               rfl
              refine Xr (i := 14) (N := some 0) (v := ?_) (a' := ?_) #[true, true, true, true, true, true, true, true, true, true, true, true, true, true, true, false] rfl rfl (any_of HT_.out Z2) (fun _ _ _ h => h) (Or.inl ⟨Z7, ?_⟩) ?_ ?_
              rotate_left
              ·intro w'
               go_simp
               with_reducible rfl
              rotate_left
              ·simp only [Act.put, List.setIfInBounds_toArray, List.set_cons_zero, List.set_cons_succ, YH, YJ]
               rfl
              refine Xr (i := 15) (N := some 6) (v := ?_) (a' := ?_) #[true, true, true, true, true, true, true, true, true, true, true, true, true, true, true, true] rfl rfl (any_of HT_.out Z2) (fun _ _ _ h => h) (Or.inl ⟨Z7, ?_⟩) ?_ ?_
              rotate_left
              ·intro w'
               go_simp
               with_reducible rfl
              rotate_left
              ·simp only [Act.put, List.setIfInBounds_toArray, List.set_cons_zero, List.set_cons_succ, YH, YJ]
               rfl
              refine Ycm (UM HT_.out Z2) ?_
              try go_wp2
              go_roundg k1
              case measure => have := HK1.out; omega
              case rel => exact ⟨(y115), (y118), (wrap64 (x12_1 + 1)), Z4, H', ⟨(Zo HK1.out)⟩, ⟨(Zr HO117.out)⟩, ⟨(Zr HO120.out)⟩, ⟨Zn⟩, ⟨Z6⟩⟩
             ·rw [if_neg c17] at H
              exact absurd H Z3
            ·rw [if_neg c16] at H
             exact absurd H Z3
           ·rw [if_neg c15] at H
            exact absurd H Z3
          ·rw [if_neg c14] at H
           exact absurd H Z3
         ·rw [if_neg c13] at H
          obtain ⟨c13b0, c13b1⟩ := neB c13
          have H' := Aside0.mk H
          clear H
          have p6 : 0 ≤ (x12_1 : Int) := of_decide_eq_true Z5
          have q6 : x12_1 < (a1.size : Int) := of_decide_eq_true Z5
          have hx6 := XD a1 x12_1
          replace p6 := eq_true p6
          replace q6 := eq_true q6
          go_wp2_with (first | ((with_reducible refine Ym (f := 57) rfl ?_); refine YL (some 18) rfl rfl Try.func57 Z2 rfl #[.int .u8 (bt a1 x12_1)] rfl Zb ?_; (with_reducible refine (YU.calls (bt a1 x12_1) false _ A7.out).mono ?_); rintro e w' ⟨rfl, ⟨nd, rfl⟩⟩; refine ⟨_, rfl, ?_⟩; have p9 : 0 ≤ (x12_1 : Int) := of_decide_eq_true Z5; have q9 : x12_1 < (a1.size : Int) := of_decide_eq_true Z5; have hx9 := XD a1 x12_1; replace p9 := eq_true p9; replace q9 := eq_true q9) | ((with_reducible refine Ym (f := 92) rfl ?_); refine YL (some 23) rfl rfl Try.func92 Z2 rfl #[.int .u8 (bt a1 x12_1), .int .u32 16] rfl Zb ?_; (with_reducible refine (Yq.calls k1 (bt a1 x12_1) 16 t108 true _ A10.out).mono ?_); rintro e w' ⟨rfl, ⟨nd, rfl⟩⟩; refine ⟨_, rfl, ?_⟩) | ((with_reducible refine Xj (b := .append) (xs := #[.tmp 28, .tmp 30]) rfl ?_); at_builtin; refine Kd.R_append (Kd.int .u32) (w0 := w0) w0.heap.size rfl (.tmp 28) (.tmp 30) 30 35 (.int .u32 0) 4 rfl Try.underlying30 info35 rfl Z1 Z0 u6 x6_1 t108 [.int .u32 t108] (fun k_ => (P0_ k_ ∨ w.heap.size ≤ k_)) (fun _ => False) rfl rfl ?aP (fun _ hk => hk.elim) ?aF ?aO ?aB ?aS ?aL ?_; (case aP => exact rfl); (case aB => exact Z6); (case aF => exact (fun k_ hk => (.inr (Nat.le_trans Z1y hk)))); (case aO => exact (Zr HO_6.out)); (case aS => exact (YK Z6)); (case aL => exact (Zo LMc12.out)); intro v111 w23 ho hb hg hat; rw [← Ny110.out] at ho; have n0_ := Aside0.mk (Kd.R_over' (Zr HO_0.out) (Kd.R_typed (Zr HO_6.out)) Z1 hg); have n1_ := Aside0.mk (hb); have n2_ := Aside0.mk (Kept.of_grown (S := (fun k_ => P0_ k_)) hg Zn (fun k_ e_ => (HO_6.out.1 k_ e_))); have n3_ := Aside0.mk (ho); clear HO_0; clear HB; clear HK; clear HO_6; have HO_0 := n0_; have HB := n1_; have HK := n2_; have HO112 := n3_; clear n0_ n1_ n2_ n3_; clear ho hb hg hat; obtain ⟨Ao24, co24, eo24⟩ := Kd.R_slice HO112.out; subst eo24))
          go_roundg k1
          case measure => have := HK1.out; omega
          case rel => exact ⟨(x0_1), (y110), (wrap64 (x12_1 + 1)), Z4, H', ⟨(Zo HK1.out)⟩, ⟨(Zr HO_0.out)⟩, ⟨(Zr HO112.out)⟩, ⟨Zn⟩, ⟨Z6⟩⟩
        ·rw [if_neg c12] at H
         exact absurd H Z3
       ·replace c11 := Bool.eq_false_iff.mpr c11
        subst c11
        rw [if_neg Z1] at H
        simp only [Option.some.injEq, Prod.mk.injEq] at H
        obtain ⟨rfl, rfl⟩ := H
        have p6 : 0 ≤ (x12_1 : Int) := of_decide_eq_true Z5
        have q6 : x12_1 < (a1.size : Int) := of_decide_eq_true Z5
        have hx6 := XD a1 x12_1
        replace p6 := eq_true p6
        replace q6 := eq_true q6
        go_wp2_with (first | ((with_reducible refine Ym (f := 57) rfl ?_); refine YL (some 18) rfl rfl Try.func57 Z2 rfl #[.int .u8 (bt a1 x12_1)] rfl Zb ?_; (with_reducible refine (YU.calls (bt a1 x12_1) false _ A7.out).mono ?_); rintro e w' ⟨rfl, ⟨nd, rfl⟩⟩; refine ⟨_, rfl, ?_⟩; have p9 : 0 ≤ (x12_1 : Int) := of_decide_eq_true Z5; have q9 : x12_1 < (a1.size : Int) := of_decide_eq_true Z5; have hx9 := XD a1 x12_1; replace p9 := eq_true p9; replace q9 := eq_true q9) | ((with_reducible refine Ym (f := 92) rfl ?_); refine YL (some 23) rfl rfl Try.func92 Z2 rfl #[.int .u8 (bt a1 x12_1), .int .u32 16] rfl Zb ?_; (with_reducible refine (Yq.calls k1 (bt a1 x12_1) 16 t108 false _ A10.out).mono ?_); rintro e w' ⟨rfl, ⟨nd, rfl⟩⟩; refine ⟨_, rfl, ?_⟩))
        go_ret2
        exact ⟨_, Zf, Zl, Z6, Zn⟩
     ·rw [if_neg c5] at H
      exact absurd H Z3
    ·rw [if_neg c4] at H
     exact absurd H Z3
   ·rw [if_neg c3] at H
    have c3b0 := decide_eq_false c3
    clear c3
    simp only [Option.some.injEq, Prod.mk.injEq] at H
    obtain ⟨rfl, rfl⟩ := H
    obtain ⟨Ao25, co25, eo25⟩ := Kd.R_slice HO_6.out
    subst eo25
    go_wp2
    go_ret2
    exact ⟨_, Zf, (Zr HO_0.out), Z6, Zn⟩
end Go.Proofs.Ytehmhgpogpbjiaa.PFccTokens
