import Derived.Test.Ytehmhgpogpbjiaafr22
import Derived.Laws.RangeAny
set_option linter.unusedVariables false
set_option linter.unusedSimpArgs false
set_option maxRecDepth 100000
set_option maxHeartbeats 8000000
namespace Go.Proofs.Ytehmhgpogpbjiaa.Fcc
open Go.RowKit Go.Proofs.YtehmhgpogpbjiaaW.PrintWords Go.Proofs.YtehmhgpogpbjiaaW.PrintLast Go.Proofs.YtehmhgpogpbjiaaW.PrintMore Go.Proofs.Ytehmhgpogpbjiaa.PFccTokens
def primsL : List S34 := [⟨⟨#[105]⟩, 25⟩, ⟨⟨#[106]⟩, 26⟩, ⟨⟨#[101, 120, 101, 99, 117, 116, 101]⟩, 29⟩, ⟨⟨#[43]⟩, 30⟩, ⟨⟨#[45]⟩, 31⟩, ⟨⟨#[42]⟩, 32⟩, ⟨⟨#[47]⟩, 33⟩, ⟨⟨#[109, 111, 100]⟩, 34⟩, ⟨⟨#[97, 110, 100]⟩, 35⟩, ⟨⟨#[111, 114]⟩, 36⟩, ⟨⟨#[120, 111, 114]⟩, 37⟩, ⟨⟨#[105, 110, 118, 101, 114, 116]⟩, 38⟩, ⟨⟨#[108, 115, 104, 105, 102, 116]⟩, 39⟩, ⟨⟨#[114, 115, 104, 105, 102, 116]⟩, 40⟩, ⟨⟨#[62, 62, 97]⟩, 41⟩, ⟨⟨#[47, 109, 111, 100]⟩, 42⟩, ⟨⟨#[117, 47, 109, 111, 100]⟩, 43⟩, ⟨⟨#[110, 101, 103, 97, 116, 101]⟩, 44⟩, ⟨⟨#[97, 98, 115]⟩, 45⟩, ⟨⟨#[109, 105, 110]⟩, 46⟩, ⟨⟨#[109, 97, 120]⟩, 47⟩, ⟨⟨#[62, 114]⟩, 48⟩, ⟨⟨#[114, 62]⟩, 49⟩, ⟨⟨#[114, 64]⟩, 50⟩, ⟨⟨#[48, 61]⟩, 52⟩, ⟨⟨#[48, 60, 62]⟩, 53⟩, ⟨⟨#[48, 60]⟩, 54⟩, ⟨⟨#[48, 60, 61]⟩, 55⟩, ⟨⟨#[48, 62]⟩, 56⟩, ⟨⟨#[48, 62, 61]⟩, 57⟩, ⟨⟨#[60]⟩, 58⟩, ⟨⟨#[62]⟩, 59⟩, ⟨⟨#[61]⟩, 60⟩, ⟨⟨#[60, 62]⟩, 61⟩, ⟨⟨#[117, 62]⟩, 62⟩, ⟨⟨#[117, 60, 61]⟩, 63⟩, ⟨⟨#[117, 60]⟩, 64⟩, ⟨⟨#[117, 62, 61]⟩, 65⟩, ⟨⟨#[62, 61]⟩, 66⟩, ⟨⟨#[60, 61]⟩, 67⟩, ⟨⟨#[100, 114, 111, 112]⟩, 70⟩, ⟨⟨#[100, 117, 112]⟩, 71⟩, ⟨⟨#[111, 118, 101, 114]⟩, 72⟩, ⟨⟨#[115, 119, 97, 112]⟩, 73⟩, ⟨⟨#[114, 111, 116]⟩, 74⟩, ⟨⟨#[45, 114, 111, 116]⟩, 75⟩, ⟨⟨#[116, 117, 99, 107]⟩, 76⟩, ⟨⟨#[110, 105, 112]⟩, 77⟩, ⟨⟨#[112, 105, 99, 107]⟩, 78⟩, ⟨⟨#[114, 111, 108, 108]⟩, 79⟩, ⟨⟨#[63, 100, 117, 112]⟩, 80⟩, ⟨⟨#[100, 101, 112, 116, 104]⟩, 81⟩, ⟨⟨#[50, 100, 114, 111, 112]⟩, 82⟩, ⟨⟨#[50, 100, 117, 112]⟩, 83⟩, ⟨⟨#[50, 111, 118, 101, 114]⟩, 84⟩, ⟨⟨#[50, 115, 119, 97, 112]⟩, 85⟩, ⟨⟨#[50, 114, 111, 116]⟩, 86⟩, ⟨⟨#[50, 47]⟩, 87⟩, ⟨⟨#[117, 50, 47]⟩, 88⟩, ⟨⟨#[50, 42]⟩, 89⟩, ⟨⟨#[43, 33]⟩, 108⟩, ⟨⟨#[64]⟩, 109⟩, ⟨⟨#[119, 64]⟩, 111⟩, ⟨⟨#[99, 64]⟩, 113⟩, ⟨⟨#[33]⟩, 114⟩, ⟨⟨#[119, 33]⟩, 116⟩, ⟨⟨#[99, 33]⟩, 117⟩, ⟨⟨#[109, 111, 118, 101]⟩, 120⟩, ⟨⟨#[102, 105, 108, 108]⟩, 121⟩, ⟨⟨#[99, 111, 109, 112]⟩, 122⟩, ⟨⟨#[108, 98, 115, 112, 108, 105, 116]⟩, 126⟩, ⟨⟨#[98, 108, 106, 111, 105, 110]⟩, 127⟩, ⟨⟨#[119, 98, 102, 108, 105, 112]⟩, 128⟩, ⟨⟨#[117, 112, 99]⟩, 129⟩, ⟨⟨#[108, 99, 99]⟩, 130⟩, ⟨⟨#[117, 110, 108, 111, 111, 112]⟩, 137⟩, ⟨⟨#[97, 108, 108, 111, 99, 45, 109, 101, 109]⟩, 139⟩, ⟨⟨#[101, 109, 105, 116]⟩, 143⟩, ⟨⟨#[116, 121, 112, 101]⟩, 144⟩, ⟨⟨#[99, 114]⟩, 146⟩, ⟨⟨#[117, 46]⟩, 155⟩, ⟨⟨#[46]⟩, 157⟩, ⟨⟨#[98, 97, 115, 101, 33]⟩, 160⟩, ⟨⟨#[45, 49]⟩, 164⟩, ⟨⟨#[48]⟩, 165⟩, ⟨⟨#[49]⟩, 166⟩, ⟨⟨#[50]⟩, 167⟩, ⟨⟨#[51]⟩, 168⟩, ⟨⟨#[98, 108]⟩, 169⟩, ⟨⟨#[104, 101, 114, 101]⟩, 173⟩, ⟨⟨#[117, 109, 42]⟩, 212⟩, ⟨⟨#[117, 109, 47, 109, 111, 100]⟩, 213⟩, ⟨⟨#[100, 43]⟩, 216⟩, ⟨⟨#[100, 45]⟩, 217⟩, ⟨⟨#[112, 114, 111, 112, 101, 114, 116, 121]⟩, 272⟩, ⟨⟨#[101, 110, 99, 111, 100, 101, 45, 105, 110, 116]⟩, 273⟩, ⟨⟨#[101, 110, 99, 111, 100, 101, 43]⟩, 274⟩, ⟨⟨#[101, 110, 99, 111, 100, 101, 45, 115, 116, 114, 105, 110, 103]⟩, 276⟩, ⟨⟨#[110, 101, 119, 45, 100, 101, 118, 105, 99, 101]⟩, 287⟩, ⟨⟨#[102, 105, 110, 105, 115, 104, 45, 100, 101, 118, 105, 99, 101]⟩, 295⟩, ⟨⟨#[115, 109, 47, 114, 101, 109]⟩, 469⟩, ⟨⟨#[109, 121, 45, 115, 101, 108, 102]⟩, 515⟩, ⟨⟨#[109, 121, 45, 112, 97, 114, 101, 110, 116]⟩, 522⟩, ⟨⟨#[36, 99, 97, 108, 108, 45, 109, 101, 116, 104, 111, 100]⟩, 526⟩, ⟨⟨#[99, 97, 116, 99, 104]⟩, 535⟩, ⟨⟨#[116, 104, 114, 111, 119]⟩, 536⟩, ⟨⟨#[103, 101, 116, 45, 109, 121, 45, 112, 114, 111, 112, 101, 114, 116, 121]⟩, 538⟩, ⟨⟨#[100, 101, 99, 111, 100, 101, 45, 105, 110, 116]⟩, 539⟩, ⟨⟨#[100, 101, 99, 111, 100, 101, 45, 115, 116, 114, 105, 110, 103]⟩, 540⟩, ⟨⟨#[100, 101, 108, 101, 116, 101, 45, 112, 114, 111, 112, 101, 114, 116, 121]⟩, 542⟩, ⟨⟨#[102, 109, 47, 109, 111, 100]⟩, 725⟩]
def cellsOf (l : List S34) : List Value := l.flatMap fun x => [.string x.f0, .int .i64 x.f1]
theorem JY {w : World} {base : Nat} {ok : Nat → Prop} : ∀ l : List S34, Reps (k34.M w base ok) 2 l (cellsOf l)
 | [] => Reps.none _ _
 | x :: l => Reps.c2 (k34_mkM _ _ _ x) (JY l)
set_option maxRecDepth 1000000
set_option maxHeartbeats 20000000
theorem YaU : PrimsC 17 primsL := by
 intro w
 go_enter Try.func17, Try.ntmps17
 go_wp2_with ((with_reducible refine Vm (N := 112) rfl ?_); refine Kd.R_lit k34 (w0 := w) w.heap.size 34 rfl (N := 112) rfl (xs := primsL) (inner := cellsOf primsL) (ok := fun _ => True) (okp := fun _ => True) Z2 (JY _) (fun _ hk => hk) trivial (Below.refl _ _) (Nat.le_refl _) Z1 ?_; intro v w1 ho hb hg hat)
 go_ret
 exact ⟨_, rfl, ho, hb⟩
def oddN (n : Nat) : Bool := decide (n ≤ 32 ∨ 126 < n ∨ (65 ≤ n ∧ n ≤ 90))
def UY (s : ByteArray) : Bool := decide (1 ≤ s.size ∧ s.size ≤ 31) && !s.data.toList.any fun b => oddN b.toNat
theorem Yax (n : Nat) (w : World) : Calls Try.prog 96 #[.int .i32 n] w fun e w' => e = .returned (.bool (oddN n)) ∧ w' = w := by
 by_cases h1 : n ≤ 32
 ·have hr : oddN n = true := by unfold oddN; simp; omega
  rw [hr]
  have d1 : decide ((n : Int) ≤ 32) = true := decide_eq_true Z0
  have p1 : ((n : Int) ≤ 32) = True := eq_true Z0
  go_enter Try.func96, Try.ntmps96
  go_wp2_with fail
  go_ret
  exact ⟨rfl, rfl⟩
 by_cases h2 : 126 < n
 ·have hr : oddN n = true := by unfold oddN; simp; omega
  rw [hr]
  have d1 : decide ((n : Int) ≤ 32) = false := decide_eq_false Z0
  have d2 : decide ((n : Int) > 126) = true := decide_eq_true Z0
  go_enter Try.func96, Try.ntmps96
  go_wp2_with fail
  go_ret
  exact ⟨rfl, rfl⟩
 by_cases h3 : 65 ≤ n
 ·have d1 : decide ((n : Int) ≤ 32) = false := decide_eq_false Z0
  have d2 : decide ((n : Int) > 126) = false := decide_eq_false Z0
  have d3 : decide ((n : Int) ≥ 65) = true := decide_eq_true Z0
  have hr : oddN n = decide ((n : Int) ≤ 90) := by unfold oddN; exact decide_eq_decide.2 Z0
  rw [hr]
  go_enter Try.func96, Try.ntmps96
  go_wp2_with fail
  go_ret
  exact ⟨rfl, rfl⟩
 ·have hr : oddN n = false := by unfold oddN; simp; omega
  rw [hr]
  have d1 : decide ((n : Int) ≤ 32) = false := decide_eq_false Z0
  have d2 : decide ((n : Int) > 126) = false := decide_eq_false Z0
  have d3 : decide ((n : Int) ≥ 65) = false := decide_eq_false Z0
  go_enter Try.func96, Try.ntmps96
  go_wp2_with fail
  go_ret
  exact ⟨rfl, rfl⟩
theorem odd_any (s : ByteArray) (j : Nat) (h : j < s.size) (ho : oddN (s[j]'h).toNat = true) : (s.data.toList.any fun b => oddN b.toNat) = true :=
 List.any_eq_true.2 ⟨s[j]'h, Array.mem_toList_iff.2 (Array.getElem_mem (xs := s.data) (by exact h)), ho⟩
theorem odd_none (s : ByteArray) (h : ∀ j, (hj : j < s.size) → oddN (s[j]'hj).toNat = false) : (s.data.toList.any fun b => oddN b.toNat) = false := by
 refine List.any_eq_false.2 fun b hb => ?_
 obtain ⟨j, hj, rfl⟩ := Array.mem_iff_getElem.1 (Array.mem_toList_iff.1 hb)
 show ¬ (oddN (s[j]'hj).toNat = true)
 rw [h j hj]; simp
theorem YaD (s : ByteArray) (w : World) : Calls Try.prog 100 #[.string s, .func (.func 96) #[] #[], .bool true] w fun e w' => (∃ z : Int, e = .returned (.int .i64 z) ∧ decide (z < 0) = !(s.data.toList.any fun b => oddN b.toNat)) ∧ Below w.heap.size w w' := by
 go_enter Try.func100, Try.ntmps100
 go_wp2_with fail
 go_loopg [] s.size (fun gg wr => ∃ kk : Nat, kk ≤ s.size ∧ s.size - kk ≤ gg ∧ wr = w.iter s kk ∧ Aside0 (∀ j, (hj : j < s.size) → j < kk → oddN (s[j]'hj).toNat = false))
 case atStart => exact ⟨0, Nat.zero_le _, Z0, rfl, ⟨fun j hj h0 => absurd h0 (Nat.not_lt_zero _)⟩⟩
 case round =>
  obtain ⟨kk, hkk, hg, rfl, HA⟩ := hrel
  have hBl := Yc (Below.refl w.heap.size w) (.stringIter s kk)
  by_cases hlt : kk < s.size
  ·by_cases hasc : (s[kk]'hlt).toNat < 128
   ·have hn := fun ty => run_next_ascii (P := Try.prog) w s kk ty hlt hasc
    cases hq : oddN (s[kk]'hlt).toNat with
    | true =>
      have ho := odd_any s kk hlt hq
      have hc := Yax (s[kk]'hlt).toNat (w.iter s (kk + 1))
      rw [hq] at hc
      generalize (s[kk]'hlt).toNat = y at hn hc
      go_wp2_with fail
      refine hc.mono ?_
      rintro e w' ⟨rfl, rfl⟩
      go_wp2_with fail
      go_ret
      exact Z2v
    | false =>
      have hc := Yax (s[kk]'hlt).toNat (w.iter s (kk + 1))
      rw [hq] at hc
      generalize (s[kk]'hlt).toNat = y at hn hc
      go_wp2_with fail
      refine hc.mono ?_
      rintro e w' ⟨rfl, rfl⟩
      go_wp2_with fail
      go_roundg (s.size - (kk + 1))
      case measure => omega
      case rel =>
       refine ⟨kk + 1, Z0, Z0, rfl, ⟨fun j hj h1 => ?_⟩⟩
       by_cases e : j = kk
       ·subst e; exact hq
       ·exact HA.out j hj Z0
   ·have hn := fun ty => run_next_any (P := Try.prog) w s kk ty hlt
    have hd := (decode_high s kk hlt Z0).1
    have hq : oddN (Utf8.decode s kk).1 = true := by unfold oddN; simp; omega
    have ho := odd_any s kk hlt (by unfold oddN; simp; omega)
    have hc := Yax (Utf8.decode s kk).1 (w.iter s (kk + (Utf8.decode s kk).2))
    rw [hq] at hc
    generalize (Utf8.decode s kk).1 = y at hn hc
    generalize kk + (Utf8.decode s kk).2 = k2 at hn hc
    go_wp2_with fail
    refine hc.mono ?_
    rintro e w' ⟨rfl, rfl⟩
    go_wp2_with fail
    go_ret
    exact Z2v
  ·have hn := fun ty => run_next_end (P := Try.prog) w s kk ty hlt
   have ho := odd_none s fun j hj => HA.out j hj Z0
   go_wp2_with fail
   go_ret
   exact ⟨⟨-1, rfl, (by rw [ho]; rfl)⟩, Yc (Below.refl _ _) _⟩
theorem JI (s : ByteArray) (w : World) : Calls Try.prog 97 #[.string s, .func (.func 96) #[] #[]] w fun e w' => (∃ z : Int, e = .returned (.int .i64 z) ∧ decide (z < 0) = !(s.data.toList.any fun b => oddN b.toNat)) ∧ Below w.heap.size w w' := by
 go_enter Try.func97, Try.ntmps97
 go_wp2_with fail
 refine (YaD s w).mono ?_
 rintro e w' ⟨⟨z, rfl, hz⟩, hB⟩
 go_wp2_with fail
 exact bodyPost_ret (v := .int .i64 z) (by simp [results, Try.results97, go_sem]) rfl ⟨⟨z, rfl, hz⟩, hB⟩
theorem YaK {s : ByteArray} : (s.toList = ([] : List UInt8)) ↔ s.size = 0 := by
 have h : s.toList = s.data.toList := Go.Lib.toList_data s
 rw [h]
 constructor
 ·intro h; have := congrArg List.length h; simpa using this
 ·intro h; exact List.length_eq_zero_iff.1 ZM
theorem Ya0 : UR UY := by
 intro s w hs
 by_cases h0 : s.size = 0
 ·have hr : UY s = false := by unfold UY; simp; intro h; omega
  rw [hr]
  have hb := YaK.2 h0
  clear hr
  go_enter Try.func89, Try.ntmps89
  go_wp2_with fail
  ·go_ret
   exact ⟨rfl, Below.refl _ _⟩
 have hb : ¬ s.toList = ([] : List UInt8) := fun e => h0 (YaK.1 e)
 by_cases h1 : s.size ≤ 31
 ·have hr : UY s = !(s.data.toList.any fun b => oddN b.toNat) := by
   unfold UY; rw [decide_eq_true (⟨Z0, h1⟩ : 1 ≤ s.size ∧ s.size ≤ 31), Bool.true_and]
  rw [hr]
  have d1 : decide ((s.size : Int) ≤ 31) = true := decide_eq_true Z0
  clear hr
  have hI := JI s w
  generalize (!(s.data.toList.any fun b => oddN b.toNat)) = r at hI ⊢
  go_enter Try.func89, Try.ntmps89
  go_wp2_with fail
  refine hI.mono ?_
  rintro e w' ⟨⟨z, rfl, hz⟩, hB⟩
  go_wp2_with fail
  have hem : (!s.toList.isEmpty && r) = r := by
   have : s.toList.isEmpty = false := by cases hl : s.toList with | nil => exact absurd hl hb | cons a b => rfl
   rw [this]; rfl
  rw [hem]
  go_ret
  exact ⟨rfl, hB⟩
 ·have hr : UY s = false := by unfold UY; simp; intro h; omega
  rw [hr]
  have d1 : decide ((s.size : Int) ≤ 31) = false := decide_eq_false Z0
  clear hr
  go_enter Try.func89, Try.ntmps89
  go_wp2_with fail
  go_ret
  exact ⟨rfl, Below.refl _ _⟩
end Go.Proofs.Ytehmhgpogpbjiaa.Fcc
namespace Go.Proofs.Ytehmhgpogpbjiaa.PFccTokens
open Go.RowKit Go.Proofs.YtehmhgpogpbjiaaW.PrintWords Go.Proofs.YtehmhgpogpbjiaaW.PrintLast Go.Proofs.YtehmhgpogpbjiaaW.PrintMore
attribute [local go_sem] Vx Vv VV VU Ve Vd Vw Vu
def XS.f (a0 : Int) : Option (Int) := if (Go.bits .or .u8 a0 32) = 104 then (some 16) else (if (Go.bits .or .u8 a0 32) = 111 then (some 8) else (if (Go.bits .or .u8 a0 32) = 98 then (some 2) else (if (Go.bits .or .u8 a0 32) = 100 then (some 10) else (some 0))))
theorem XS.calls (a0 : Int) (r : Int) (w : World) (h : XS.f a0 = some r) :
 Calls Try.prog 66 #[.int .u8 a0] w fun e w' => e = .returned (.int .u32 r) ∧ YZ w w' := by
 have H : (if (Go.bits .or .u8 a0 32) = 104 then (some 16) else (if (Go.bits .or .u8 a0 32) = 111 then (some 8) else (if (Go.bits .or .u8 a0 32) = 98 then (some 2) else (if (Go.bits .or .u8 a0 32) = 100 then (some 10) else (some 0))))) = some r := h
 clear h
 by_cases c2 : (Go.bits .or .u8 a0 32) = 104
 ·rw [if_pos c2] at H
  obtain ⟨c2b0, c2b1⟩ := eqB c2
  clear c2
  obtain rfl := Option.some.inj H
  go_enter Try.func66, Try.ntmps66
  go_wp2
  go_ret
  exact Zc
 ·rw [if_neg c2] at H
  obtain ⟨c2b0, c2b1⟩ := neB c2
  by_cases c3 : (Go.bits .or .u8 a0 32) = 111
  ·rw [if_pos c3] at H
   obtain ⟨c3b0, c3b1⟩ := eqB c3
   clear c3
   obtain rfl := Option.some.inj H
   go_enter Try.func66, Try.ntmps66
   go_wp2
   go_ret
   exact Zc
  ·rw [if_neg c3] at H
   obtain ⟨c3b0, c3b1⟩ := neB c3
   by_cases c4 : (Go.bits .or .u8 a0 32) = 98
   ·rw [if_pos c4] at H
    obtain ⟨c4b0, c4b1⟩ := eqB c4
    clear c4
    obtain rfl := Option.some.inj H
    go_enter Try.func66, Try.ntmps66
    go_wp2
    go_ret
    exact Zc
   ·rw [if_neg c4] at H
    obtain ⟨c4b0, c4b1⟩ := neB c4
    by_cases c5 : (Go.bits .or .u8 a0 32) = 100
    ·rw [if_pos c5] at H
     obtain ⟨c5b0, c5b1⟩ := eqB c5
     clear c5
     obtain rfl := Option.some.inj H
     go_enter Try.func66, Try.ntmps66
     go_wp2
     go_ret
     exact Zc
    ·rw [if_neg c5] at H
     obtain ⟨c5b0, c5b1⟩ := neB c5
     obtain rfl := Option.some.inj H
     go_enter Try.func66, Try.ntmps66
     go_wp2
     go_ret
     exact Zc
def Xm.f (a0 : ByteArray) (a1 : ByteArray) : Option (Bool) := if (a0.size : Int) ≥ (a1.size : Int) then (if 0 ≤ (a1.size : Int) then (if (a1.size : Int) ≤ (a0.size : Int) then (some ((a0.extract 0 ((a1.size : Int) : Int).toNat).toList == a1.toList)) else (none)) else (none)) else (some false)
theorem Xm.calls (a0 : ByteArray) (a1 : ByteArray) (r : Bool) (w : World) (h : Xm.f a0 a1 = some r) :
 Calls Try.prog 101 #[.string a0, .string a1] w fun e w' => e = .returned (.bool r) ∧ YZ w w' := by
 have H : (if (a0.size : Int) ≥ (a1.size : Int) then (if 0 ≤ (a1.size : Int) then (if (a1.size : Int) ≤ (a0.size : Int) then (some ((a0.extract 0 ((a1.size : Int) : Int).toNat).toList == a1.toList)) else (none)) else (none)) else (some false)) = some r := h
 clear h
 by_cases c3 : (a0.size : Int) ≥ (a1.size : Int)
 ·rw [if_pos c3] at H
  have c3b0 := decide_eq_true c3
  have c3b1 : decide (a1.size ≤ a0.size) = true := decide_eq_true (Int.ofNat_le.mp c3)
  clear c3
  by_cases c4 : 0 ≤ (a1.size : Int)
  ·rw [if_pos c4] at H
   have c4b0 := eq_true c4
   have c4b1 := decide_eq_true c4
   clear c4
   by_cases c5 : (a1.size : Int) ≤ (a0.size : Int)
   ·rw [if_pos c5] at H
    have c5b0 := eq_true c5
    have c5b1 := decide_eq_true c5
    clear c5
    obtain rfl := Option.some.inj H
    go_enter Try.func101, Try.ntmps101
    go_wp2
    go_ret
    exact Zc
   ·rw [if_neg c5] at H
    exact absurd H Z3
  ·rw [if_neg c4] at H
   exact absurd H Z3
 ·rw [if_neg c3] at H
  have c3b0 := decide_eq_false c3
  have c3b1 : decide (a1.size ≤ a0.size) = false := decide_eq_false (fun h => c3 (Int.ofNat_le.mpr h))
  clear c3
  obtain rfl := Option.some.inj H
  go_enter Try.func101, Try.ntmps101
  go_wp2
  go_ret
  exact Zc
def Xz.f (a0 : ByteArray) (a1 : ByteArray) : Option (ByteArray × Bool) := (Xm.f a0 a1).bind fun t208 => (if t208 = true then (if 0 ≤ (a1.size : Int) then (if (a1.size : Int) ≤ (a0.size : Int) then (some (a0.extract ((a1.size : Int) : Int).toNat a0.size, true)) else (none)) else (none)) else (some (a0, false)))
theorem Xz.calls (a0 : ByteArray) (a1 : ByteArray) (r1 : ByteArray) (r2 : Bool) (w : World) (h : Xz.f a0 a1 = some (r1, r2)) :
 Calls Try.prog 98 #[.string a0, .string a1] w fun e w' => e = .returned (.tuple #[.string r1, .bool r2]) ∧ YZ w w' := by
 have H : ((Xm.f a0 a1).bind fun t208 => (if t208 = true then (if 0 ≤ (a1.size : Int) then (if (a1.size : Int) ≤ (a0.size : Int) then (some (a0.extract ((a1.size : Int) : Int).toNat a0.size, true)) else (none)) else (none)) else (some (a0, false)))) = some (r1, r2) := h
 clear h
 replace H := bE H; obtain ⟨t208, A3, H⟩ := H
 by_cases c4 : t208 = true
 ·subst c4
  rw [if_pos rfl] at H
  by_cases c5 : 0 ≤ (a1.size : Int)
  ·rw [if_pos c5] at H
   have c5b0 := eq_true c5
   have c5b1 := decide_eq_true c5
   clear c5
   by_cases c6 : (a1.size : Int) ≤ (a0.size : Int)
   ·rw [if_pos c6] at H
    have c6b0 := eq_true c6
    have c6b1 := decide_eq_true c6
    clear c6
    simp only [Option.some.injEq, Prod.mk.injEq] at H
    obtain ⟨rfl, rfl⟩ := H
    go_enter Try.func98, Try.ntmps98
    go_wp2_with (first | ((with_reducible refine Ym (f := 101) rfl ?_); refine YL (some 8) rfl rfl Try.func101 Z2 rfl #[.string a0, .string a1] rfl Zb ?_; (with_reducible refine (Xm.calls a0 a1 true _ A3.out).mono ?_); rintro e w' ⟨rfl, ⟨nd, rfl⟩⟩; refine ⟨_, rfl, ?_⟩))
    go_ret2
    exact Zc
   ·rw [if_neg c6] at H
    exact absurd H Z3
  ·rw [if_neg c5] at H
   exact absurd H Z3
 ·replace c4 := Bool.eq_false_iff.mpr c4
  subst c4
  rw [if_neg Z1] at H
  simp only [Option.some.injEq, Prod.mk.injEq] at H
  obtain ⟨rfl, rfl⟩ := H
  go_enter Try.func98, Try.ntmps98
  go_wp2_with (first | ((with_reducible refine Ym (f := 101) rfl ?_); refine YL (some 8) rfl rfl Try.func101 Z2 rfl #[.string a0, .string a1] rfl Zb ?_; (with_reducible refine (Xm.calls a0 a1 false _ A3.out).mono ?_); rintro e w' ⟨rfl, ⟨nd, rfl⟩⟩; refine ⟨_, rfl, ?_⟩))
  go_ret2
  exact Zc
def XA.f (a0 : ByteArray) (a1 : ByteArray) : Option (ByteArray × Bool) := (Xz.f a0 a1).bind fun bt209 => (some (bt209.1, bt209.2))
theorem XA.calls (a0 : ByteArray) (a1 : ByteArray) (r1 : ByteArray) (r2 : Bool) (w : World) (h : XA.f a0 a1 = some (r1, r2)) :
 Calls Try.prog 91 #[.string a0, .string a1] w fun e w' => e = .returned (.tuple #[.string r1, .bool r2]) ∧ YZ w w' := by
 have H : ((Xz.f a0 a1).bind fun bt209 => (some (bt209.1, bt209.2))) = some (r1, r2) := h
 clear h
 replace H := bE H; obtain ⟨⟨t209, t210⟩, A3, H⟩ := H; try dsimp only at H
 simp only [Option.some.injEq, Prod.mk.injEq] at H
 obtain ⟨rfl, rfl⟩ := H
 go_enter Try.func91, Try.ntmps91
 go_wp2_with (first | ((with_reducible refine Ym (f := 98) rfl ?_); refine YL (some 8) rfl rfl Try.func98 Z2 rfl #[.string a0, .string a1] rfl Zb ?_; (with_reducible refine (Xz.calls a0 a1 t209 t210 _ A3.out).mono ?_); rintro e w' ⟨rfl, ⟨nd, rfl⟩⟩; refine ⟨_, rfl, ?_⟩))
 go_ret2
 exact Zc
def Yz.l0 : Nat → Int → ByteArray → Bool → Int → Int → Int → Int → Option (Int × Int)
 | 0, _, _, _, _, _, _, _ => none
 | k + 1, x1, x6, x7, x8, x9, x24, x25 => if x25 < x24 then (if 0 ≤ x25 then (if x25 < (x6.size : Int) then ((Yq.f k (bt x6 x25) x1).bind fun bt214 => (if bt214.2 = true then (if (IntKind.u64.wrap ((IntKind.u64.wrap (x8 * (IntKind.u64.wrap (x1)))) + (IntKind.u64.wrap (bt214.1)))) > 4294967295 then (Yz.l0 k x1 x6 x7 4294967296 4 x24 (wrap64 (x25 + 1))) else (Yz.l0 k x1 x6 x7 (IntKind.u64.wrap ((IntKind.u64.wrap (x8 * (IntKind.u64.wrap (x1)))) + (IntKind.u64.wrap (bt214.1)))) x9 x24 (wrap64 (x25 + 1)))) else (some (0, 15)))) else (none)) else (none)) else (if x9 = 0 then (if x7 = true then (some ((IntKind.u64.wrap (-x8)) % 4294967296, 0)) else (some ((x8) % 4294967296, 0))) else (some (0, x9)))
def Yz.f (k : Nat) (a0 : ByteArray) (a1 : Int) : Option (Int × Int) := (Xk.f a1).bind fun t211 => (if t211 = true then ((XA.f a0 (⟨#[45]⟩ : ByteArray)).bind fun bt212 => (if bt212.1.toList = ([] : List UInt8) then (some (0, 15)) else (Yz.l0 k a1 bt212.1 bt212.2 0 0 (bt212.1.size : Int) 0))) else (some (0, 1)))
theorem Yz.mono_l : ∀ k, (∀ y0 y1 y2 y3 y4 y5 y6, LeO (Yz.l0 k y0 y1 y2 y3 y4 y5 y6) (Yz.l0 (k + 1) y0 y1 y2 y3 y4 y5 y6))
 | 0 => fun _ _ _ _ _ _ _ r h => by simp [Yz.l0] at h
 | k + 1 => by
  have ih0 := Yz.mono_l k
  ·intro y0 y1 y2 y3 y4 y5 y6
   unfold Yz.l0
   have ih7 := @Yq.mono; exact XI
theorem Yz.mono : ∀ a0 a1 k, LeO (Yz.f k a0 a1) (Yz.f (k + 1) a0 a1) := by
 intro a0 a1 k
 have ih0 := Yz.mono_l k
 unfold Yz.f
 have ih7 := @Yq.mono; exact XI
theorem Yz.calls (k : Nat) (a0 : ByteArray) (a1 : Int) (r1 : Int) (r2 : Int) (w : World) (h : Yz.f k a0 a1 = some (r1, r2)) :
 Calls Try.prog 67 #[.string a0, .int .u32 a1] w fun e w' => e = .returned (.tuple #[.int .u32 r1, .int .i64 r2]) ∧ YZ w w' := by
 have H : ((Xk.f a1).bind fun t211 => (if t211 = true then ((XA.f a0 (⟨#[45]⟩ : ByteArray)).bind fun bt212 => (if bt212.1.toList = ([] : List UInt8) then (some (0, 15)) else (Yz.l0 k a1 bt212.1 bt212.2 0 0 (bt212.1.size : Int) 0))) else (some (0, 1)))) = some (r1, r2) := h
 clear h
 replace H := bE H; obtain ⟨t211, A3, H⟩ := H
 by_cases c4 : t211 = true
 ·subst c4
  rw [if_pos rfl] at H
  replace H := bE H; obtain ⟨⟨t212, t213⟩, A5, H⟩ := H; try dsimp only at H
  by_cases c6 : t212.toList = ([] : List UInt8)
  ·rw [if_pos c6] at H
   obtain ⟨c6b0, c6b1⟩ := eqB c6
   clear c6
   simp only [Option.some.injEq, Prod.mk.injEq] at H
   obtain ⟨rfl, rfl⟩ := H
   go_enter Try.func67, Try.ntmps67
   go_wp2_with (first | ((with_reducible refine Ym (f := 90) rfl ?_); refine YL (some 14) rfl rfl Try.func90 Z2 rfl #[.int .u32 a1] rfl Zb ?_; (with_reducible refine (Xk.calls a1 true _ A3.out).mono ?_); rintro e w' ⟨rfl, ⟨nd, rfl⟩⟩; refine ⟨_, rfl, ?_⟩) | ((with_reducible refine Ym (f := 91) rfl ?_); refine YL (some 18) rfl rfl Try.func91 Z2 rfl #[.string a0, .string (⟨#[45]⟩ : ByteArray)] rfl Zb ?_; (with_reducible refine (XA.calls a0 (⟨#[45]⟩ : ByteArray) t212 t213 _ A5.out).mono ?_); rintro e w' ⟨rfl, ⟨nd, rfl⟩⟩; refine ⟨_, rfl, ?_⟩))
   go_ret2
   exact Zc
  ·rw [if_neg c6] at H
   obtain ⟨c6b0, c6b1⟩ := neB c6
   have H' := Aside0.mk H
   clear H
   go_enter Try.func67, Try.ntmps67
   go_wp2_with (first | ((with_reducible refine Ym (f := 90) rfl ?_); refine YL (some 14) rfl rfl Try.func90 Z2 rfl #[.int .u32 a1] rfl Zb ?_; (with_reducible refine (Xk.calls a1 true _ A3.out).mono ?_); rintro e w' ⟨rfl, ⟨nd, rfl⟩⟩; refine ⟨_, rfl, ?_⟩) | ((with_reducible refine Ym (f := 91) rfl ?_); refine YL (some 18) rfl rfl Try.func91 Z2 rfl #[.string a0, .string (⟨#[45]⟩ : ByteArray)] rfl Zb ?_; (with_reducible refine (XA.calls a0 (⟨#[45]⟩ : ByteArray) t212 t213 _ A5.out).mono ?_); rintro e w' ⟨rfl, ⟨nd, rfl⟩⟩; refine ⟨_, rfl, ?_⟩))
   go_loopg [8, 9, 25] k (fun kq v8 v9 v25 w' => ∃ (x8_1 : Int) (x9_1 : Int) (x25_1 : Int), v8 = .int .u64 x8_1 ∧ v9 = .int .i64 x9_1 ∧ v25 = .int .i64 x25_1 ∧ Aside0 (Yz.l0 kq a1 t212 t213 x8_1 x9_1 (t212.size : Int) x25_1 = some (r1, r2)) ∧ Aside0 (kq ≤ k) ∧ YZ w w')
   case atStart => exact ⟨(0), (0), (0), Z4, Z4, Z4, H', ⟨Nat.le_refl _⟩, Z8⟩
   case round =>
    clear H'
    try clear p2
    try clear c4
    try clear c6
    try clear c6b0
    try clear c6b1
    obtain ⟨x8_1, x9_1, x25_1, rfl, rfl, rfl, HA, HK1, ⟨m1, rfl⟩⟩ := hrel
    cases gk with
    | zero => exact absurd HA.out (by simp [Yz.l0])
    | succ k1 =>
     have H := HA.out
     clear HA
     simp only [Yz.l0] at H
     by_cases c7 : x25_1 < (t212.size : Int)
     ·rw [if_pos c7] at H
      have c7b0 := decide_eq_true c7
      clear c7
      by_cases c8 : 0 ≤ x25_1
      ·rw [if_pos c8] at H
       have c8b0 := decide_eq_true c8
       clear c8
       by_cases c9 : x25_1 < (t212.size : Int)
       ·rw [if_pos c9] at H
        have c9b0 := decide_eq_true c9
        clear c9
        replace H := bE H; obtain ⟨⟨t214, t215⟩, A11, H⟩ := H; try dsimp only at H
        by_cases c12 : t215 = true
        ·subst c12
         rw [if_pos rfl] at H
         by_cases c13 : (IntKind.u64.wrap ((IntKind.u64.wrap (x8_1 * (IntKind.u64.wrap (a1)))) + (IntKind.u64.wrap (t214)))) > 4294967295
         ·rw [if_pos c13] at H
          have c13b0 := decide_eq_true c13
          clear c13
          have H' := Aside0.mk H
          clear H
          have p10 : 0 ≤ (x25_1 : Int) := of_decide_eq_true Z5
          have q10 : x25_1 < (t212.size : Int) := of_decide_eq_true Z5
          have hx10 := XD t212 x25_1
          replace p10 := eq_true p10
          replace q10 := eq_true q10
          go_wp2_with (first | ((with_reducible refine Ym (f := 92) rfl ?_); refine YL (some 33) rfl rfl Try.func92 Z2 rfl #[.int .u8 (bt t212 x25_1), .int .u32 a1] rfl Zb ?_; (with_reducible refine (Yq.calls k1 (bt t212 x25_1) a1 t214 true _ A11.out).mono ?_); rintro e w' ⟨rfl, ⟨nd, rfl⟩⟩; refine ⟨_, rfl, ?_⟩))
          go_roundg k1
          case measure => have := HK1.out; omega
          case rel => exact ⟨(4294967296), (4), (wrap64 (x25_1 + 1)), Z4, Z4, Z4, H', ⟨(Zo HK1.out)⟩, Z8⟩
         ·rw [if_neg c13] at H
          have c13b0 := decide_eq_false c13
          clear c13
          have H' := Aside0.mk H
          clear H
          have p10 : 0 ≤ (x25_1 : Int) := of_decide_eq_true Z5
          have q10 : x25_1 < (t212.size : Int) := of_decide_eq_true Z5
          have hx10 := XD t212 x25_1
          replace p10 := eq_true p10
          replace q10 := eq_true q10
          go_wp2_with (first | ((with_reducible refine Ym (f := 92) rfl ?_); refine YL (some 33) rfl rfl Try.func92 Z2 rfl #[.int .u8 (bt t212 x25_1), .int .u32 a1] rfl Zb ?_; (with_reducible refine (Yq.calls k1 (bt t212 x25_1) a1 t214 true _ A11.out).mono ?_); rintro e w' ⟨rfl, ⟨nd, rfl⟩⟩; refine ⟨_, rfl, ?_⟩))
          go_roundg k1
          case measure => have := HK1.out; omega
          case rel => exact ⟨(IntKind.u64.wrap ((IntKind.u64.wrap (x8_1 * (IntKind.u64.wrap (a1)))) + (IntKind.u64.wrap (t214)))), (x9_1), (wrap64 (x25_1 + 1)), Z4, Z4, Z4, H', ⟨(Zo HK1.out)⟩, Z8⟩
        ·replace c12 := Bool.eq_false_iff.mpr c12
         subst c12
         rw [if_neg Z1] at H
         simp only [Option.some.injEq, Prod.mk.injEq] at H
         obtain ⟨rfl, rfl⟩ := H
         have p10 : 0 ≤ (x25_1 : Int) := of_decide_eq_true Z5
         have q10 : x25_1 < (t212.size : Int) := of_decide_eq_true Z5
         have hx10 := XD t212 x25_1
         replace p10 := eq_true p10
         replace q10 := eq_true q10
         go_wp2_with (first | ((with_reducible refine Ym (f := 92) rfl ?_); refine YL (some 33) rfl rfl Try.func92 Z2 rfl #[.int .u8 (bt t212 x25_1), .int .u32 a1] rfl Zb ?_; (with_reducible refine (Yq.calls k1 (bt t212 x25_1) a1 t214 false _ A11.out).mono ?_); rintro e w' ⟨rfl, ⟨nd, rfl⟩⟩; refine ⟨_, rfl, ?_⟩))
         go_ret2
         exact Zc
       ·rw [if_neg c9] at H
        exact absurd H Z3
      ·rw [if_neg c8] at H
       exact absurd H Z3
     ·rw [if_neg c7] at H
      have c7b0 := decide_eq_false c7
      clear c7
      by_cases c14 : x9_1 = 0
      ·rw [if_pos c14] at H
       obtain ⟨c14b0, c14b1⟩ := eqB c14
       clear c14
       by_cases c15 : t213 = true
       ·subst c15
        rw [if_pos rfl] at H
        simp only [Option.some.injEq, Prod.mk.injEq] at H
        obtain ⟨rfl, rfl⟩ := H
        go_wp2
        go_ret2
        exact Zc
       ·replace c15 := Bool.eq_false_iff.mpr c15
        subst c15
        rw [if_neg Z1] at H
        simp only [Option.some.injEq, Prod.mk.injEq] at H
        obtain ⟨rfl, rfl⟩ := H
        go_wp2
        go_ret2
        exact Zc
      ·rw [if_neg c14] at H
       obtain ⟨c14b0, c14b1⟩ := neB c14
       simp only [Option.some.injEq, Prod.mk.injEq] at H
       obtain ⟨rfl, rfl⟩ := H
       go_wp2
       go_ret2
       exact Zc
 ·replace c4 := Bool.eq_false_iff.mpr c4
  subst c4
  rw [if_neg Z1] at H
  simp only [Option.some.injEq, Prod.mk.injEq] at H
  obtain ⟨rfl, rfl⟩ := H
  go_enter Try.func67, Try.ntmps67
  go_wp2_with (first | ((with_reducible refine Ym (f := 90) rfl ?_); refine YL (some 14) rfl rfl Try.func90 Z2 rfl #[.int .u32 a1] rfl Zb ?_; (with_reducible refine (Xk.calls a1 false _ A3.out).mono ?_); rintro e w' ⟨rfl, ⟨nd, rfl⟩⟩; refine ⟨_, rfl, ?_⟩))
  go_ret2
  exact Zc
def YC.j0 : Nat → ByteArray → Int → Bool → Option (Int × Bool)
 | 0, _, _, _ => none
 | k + 1, x0, x4, x14 => if x14 = true then (if 0 < (x0.size : Int) then ((XS.f (bt x0 0)).bind fun t216 => (if 2 ≤ (x0.size : Int) then ((Yz.f k (x0.extract 2 x0.size) t216).bind fun bt217 => (if bt217.2 = 0 then (some (bt217.1, true)) else (some (0, false)))) else (none))) else (none)) else ((Yz.f k x0 x4).bind fun bt219 => (if bt219.2 = 0 then (some (bt219.1, true)) else (some (0, false))))
def YC.f (k : Nat) (a0 : ByteArray) : Option (Int × Bool) := if (a0.size : Int) > 2 then (if 1 < (a0.size : Int) then (YC.j0 k a0 10 ((bt a0 1) == 35)) else (none)) else (YC.j0 k a0 10 false)
theorem YC.mono_l : ∀ k, (∀ y0 y1 y2, LeO (YC.j0 k y0 y1 y2) (YC.j0 (k + 1) y0 y1 y2))
 | 0 => fun _ _ _ r h => by simp [YC.j0] at h
 | k + 1 => by
  have ih0 := YC.mono_l k
  ·intro y0 y1 y2
   unfold YC.j0
   have ih7 := @Yz.mono; exact XI
theorem YC.mono : ∀ a0 k, LeO (YC.f k a0) (YC.f (k + 1) a0) := by
 intro a0 k
 have ih0 := YC.mono_l k
 unfold YC.f
 have ih7 := @Yz.mono; exact XI
theorem YC.calls (k : Nat) (a0 : ByteArray) (r1 : Int) (r2 : Bool) (w : World) (h : YC.f k a0 = some (r1, r2)) :
 Calls Try.prog 39 #[.string a0] w fun e w' => e = .returned (.tuple #[.int .u32 r1, .bool r2]) ∧ YZ w w' := by
 have H : (if (a0.size : Int) > 2 then (if 1 < (a0.size : Int) then (YC.j0 k a0 10 ((bt a0 1) == 35)) else (none)) else (YC.j0 k a0 10 false)) = some (r1, r2) := h
 clear h
 have HC2 := Aside0.mk H
 clear H
 go_enter Try.func39, Try.ntmps39
 go_upto_region 2 with (fail)
 repeat (go_quiet (fail); go_upto_region 2 with (fail))
 go_cut [14] (fun v14 wc => ∃ (kq : Nat) (x14_1 : Bool), v14 = .bool x14_1 ∧ Aside0 (YC.j0 kq a0 10 x14_1 = some (r1, r2)) ∧ Aside0 (kq ≤ k) ∧ YZ w wc)
 case first =>
  have H := HC2.out
  clear HC2
  by_cases c3 : (a0.size : Int) > 2
  ·rw [if_pos c3] at H
   have c3b0 := decide_eq_true c3
   have c3b1 : decide (2 < a0.size) = true := decide_eq_true Z0
   clear c3
   (first | rw [c3b0] | (simp only [YH, YJ]; rw [c3b0]) | skip)
   by_cases c4 : 1 < (a0.size : Int)
   ·rw [if_pos c4] at H
    have c4b0 := decide_eq_true c4
    have c4b1 : decide (1 < a0.size) = true := decide_eq_true Z0
    clear c4
    have H' := Aside0.mk H
    clear H
    have p5 : 0 ≤ (1 : Int) := Z0
    have q5 : 1 < a0.size := Z24
    have hx5 : ∀ h : 1 < a0.size, ((a0[1]'h).toNat : Int) = bt a0 1 := XD a0 1
    clear p5
    have qi5 : (1 < (a0.size : Int)) = True := eq_true (of_decide_eq_true Z5)
    replace q5 := eq_true q5
    go_wp2
    repeat (go_quiet (fail); try go_wp2)
    go_meet
    case rel => exact ⟨_, (((bt a0 1) == 35)), Z4, H', ⟨ZD⟩, Z8⟩
   ·rw [if_neg c4] at H
    exact absurd H Z3
  ·rw [if_neg c3] at H
   have c3b0 := decide_eq_false c3
   have c3b1 : decide (2 < a0.size) = false := decide_eq_false Z0
   clear c3
   (first | rw [c3b0] | (simp only [YH, YJ]; rw [c3b0]) | skip)
   have H' := Aside0.mk H
   clear H
   go_wp2
   repeat (go_quiet (fail); try go_wp2)
   go_meet
   case rel => exact ⟨_, (false), Z4, H', ⟨ZD⟩, Z8⟩
 case rest =>
  clear HC2
  try clear p2
  try clear c3
  try clear c3b0
  try clear c3b1
  try clear c4
  try clear c4b0
  try clear c4b1
  try clear p5
  try clear q5
  try clear hx5
  try clear qi5
  try clear p5
  try clear q5
  obtain ⟨kq, x14_1, rfl, HA, HJ1, ⟨mc1, rfl⟩⟩ := hcut
  cases kq with
  | zero => exact absurd HA.out (by simp [YC.j0])
  | succ kj1 =>
   have H := HA.out
   clear HA
   simp only [YC.j0] at H
   by_cases c6 : x14_1 = true
   ·subst c6
    rw [if_pos rfl] at H
    by_cases c7 : 0 < (a0.size : Int)
    ·rw [if_pos c7] at H
     have c7b0 := decide_eq_true c7
     have c7b1 : decide (0 < a0.size) = true := decide_eq_true Z0
     clear c7
     replace H := bE H; obtain ⟨t216, A9, H⟩ := H
     by_cases c10 : 2 ≤ (a0.size : Int)
     ·rw [if_pos c10] at H
      have c10b0 := eq_true c10
      have c10b1 := decide_eq_true c10
      clear c10
      replace H := bE H; obtain ⟨⟨t217, t218⟩, A11, H⟩ := H; try dsimp only at H
      by_cases c12 : t218 = 0
      ·rw [if_pos c12] at H
       obtain ⟨c12b0, c12b1⟩ := eqB c12
       clear c12
       simp only [Option.some.injEq, Prod.mk.injEq] at H
       obtain ⟨rfl, rfl⟩ := H
       have p8 : 0 ≤ (0 : Int) := Z0
       have q8 : 0 < a0.size := ZJ
       have hx8 : ∀ h : 0 < a0.size, ((a0[0]'h).toNat : Int) = bt a0 0 := XD a0 0
       clear p8
       have qi8 : (0 < (a0.size : Int)) = True := eq_true (of_decide_eq_true Z5)
       replace q8 := eq_true q8
       go_wp2_with (first | (go_at_call 66; (with_reducible refine (XS.calls (bt a0 0) t216 _ A9.out).mono ?_); rintro e w' ⟨rfl, ⟨nd, rfl⟩⟩; (try first | exact ⟨rfl, _, World.drewN_drewN _ _ _⟩ | exact ⟨rfl, _, Eq.trans (World.drewN_drewN _ _ _) (congrArg (World.drewN _) (Nat.add_assoc _ _ _))⟩)) | (go_at_call 67; (with_reducible refine (Yz.calls kj1 (a0.extract 2 a0.size) t216 t217 t218 _ A11.out).mono ?_); rintro e w' ⟨rfl, ⟨nd, rfl⟩⟩; (try first | exact ⟨rfl, _, World.drewN_drewN _ _ _⟩ | exact ⟨rfl, _, Eq.trans (World.drewN_drewN _ _ _) (congrArg (World.drewN _) (Nat.add_assoc _ _ _))⟩)))
       repeat (go_quiet (first | (go_at_call 66; (with_reducible refine (XS.calls (bt a0 0) t216 _ A9.out).mono ?_); rintro e w' ⟨rfl, ⟨nd, rfl⟩⟩; (try first | exact ⟨rfl, _, World.drewN_drewN _ _ _⟩ | exact ⟨rfl, _, Eq.trans (World.drewN_drewN _ _ _) (congrArg (World.drewN _) (Nat.add_assoc _ _ _))⟩)) | (go_at_call 67; (with_reducible refine (Yz.calls kj1 (a0.extract 2 a0.size) t216 t217 t218 _ A11.out).mono ?_); rintro e w' ⟨rfl, ⟨nd, rfl⟩⟩; (try first | exact ⟨rfl, _, World.drewN_drewN _ _ _⟩ | exact ⟨rfl, _, Eq.trans (World.drewN_drewN _ _ _) (congrArg (World.drewN _) (Nat.add_assoc _ _ _))⟩))); try go_wp2_with (first | (go_at_call 66; (with_reducible refine (XS.calls (bt a0 0) t216 _ A9.out).mono ?_); rintro e w' ⟨rfl, ⟨nd, rfl⟩⟩; (try first | exact ⟨rfl, _, World.drewN_drewN _ _ _⟩ | exact ⟨rfl, _, Eq.trans (World.drewN_drewN _ _ _) (congrArg (World.drewN _) (Nat.add_assoc _ _ _))⟩)) | (go_at_call 67; (with_reducible refine (Yz.calls kj1 (a0.extract 2 a0.size) t216 t217 t218 _ A11.out).mono ?_); rintro e w' ⟨rfl, ⟨nd, rfl⟩⟩; (try first | exact ⟨rfl, _, World.drewN_drewN _ _ _⟩ | exact ⟨rfl, _, Eq.trans (World.drewN_drewN _ _ _) (congrArg (World.drewN _) (Nat.add_assoc _ _ _))⟩))))
       go_ret2
       exact Zc
      ·rw [if_neg c12] at H
       obtain ⟨c12b0, c12b1⟩ := neB c12
       simp only [Option.some.injEq, Prod.mk.injEq] at H
       obtain ⟨rfl, rfl⟩ := H
       have p8 : 0 ≤ (0 : Int) := Z0
       have q8 : 0 < a0.size := ZJ
       have hx8 : ∀ h : 0 < a0.size, ((a0[0]'h).toNat : Int) = bt a0 0 := XD a0 0
       clear p8
       have qi8 : (0 < (a0.size : Int)) = True := eq_true (of_decide_eq_true Z5)
       replace q8 := eq_true q8
       go_wp2_with (first | (go_at_call 66; (with_reducible refine (XS.calls (bt a0 0) t216 _ A9.out).mono ?_); rintro e w' ⟨rfl, ⟨nd, rfl⟩⟩; (try first | exact ⟨rfl, _, World.drewN_drewN _ _ _⟩ | exact ⟨rfl, _, Eq.trans (World.drewN_drewN _ _ _) (congrArg (World.drewN _) (Nat.add_assoc _ _ _))⟩)) | (go_at_call 67; (with_reducible refine (Yz.calls kj1 (a0.extract 2 a0.size) t216 t217 t218 _ A11.out).mono ?_); rintro e w' ⟨rfl, ⟨nd, rfl⟩⟩; (try first | exact ⟨rfl, _, World.drewN_drewN _ _ _⟩ | exact ⟨rfl, _, Eq.trans (World.drewN_drewN _ _ _) (congrArg (World.drewN _) (Nat.add_assoc _ _ _))⟩)))
       repeat (go_quiet (first | (go_at_call 66; (with_reducible refine (XS.calls (bt a0 0) t216 _ A9.out).mono ?_); rintro e w' ⟨rfl, ⟨nd, rfl⟩⟩; (try first | exact ⟨rfl, _, World.drewN_drewN _ _ _⟩ | exact ⟨rfl, _, Eq.trans (World.drewN_drewN _ _ _) (congrArg (World.drewN _) (Nat.add_assoc _ _ _))⟩)) | (go_at_call 67; (with_reducible refine (Yz.calls kj1 (a0.extract 2 a0.size) t216 t217 t218 _ A11.out).mono ?_); rintro e w' ⟨rfl, ⟨nd, rfl⟩⟩; (try first | exact ⟨rfl, _, World.drewN_drewN _ _ _⟩ | exact ⟨rfl, _, Eq.trans (World.drewN_drewN _ _ _) (congrArg (World.drewN _) (Nat.add_assoc _ _ _))⟩))); try go_wp2_with (first | (go_at_call 66; (with_reducible refine (XS.calls (bt a0 0) t216 _ A9.out).mono ?_); rintro e w' ⟨rfl, ⟨nd, rfl⟩⟩; (try first | exact ⟨rfl, _, World.drewN_drewN _ _ _⟩ | exact ⟨rfl, _, Eq.trans (World.drewN_drewN _ _ _) (congrArg (World.drewN _) (Nat.add_assoc _ _ _))⟩)) | (go_at_call 67; (with_reducible refine (Yz.calls kj1 (a0.extract 2 a0.size) t216 t217 t218 _ A11.out).mono ?_); rintro e w' ⟨rfl, ⟨nd, rfl⟩⟩; (try first | exact ⟨rfl, _, World.drewN_drewN _ _ _⟩ | exact ⟨rfl, _, Eq.trans (World.drewN_drewN _ _ _) (congrArg (World.drewN _) (Nat.add_assoc _ _ _))⟩))))
       go_ret2
       exact Zc
     ·rw [if_neg c10] at H
      exact absurd H Z3
    ·rw [if_neg c7] at H
     exact absurd H Z3
   ·replace c6 := Bool.eq_false_iff.mpr c6
    subst c6
    rw [if_neg Z1] at H
    replace H := bE H; obtain ⟨⟨t219, t220⟩, A13, H⟩ := H; try dsimp only at H
    by_cases c14 : t220 = 0
    ·rw [if_pos c14] at H
     obtain ⟨c14b0, c14b1⟩ := eqB c14
     clear c14
     simp only [Option.some.injEq, Prod.mk.injEq] at H
     obtain ⟨rfl, rfl⟩ := H
     go_wp2_with (first | (go_at_call 67; (with_reducible refine (Yz.calls kj1 a0 10 t219 t220 _ A13.out).mono ?_); rintro e w' ⟨rfl, ⟨nd, rfl⟩⟩; (try first | exact ⟨rfl, _, World.drewN_drewN _ _ _⟩ | exact ⟨rfl, _, Eq.trans (World.drewN_drewN _ _ _) (congrArg (World.drewN _) (Nat.add_assoc _ _ _))⟩)))
     repeat (go_quiet (first | (go_at_call 67; (with_reducible refine (Yz.calls kj1 a0 10 t219 t220 _ A13.out).mono ?_); rintro e w' ⟨rfl, ⟨nd, rfl⟩⟩; (try first | exact ⟨rfl, _, World.drewN_drewN _ _ _⟩ | exact ⟨rfl, _, Eq.trans (World.drewN_drewN _ _ _) (congrArg (World.drewN _) (Nat.add_assoc _ _ _))⟩))); try go_wp2_with (first | (go_at_call 67; (with_reducible refine (Yz.calls kj1 a0 10 t219 t220 _ A13.out).mono ?_); rintro e w' ⟨rfl, ⟨nd, rfl⟩⟩; (try first | exact ⟨rfl, _, World.drewN_drewN _ _ _⟩ | exact ⟨rfl, _, Eq.trans (World.drewN_drewN _ _ _) (congrArg (World.drewN _) (Nat.add_assoc _ _ _))⟩))))
     go_ret2
     exact Zc
    ·rw [if_neg c14] at H
     obtain ⟨c14b0, c14b1⟩ := neB c14
     simp only [Option.some.injEq, Prod.mk.injEq] at H
     obtain ⟨rfl, rfl⟩ := H
     go_wp2_with (first | (go_at_call 67; (with_reducible refine (Yz.calls kj1 a0 10 t219 t220 _ A13.out).mono ?_); rintro e w' ⟨rfl, ⟨nd, rfl⟩⟩; (try first | exact ⟨rfl, _, World.drewN_drewN _ _ _⟩ | exact ⟨rfl, _, Eq.trans (World.drewN_drewN _ _ _) (congrArg (World.drewN _) (Nat.add_assoc _ _ _))⟩)))
     repeat (go_quiet (first | (go_at_call 67; (with_reducible refine (Yz.calls kj1 a0 10 t219 t220 _ A13.out).mono ?_); rintro e w' ⟨rfl, ⟨nd, rfl⟩⟩; (try first | exact ⟨rfl, _, World.drewN_drewN _ _ _⟩ | exact ⟨rfl, _, Eq.trans (World.drewN_drewN _ _ _) (congrArg (World.drewN _) (Nat.add_assoc _ _ _))⟩))); try go_wp2_with (first | (go_at_call 67; (with_reducible refine (Yz.calls kj1 a0 10 t219 t220 _ A13.out).mono ?_); rintro e w' ⟨rfl, ⟨nd, rfl⟩⟩; (try first | exact ⟨rfl, _, World.drewN_drewN _ _ _⟩ | exact ⟨rfl, _, Eq.trans (World.drewN_drewN _ _ _) (congrArg (World.drewN _) (Nat.add_assoc _ _ _))⟩))))
     go_ret2
     exact Zc
end Go.Proofs.Ytehmhgpogpbjiaa.PFccTokens
