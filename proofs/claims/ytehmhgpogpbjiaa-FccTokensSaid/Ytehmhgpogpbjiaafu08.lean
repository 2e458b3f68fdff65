import Derived.Test.Ytehmhgpogpbjiaafu07
import Derived.WideKeyEntry
import Derived.Maps.Views
import Derived.Maps.OwnOps
import Derived.StringKeys
import Derived.WalkArith
import Derived.StillTailTactics
set_option linter.unusedVariables false
set_option linter.unusedSimpArgs false
set_option maxRecDepth 100000
set_option maxHeartbeats 8000000
namespace Go.Proofs.Ytehmhgpogpbjiaa.Fcc
open Go.RowKit Go.Proofs.YtehmhgpogpbjiaaW.PrintWords Go.Proofs.YtehmhgpogpbjiaaW.PrintLast Go.Proofs.YtehmhgpogpbjiaaW.PrintMore Go.Proofs.Ytehmhgpogpbjiaa.PFccTokens
def wt (m : Mk) : Nat := m.out.length + m.origs.length + m.dests.length + m.loops.length + m.leads.length + (m.cases.map (fun c => c.f1.length + 1)).sum
theorem sum_len (l : List Ch) : l.length ≤ (l.map (fun c => c.f1.length + 1)).sum := by
 induction l with
 | nil => simp
 | cons x l ih => simp only [List.length_cons, List.map_cons, List.sum_cons]; omega
theorem Xf {m : Mk} {B : Nat} (h : wt m ≤ B) : m.out.length ≤ B ∧ m.origs.length ≤ B ∧ m.dests.length ≤ B ∧ m.loops.length ≤ B ∧ m.leads.length ≤ B ∧ m.cases.length ≤ B ∧ ∀ c ∈ m.cases, c.f1.length ≤ B := by
 unfold wt at h
 have h1 := sum_len m.cases
 refine ⟨Z0, Z0, Z0, Z0, Z0, Z0, fun c hc => ?_⟩
 have : c.f1.length + 1 ≤ (m.cases.map (fun c => c.f1.length + 1)).sum := by
  clear h h1
  generalize m.cases = l at hc
  induction l with
  | nil => cases hc
  | cons x l ih =>
    simp only [List.map_cons, List.sum_cons]
    rcases List.mem_cons.1 hc with rfl | hc
    ·omega
    ·have := ih hc; omega
 omega
theorem Xd {s : ByteArray} {l : List UInt8} (h : s.toList = l) : s = ⟨l.toArray⟩ := by
 apply ByteArray.ext
 rw [ByteArray.toList_eq] at h
 rw [← h, Array.toArray_toList]
section
variable {w : World} {base g : Nat} {prims : List (ByteArray × Int)} {o : Nat → Nat} {vs : List Value} {m : Mk}
def BPostO (base g : Nat) (prims : List (ByteArray × Int)) (r : Option Res) (w : World) (e : Ending) (w' : World) : Prop := match r with
 | some r => VM base g prims r w e w'
 | none => e = .returned (.tuple #[.int .i64 0, .bool false]) ∧ w' = w
theorem Yfb (h : Mx w base g prims o vs m) (hb : wt m ≤ 1000000000000) (s : ByteArray) : Calls Try.prog 61 #[.pointer (some ⟨g, 0, none⟩), .string s] w (BPostO base g prims (YI m s) w) := by
 obtain ⟨b1, b2, b3, b4, b5, b6, b7⟩ := Xf hb
 by_cases h_if : s.toList = ([105, 102] : List UInt8)
 ·obtain rfl := Xd h_if
  obtain ⟨r, hr, hc⟩ : ∃ r, YI m ⟨#[105, 102]⟩ = some r ∧ Calls Try.prog 61 _ w (VM base g prims r w) := ⟨_, (by unfold YI; simp only [h_if]; rfl), if_calls h Z0 Z0⟩
  rw [hr]
  exact hc
 by_cases h_while : s.toList = ([119, 104, 105, 108, 101] : List UInt8)
 ·obtain rfl := Xd h_while
  obtain ⟨r, hr, hc⟩ : ∃ r, YI m ⟨#[119, 104, 105, 108, 101]⟩ = some r ∧ Calls Try.prog 61 _ w (VM base g prims r w) := ⟨_, (by unfold YI; simp only [h_while]; rfl), Yc4 h Z0 Z0⟩
  rw [hr]
  exact hc
 by_cases h_else : s.toList = ([101, 108, 115, 101] : List UInt8)
 ·obtain rfl := Xd h_else
  obtain ⟨r, hr, hc⟩ : ∃ r, YI m ⟨#[101, 108, 115, 101]⟩ = some r ∧ Calls Try.prog 61 _ w (VM base g prims r w) := ⟨_, (by unfold YI; simp only [h_else]; rfl), Ye7 h Z0 Z0 Z0⟩
  rw [hr]
  exact hc
 by_cases h_then : s.toList = ([116, 104, 101, 110] : List UInt8)
 ·obtain rfl := Xd h_then
  obtain ⟨r, hr, hc⟩ : ∃ r, YI m ⟨#[116, 104, 101, 110]⟩ = some r ∧ Calls Try.prog 61 _ w (VM base g prims r w) := ⟨_, (by unfold YI; simp only [h_then]; rfl), Yem h Z0 Z0⟩
  rw [hr]
  exact hc
 by_cases h_begin : s.toList = ([98, 101, 103, 105, 110] : List UInt8)
 ·obtain rfl := Xd h_begin
  obtain ⟨r, hr, hc⟩ : ∃ r, YI m ⟨#[98, 101, 103, 105, 110]⟩ = some r ∧ Calls Try.prog 61 _ w (VM base g prims r w) := ⟨_, (by unfold YI; simp only [h_begin]; rfl), YdK h Z0 Z0⟩
  rw [hr]
  exact hc
 by_cases h_until : s.toList = ([117, 110, 116, 105, 108] : List UInt8)
 ·obtain rfl := Xd h_until
  obtain ⟨r, hr, hc⟩ : ∃ r, YI m ⟨#[117, 110, 116, 105, 108]⟩ = some r ∧ Calls Try.prog 61 _ w (VM base g prims r w) := ⟨_, (by unfold YI; simp only [h_until]; rfl), Yc5 h Z0 Z0⟩
  rw [hr]
  exact hc
 by_cases h_again : s.toList = ([97, 103, 97, 105, 110] : List UInt8)
 ·obtain rfl := Xd h_again
  obtain ⟨r, hr, hc⟩ : ∃ r, YI m ⟨#[97, 103, 97, 105, 110]⟩ = some r ∧ Calls Try.prog 61 _ w (VM base g prims r w) := ⟨_, (by unfold YI; simp only [h_again]; rfl), YdO h Z0 Z0⟩
  rw [hr]
  exact hc
 by_cases h_repeat : s.toList = ([114, 101, 112, 101, 97, 116] : List UInt8)
 ·obtain rfl := Xd h_repeat
  obtain ⟨r, hr, hc⟩ : ∃ r, YI m ⟨#[114, 101, 112, 101, 97, 116]⟩ = some r ∧ Calls Try.prog 61 _ w (VM base g prims r w) := ⟨_, (by unfold YI; simp only [h_repeat]; rfl), Ycz h Z0 Z0⟩
  rw [hr]
  exact hc
 have hn : YI m s = none := by unfold YI; simp only [h_if, h_while, h_else, h_then, h_begin, h_until, h_again, h_repeat, or_self, if_false]
 rw [hn]
 exact YcX h s (by simp only [List.mem_cons, List.not_mem_nil, or_false, not_or]; exact ⟨h_if, h_while, h_else, h_then, h_begin, h_until, h_again, h_repeat⟩)
theorem leave_any (h : Mx w base g prims o vs m) (hl : m.out.length < 1099511627776) (hl2 : m.loops.length < 1099511627776) : Calls Try.prog 62 #[.pointer (some ⟨g, 0, none⟩), .string ⟨#[108, 101, 97, 118, 101]⟩] w (VM base g prims (if m.loops = [] then .inr 13 else .inl (m.add 27)) w) := by
 by_cases hne : m.loops = []
 ·rw [if_pos hne]
  exact YeR h hne
 ·rw [if_neg hne]
  exact Ydv h hl hl2 hne
theorem loop_any (h : Mx w base g prims o vs m) (hb : wt m ≤ 1000000000000) (s : ByteArray) : Calls Try.prog 62 #[.pointer (some ⟨g, 0, none⟩), .string s] w (BPostO base g prims (Vg m s) w) := by
 obtain ⟨b1, b2, b3, b4, b5, b6, b7⟩ := Xf hb
 by_cases h_do : s.toList = ([100, 111] : List UInt8)
 ·obtain rfl := Xd h_do
  obtain ⟨r, hr, hc⟩ : ∃ r, Vg m ⟨#[100, 111]⟩ = some r ∧ Calls Try.prog 62 _ w (VM base g prims r w) := ⟨_, (by unfold Vg; simp only [h_do]; rfl), do_calls h Z0 Z0⟩
  rw [hr]
  exact hc
 by_cases h_qdo : s.toList = ([63, 100, 111] : List UInt8)
 ·obtain rfl := Xd h_qdo
  obtain ⟨r, hr, hc⟩ : ∃ r, Vg m ⟨#[63, 100, 111]⟩ = some r ∧ Calls Try.prog 62 _ w (VM base g prims r w) := ⟨_, (by unfold Vg; simp only [h_qdo]; rfl), qdo_calls h Z0 Z0⟩
  rw [hr]
  exact hc
 by_cases h_loop : s.toList = ([108, 111, 111, 112] : List UInt8)
 ·obtain rfl := Xd h_loop
  obtain ⟨r, hr, hc⟩ : ∃ r, Vg m ⟨#[108, 111, 111, 112]⟩ = some r ∧ Calls Try.prog 62 _ w (VM base g prims r w) := ⟨_, (by unfold Vg; simp only [h_loop]; rfl), YeP h Z0 Z0⟩
  rw [hr]
  exact hc
 by_cases h_qloopp : s.toList = ([43, 108, 111, 111, 112] : List UInt8)
 ·obtain rfl := Xd h_qloopp
  obtain ⟨r, hr, hc⟩ : ∃ r, Vg m ⟨#[43, 108, 111, 111, 112]⟩ = some r ∧ Calls Try.prog 62 _ w (VM base g prims r w) := ⟨_, (by unfold Vg; simp only [h_qloopp]; rfl), Ydr h Z0 Z0⟩
  rw [hr]
  exact hc
 by_cases h_leave : s.toList = ([108, 101, 97, 118, 101] : List UInt8)
 ·obtain rfl := Xd h_leave
  obtain ⟨r, hr, hc⟩ : ∃ r, Vg m ⟨#[108, 101, 97, 118, 101]⟩ = some r ∧ Calls Try.prog 62 _ w (VM base g prims r w) := ⟨_, (by unfold Vg; simp only [h_leave]; rfl), leave_any h Z0 Z0⟩
  rw [hr]
  exact hc
 have hn : Vg m s = none := by unfold Vg; simp only [h_do, h_qdo, h_loop, h_qloopp, h_leave, or_self, if_false]
 rw [hn]
 exact YeO h s (by simp only [List.mem_cons, List.not_mem_nil, or_false, not_or]; exact ⟨h_do, h_qdo, h_loop, h_qloopp, h_leave⟩)
theorem Ye9 (h : Mx w base g prims o vs m) (hb : wt m ≤ 1000000000000) (s : ByteArray) (hs : s.toList ∈ ([[99, 97, 115, 101], [111, 102], [101, 110, 100, 111, 102], [101, 110, 100, 99, 97, 115, 101]] : List (List UInt8))) : Calls Try.prog 63 #[.pointer (some ⟨g, 0, none⟩), .string s] w (XT base g prims (Xg m s) w) := by
 obtain ⟨b1, b2, b3, b4, b5, b6, b7⟩ := Xf hb
 by_cases h0 : s.toList = ([99, 97, 115, 101] : List UInt8)
 ·have hr : Xg m s = .inl ({ m with cases := m.cases ++ ([⟨-1, []⟩] : List Ch) }.add 196) := by unfold Xg; rw [if_pos h0]
  rw [hr]
  obtain rfl := Xd h0
  exact Yfa h Z0 Z0
 ·have hu : Xg m s = match m.cases.getLast? with
   | none => .inr 13
   | some c => if (c.f0 < 0 ↔ s.toList = ([101, 110, 100, 111, 102] : List UInt8)) then .inr 13 else if s.toList = ([111, 102] : List UInt8) then .inl ({ m with cases := m.cases.dropLast ++ ([⟨m.at_, c.f1⟩] : List Ch) }.add 28)
     else if s.toList = ([101, 110, 100, 111, 102] : List UInt8) then .inl ({ m with cases := m.cases.dropLast ++ ([⟨-1, c.f1 ++ [m.at_]⟩] : List Ch), leads := m.leads ++ ([⟨c.f0, m.at_⟩] : List Ld) }.add 198)
     else .inl ({ m with cases := m.cases.dropLast, leads := m.leads ++ c.f1.map (fun x => (⟨x, m.at_⟩ : Ld)) }.add 197) := by unfold Xg; exact if_neg h0
  rw [hu]
  rcases List.eq_nil_or_concat m.cases with hc | ⟨pre, c, hc⟩
  ·rw [hc]
   exact YdH h Z0 hc s h0
  ·rw [List.concat_eq_append] at hc
   have hl : m.cases.getLast? = some c := by rw [hc]; simp
   have hd : m.cases.dropLast = pre := by rw [hc]; simp
   have hcl : c.f1.length ≤ 1000000000000 := b7 c (by rw [hc]; simp)
   rw [hl, hd]
   by_cases h1 : s.toList = ([101, 110, 100, 111, 102] : List UInt8)
   ·have h2 : ¬ s.toList = ([111, 102] : List UInt8) := by rw [h1]; decide
    by_cases hz : c.f0 < 0
    ·simp only [h1, hz, if_true]
     obtain rfl := Xd h1
     exact YdF h Z0 hc Z0 hz
    ·simp only [h1, hz, false_iff, not_true, if_false, if_true]
     rw [if_neg Z1]
     obtain rfl := Xd h1
     exact YdB h Z0 hc Z0 Z0 Z0 Z0
   ·by_cases hz : c.f0 < 0
    ·simp only [h1, hz, true_iff, if_false]
     by_cases h2 : s.toList = ([111, 102] : List UInt8)
     ·rw [if_pos h2]
      obtain rfl := Xd h2
      exact of_calls h Z0 hc Z0 hz
     ·rw [if_neg h2]
      simp only [List.mem_cons, List.not_mem_nil, or_false] at hs
      rcases hs with hs | hs | hs | hs
      ·exact absurd hs h0
      ·exact absurd hs h2
      ·exact absurd hs h1
      ·obtain rfl := Xd hs
       exact Yb6 h Z0 hc Z0 Z0 Z0 hz
    ·simp only [h1, hz, iff_self, if_true]
     exact YdG h Z0 hc Z0 Z0 s h0 h1
end
end Go.Proofs.Ytehmhgpogpbjiaa.Fcc
namespace Go.Proofs.Ytehmhgpogpbjiaa.Fcc
open Go.RowKit Go.Proofs.YtehmhgpogpbjiaaW.PrintWords Go.Proofs.YtehmhgpogpbjiaaW.PrintLast Go.Proofs.YtehmhgpogpbjiaaW.PrintMore Go.Proofs.Ytehmhgpogpbjiaa.PFccTokens
open Go.Maps (string_keyed)
theorem own_isMap {H : Type} {P : Program} {k : TypeId} {R : Value → Option (DataW H × List MemPlace)} {w : World} {b n : Nat} {D : DataW H} (h : w.ownsMap P k R b n D) : Maps.IsMap D := by
 obtain ⟨es, clock, _, _, _, rfl⟩ := h
 exact ⟨_, rfl⟩
theorem Ybv.put {D : DataW Unit} {l : List (ByteArray × Int)} (h : Ybv D l) (hD : Maps.IsMap D) (s : ByteArray) (c : Int) : Ybv (D.put (.string s.data.toList) (.lit (.int .i64 c))) ((s, c) :: l) := by
 intro t
 have hk : WideAt.IsKeyLit (.string s.data.toList) := trivial
 by_cases ht : s = t
 ·subst ht
  refine ⟨(by rw [Maps.has_put_same hD hk]; simp [look]), fun c' hc => ?_⟩
  rw [Maps.atKey_put_same hD hk]
  simp [look] at hc
  rw [hc]
 ·have hne : (Lit.string t.data.toList) ≠ .string s.data.toList := fun e => by
   injection e with e
   exact ht (ByteArray.ext (Array.ext' e.symm))
  have hl : look ((s, c) :: l) t = look l t := by simp [look, List.find?_cons, ht]
  rw [hl]
  exact ⟨(by rw [Maps.has_put_other hne]; exact (h t).1), fun c' hc => by rw [Maps.atKey_put_other hne]; exact (h t).2 c' hc⟩
theorem key9 {s : ByteArray} (hsz : s.size ≤ maxLen) : keyOf Try.prog 9 (.string s) = some (.string s.data.toList) := Go.WideMaps.keyOf_string_mk Try.underlying9 hsz
section
variable {w w1 : World} {base g : Nat} {prims : List (ByteArray × Int)} {o : Nat → Nat} {vs : List Value} {m : Mk}
theorem Mx.map (h : Mx w base g prims o vs m) : ∃ b n D, vs[2]? = some (.map (some b)) ∧ o b = 3 ∧ base ≤ b ∧ n ≤ (m.names ++ prims).length ∧ Ybv D (m.names ++ prims) ∧ w.ownsMap Try.prog 9 (plainElem Try.prog 3) b n D := by
 obtain ⟨v, hv⟩ : ∃ v, vs[2]? = some v := ⟨_, List.getElem?_eq_getElem Z18⟩
 obtain ⟨n, D, hn, hA, b, rfl, hb, hbb, hD⟩ := (h.st.row 2 v (Jg base (m.names ++ prims)) hv rfl : Jg base (m.names ++ prims) w _ v)
 exact ⟨b, n, D, hv, hb, hbb, hn, hA, hD⟩
theorem Mx.named1 {b n : Nat} {D : DataW Unit} (h : Mx w base g prims o vs m) (hv : vs[2]? = some (.map (some b))) (hb : o b = 3) (hbb : base ≤ b) (hn : n ≤ (m.names ++ prims).length) (hA : Ybv D (m.names ++ prims)) (hD : w.ownsMap Try.prog 9 (plainElem Try.prog 3) b n D)
 (s : ByteArray) (c : Int) (hg : w.grownBy w1 (some b)) (hD1 : w1.ownsMap Try.prog 9 (plainElem Try.prog 3) b (n + 1) (D.put (.string s.data.toList) (.lit (.int .i64 c)))) : Mx w1 base g prims o vs { m with names := (s, c) :: m.names } := by
 refine ⟨h.st.turn 2 (loc_names base ((s, c) :: (m.names ++ prims))) (fun _ _ => rfl) (fun k hlt _ hne => hg.block k hlt (fun e => hne (by cases e; exact hb))) (fun v hv' => ?_), h.len⟩
 rw [hv] at hv'
 cases hv'
 exact ⟨n + 1, _, (by simp at hn ⊢; omega), hA.put (own_isMap hD) s c, b, rfl, hb, hbb, hD1⟩
end
theorem Ul (prims : List (ByteArray × Int)) (m : Mk) (s : ByteArray) : look (m.names ++ prims) s = Vz prims m s := by
 unfold look Vz
 rw [List.find?_append]
 cases m.names.find? (fun p => decide (p.1 = s)) <;> rfl
theorem Yei : ∀ w, (zeroValue 3).run Try.prog w = .ok (.int .i64 0) w := by
 have h : (Try.prog.info? 3).map (fun i => (i.zero, i.size, i.bytes)) = some (some (.int .i64 0), 1, 8) := by kernel_rfl
 obtain ⟨i0, hi, hz0, -, -⟩ := info_parts h
 intro w
 simp [zeroValue, typeInfo, hi, hz0]
section
variable {w : World} {base g : Nat} {prims : List (ByteArray × Int)} {o : Nat → Nat} {vs : List Value} {m : Mk}
theorem Ydu (code : Int) {t : S59} {r : List S59} {n : Int} (h : Mx w base g prims o vs m) (hl : m.out.length < 1099511627776) (hm : m.inp = t :: r) (ht : t.f0 = 1) (hf : Vz prims m t.f1 = some n) (hn : 0 ≤ n ∧ n < 4294967296) (hsz : t.f1.size ≤ maxLen) :
 Calls Try.prog 37 #[.pointer (some ⟨g, 0, none⟩), .int .i64 code] w (XT base g prims (.inl ({ m with inp := r }.add code n)) w) := by
 go_enter Try.func37, Try.ntmps37
 go_wp2_with fail
 refine (Ug h hm ht).mono ?_
 rintro e w1 ⟨rfl, hB1, o1, vs1, h1⟩
 obtain ⟨v0, A1, c1, b, A7, c7, A8, c8, A9, c9, A10, c10, A11, c11, rfl⟩ := h1.cells
 obtain ⟨n1, D, hn1, hag, b', hb', -, -, hown⟩ := (h1.st.row 2 _ _ rfl rfl : Jg base (m.names ++ prims) w1 _ (.map (some b)))
 cases hb'
 have hc2 := h1.st.cell 2 rfl
 have hlk : look (m.names ++ prims) t.f1 = some n := by rw [Ul]; exact hf
 have ha := hag t.f1
 rw [hlk] at ha
 have hat0 := Aside0.mk (ha.2 n rfl)
 have hhas : Maps.has D (.string t.f1.data.toList) = true := ha.1
 clear ha hlk hag
 have hX := Aside0.mk h1
 clear h1 h
 go_wp2_with (at_lookup; refine wpList_lookup_own_ok_int _ rfl _ _ 52 rfl 9 3 .i64 (string_keyed Try.underlying9) Try.underlying52 Try.underlying3 (Yei _) b n1 D rfl hown _ _ rfl (Go.WideMaps.keyOf_string_mk Try.underlying9 hsz) ?_; intro c hat hwc)
 have hcn : c = n := by
  have := hat.symm.trans hat0.out
  simpa using this
 subst hcn
 rw [show c % 4294967296 = c from Int.emod_eq_of_lt hn.1 hn.2]
 refine (YW hX.out code c ⟨#[]⟩ hl).mono ?_
 rintro e w4 ⟨rfl, hB4, o4, vs4, h4⟩
 go_wp2_with fail
 exact bodyPost_ret (v := .int .i64 0) Z1R rfl ⟨hB1.trans hB4, rfl, o4, vs4, h4⟩
theorem YeN (code : Int) {t : S59} {r : List S59} (h : Mx w base g prims o vs m) (hm : m.inp = t :: r) (ht : t.f0 = 1) (hf : Vz prims m t.f1 = none) (hsz : t.f1.size ≤ maxLen) :
 Calls Try.prog 37 #[.pointer (some ⟨g, 0, none⟩), .int .i64 code] w (XT base g prims (.inr 14) w) := by
 go_enter Try.func37, Try.ntmps37
 go_wp2_with fail
 refine (Ug h hm ht).mono ?_
 rintro e w1 ⟨rfl, hB1, o1, vs1, h1⟩
 obtain ⟨v0, A1, c1, b, A7, c7, A8, c8, A9, c9, A10, c10, A11, c11, rfl⟩ := h1.cells
 obtain ⟨n1, D, hn1, hag, b', hb', -, -, hown⟩ := (h1.st.row 2 _ _ rfl rfl : Jg base (m.names ++ prims) w1 _ (.map (some b)))
 cases hb'
 have hc2 := h1.st.cell 2 rfl
 have hlk : look (m.names ++ prims) t.f1 = none := by rw [Ul]; exact hf
 have ha := hag t.f1
 rw [hlk] at ha
 have hhas : Maps.has D (.string t.f1.data.toList) = false := ha.1
 clear ha hlk hag
 have hX := Aside0.mk h1
 clear h1 h
 go_wp2_with (at_lookup; refine wpList_lookup_own_ok_int _ rfl _ _ 52 rfl 9 3 .i64 (string_keyed Try.underlying9) Try.underlying52 Try.underlying3 (Yei _) b n1 D rfl hown _ _ rfl (Go.WideMaps.keyOf_string_mk Try.underlying9 hsz) ?_; intro c hat hwc)
 exact bodyPost_ret (v := .int .i64 14) Z1R rfl ⟨hB1, rfl⟩
theorem YcI (code : Int) (h : Mx w base g prims o vs m) (hm : m.inp = [] ∨ ∃ t r, m.inp = t :: r ∧ t.f0 ≠ 1) :
 Calls Try.prog 37 #[.pointer (some ⟨g, 0, none⟩), .int .i64 code] w (XT base g prims (.inr 15) w) := by
 have hw : Calls Try.prog 64 #[.pointer (some ⟨g, 0, none⟩)] w fun e w' => e = .returned (.tuple #[.string ⟨#[]⟩, .int .i64 15]) ∧ w' = w := by
  rcases hm with hm | ⟨t, r, hm, ht⟩
  ·exact Yam h hm
  ·exact Yby h hm ht
 go_enter Try.func37, Try.ntmps37
 go_wp2_with fail
 refine hw.mono ?_
 rintro e w1 ⟨rfl, rfl⟩
 go_wp2_with fail
 exact bodyPost_ret (v := .int .i64 15) Z1R rfl ⟨Below.refl _ _, rfl⟩
end
theorem opens_le (m : Mk) (hb : wt m ≤ 1000000000000) : (m.origs.length : Int) + m.dests.length + m.loops.length + m.cases.length ≤ 1000000000000 := by
 have := sum_len m.cases
 unfold wt at hb
 omega
section
variable {w : World} {base g : Nat} {prims : List (ByteArray × Int)} {o : Nat → Nat} {vs : List Value} {m : Mk}
theorem Yez (h : Mx w base g prims o vs m) (hb : wt m ≤ 1000000000000) (hnm : m.name.size ≤ maxLen) (hpl : (m.names ++ prims).length < 1000000000000) (hcd : -9223372036854775808 ≤ m.code ∧ m.code < 9223372036854775808) :
 Calls Try.prog 36 #[.pointer (some ⟨g, 0, none⟩), .string ⟨#[59]⟩] w (XT base g prims (if m.origs.length + m.dests.length + m.loops.length + m.cases.length > 0 then .inr 13 else
 .inl (let m1 := m.add 194; { m1 with opn := false, names := (m1.name, m1.code) :: m1.names })) w) := by
 obtain ⟨b1, b2, b3, b4, b5, b6, b7⟩ := Xf hb
 have hsum := opens_le m hb
 obtain ⟨v0, A1, c1, b, A7, c7, A8, c8, A9, c9, A10, c10, A11, c11, rfl⟩ := h.cells
 have k7 := h.st.cell 7 rfl
 have k8 := h.st.cell 8 rfl
 have k9 := h.st.cell 9 rfl
 have k10 := h.st.cell 10 rfl
 have hX := Aside0.mk h
 clear h
 by_cases hz : m.origs.length + m.dests.length + m.loops.length + m.cases.length > 0
 ·rw [if_pos hz]
  have hd : decide ((0 : Int) < (m.origs.length : Int) + m.dests.length + m.loops.length + m.cases.length) = true := by simp; omega
  have e1 : IntKind.i64.wrap ((m.origs.length : Int) + m.dests.length) = (m.origs.length : Int) + m.dests.length := IntWalk.i64_in _ Z0
  have e2 : IntKind.i64.wrap ((m.origs.length : Int) + m.dests.length + m.loops.length) = (m.origs.length : Int) + m.dests.length + m.loops.length := IntWalk.i64_in _ Z0
  have e3 : IntKind.i64.wrap ((m.origs.length : Int) + m.dests.length + m.loops.length + m.cases.length) = (m.origs.length : Int) + m.dests.length + m.loops.length + m.cases.length := IntWalk.i64_in _ Z0
  go_enter Try.func36, Try.ntmps36
  go_wp2_with fail
  go_quiet (fail)
  go_wp2_with fail
  have hq := Xa.below (w := w) (w' := w.drewN nq) ⟨⟨nq, rfl⟩⟩
  exact bodyPost_ret (v := .int .i64 13) ZF rfl ⟨Below.mono hq hX.out.st.base_le, rfl⟩
 ·rw [if_neg hz]
  have z1 : m.origs.length = 0 := by omega
  have z2 : m.dests.length = 0 := by omega
  have z3 : m.loops.length = 0 := by omega
  have z4 : m.cases.length = 0 := by omega
  rw [z1] at k7
  rw [z2] at k8
  rw [z3] at k9
  rw [z4] at k10
  clear z1 z2 z3 z4 hz hsum
  obtain ⟨m4, hm4⟩ : ∃ m4, m.add 194 = m4 := ⟨_, rfl⟩
  have hnm4 := Aside0.mk (show m4.name.size ≤ maxLen by rw [← hm4]; exact hnm)
  have hpl4 := Aside0.mk (show (m4.names ++ prims).length < 1000000000000 by rw [← hm4]; exact hpl)
  have hcd4 := Aside0.mk (show -9223372036854775808 ≤ m4.code ∧ m4.code < 9223372036854775808 by rw [← hm4]; exact hcd)
  rw [hm4]
  have hM := Aside0.mk hm4
  clear hm4 hnm hpl hcd
  go_enter Try.func36, Try.ntmps36
  go_wp2_with fail
  go_quiet (fail)
  have hq := Xa.below (w := w) (w' := w.drewN nq) ⟨⟨nq, rfl⟩⟩
  have hB0 := Below.mono hq hX.out.st.base_le
  have hY := hX.out.below hq
  clear k7 k8 k9 k10 hq
  generalize w.drewN nq = W at hY hB0 ⊢
  replace hY := Aside0.mk hY
  go_wp2_with fail
  refine (YW hY.out 194 0 ⟨#[]⟩ Z0).mono ?_
  rintro e w4 ⟨rfl, hB4, o4, vs4, h4⟩
  rw [show m.add 194 0 ⟨#[]⟩ = m4 from hM.out] at h4
  clear hM
  go_wp2_with fail
  have hd := h4.below (YM (Below.refl _ _))
  have hBd : Below base w w4.drew := (hB0.trans hB4).trans (Below.mono (YM (Below.refl _ _)) h4.st.base_le)
  obtain ⟨v0, A1, c1, b, A7, c7, A8, c8, A9, c9, A10, c10, A11, c11, rfl⟩ := hd.cells
  refine VS (ds := [15, 16, 18]) (S := fun w' => w'.cell? ⟨g, 2, none⟩ = some (.map (some b)) ∧ w'.cell? ⟨g, 5, none⟩ = some (.string m4.name) ∧ w'.cell? ⟨g, 6, none⟩ = some (.int .i64 m4.code)) Z2 rfl rfl ⟨hd.st.cell 2 rfl, hd.st.cell 5 rfl, hd.st.cell 6 rfl⟩ (fun tb hS => ?_)
  generalize w4.drew = Wd at hd hBd hS ⊢
  refine seg_ [(0, 39), (1, 40), (2, 41), (3, 42), (4, 43), (5, 44), (6, 45), (7, 46), (8, 47), (9, 48), (10, 49), (11, 50), (12, 51), (13, 52), (14, 53)] tb hS Z2 (fun _ _ _ _ h => h) (a' := ?_) ?_ ?_
  rotate_left
  ·repeat (first | exact Seg.nil | (refine Seg.on (v := ?_) (a1 := ?_) rfl rfl Z4 ?_ ?_ ?_; rotate_left 2; (rintro w' hS; go_split_ands; go_simp; with_reducible rfl); (simp only [Act.put, List.setIfInBounds_toArray, List.set_cons_zero, List.set_cons_succ, Yy, YA]; rfl)))
  have k4 := hd.st.cell 4 rfl
  have f4 := hd.st.free 4
  have hX5 : Mx (Wd.setCell ⟨g, 4, none⟩ (.bool false)) base g prims o4 _ { m4 with opn := false } := ⟨hd.st.put 4 (loc_val base (.bool false)) rfl, rfl⟩
  have hB5 : Below base w (Wd.setCell ⟨g, 4, none⟩ (.bool false)) := Below.setCell hBd hX.out.st.hb _
  replace hd := Aside0.mk hd
  replace hX5 := Aside0.mk hX5
  replace hB5 := Aside0.mk hB5
  refine UI 15 tb rfl Z2 ?_
  go_wp2_with fail
  refine ql_ ?_
  generalize Wd.setCell ⟨g, 4, none⟩ (.bool false) = W5 at hX5 hB5 ⊢
  obtain ⟨b', n, D, hv, hob, hbb, hn, hA, hD⟩ := hX5.out.map
  cases hv
  obtain ⟨es, clock, hbk, FF, hsz, hDe⟩ := hD
  obtain ⟨v5, st, es1, clock1, he1, -, hst⟩ := Go.WideElems.entry_then_store (Go.WideMaps.string_law Try.underlying9) Try.underlying52 Yei hbk FF (key9 hnm4.out)
  have hD : W5.ownsMap Try.prog 9 (plainElem Try.prog 3) b n D := ⟨es, clock, hbk, FF, hsz, hDe⟩
  have hmx : maxLen = 9223372036854775807 := rfl
  have hcw : (Lit.int .i64 m4.code).wf = true := WalkArith.wf_i64 (Zo hcd4.out)
  obtain ⟨w', hrun, hown1, hg1⟩ := hD.update (string_keyed Try.underlying9) Try.underlying52 (by have := hpl4.out; have h9 : n ≤ (m4.names ++ prims).length := hn; omega) (key9 hnm4.out) (plainElem_int (P := Try.prog) (e := 3) (q := .i64) (H := Unit) Try.underlying3 hcw)
  obtain ⟨es', clock', he2, hu⟩ := hst (ChangeMaps.setBlock W5 b (.map es1 clock1)) (.int .i64 m4.code) (ChangeMaps.heap_setBlock_same hbk _)
  have hw' : w' = ChangeMaps.setBlock W5 b (.map es' clock') := by
   have := hrun.symm.trans hu
   injection this
  subst hw'
  have hw2 : ChangeMaps.setBlock (ChangeMaps.setBlock W5 b (.map es1 clock1)) b (.map es' clock') = ChangeMaps.setBlock W5 b (.map es' clock') := by simp [ChangeMaps.setBlock]
  rw [hw2] at he2
  have hgi : goInt (st : Int) = .int .i64 st := rfl
  rw [hgi] at he1 he2
  clear hgi
  have hX7 := hX5.out.named1 rfl hob hbb hn hA hD m4.name m4.code hg1 hown1
  have hB7 : Below base w (ChangeMaps.setBlock W5 b (.map es' clock')) := Below.grown hB5.out hg1 hX5.out.st.base_le (fun k e => by cases e; exact hbb)
  clear hg1 hown1 hu hrun hst hDe FF hD
  replace hX7 := Aside0.mk hX7
  replace hB7 := Aside0.mk hB7
  refine UI 16 tb rfl Z2 ?_
  go_wp2_with fail
  refine ql_ ?_
  refine sega_ [(17, 55)] tb Z2 (fun _ _ _ _ h => h) (a' := ?_) ?_ ?_
  rotate_left
  ·repeat (first | exact Seg.nil | (refine Seg.on (v := ?_) (a1 := ?_) rfl rfl Z4 ?_ ?_ ?_; rotate_left 2; (rintro w' hS; go_simp; with_reducible rfl); (simp only [Act.put, List.setIfInBounds_toArray, List.set_cons_zero, List.set_cons_succ, Yy, YA]; rfl)))
  refine UI 18 tb rfl Z2 ?_
  go_wp2_with fail
  refine ql_ (end_ tb Z2 ?_)
  go_wp2_with fail
  exact bodyPost_ret (v := .int .i64 0) ZF rfl ⟨hB7.out, rfl, _, _, hX7.out⟩
theorem Ye2 (h : Mx w base g prims o vs m) (hl : m.out.length < 1099511627770) :
 Calls Try.prog 36 #[.pointer (some ⟨g, 0, none⟩), .string ⟨#[101, 120, 105, 116]⟩] w (XT base g prims (.inl (m.add 51)) w) := by
 have hX := Aside0.mk h
 clear h
 go_enter Try.func36, Try.ntmps36
 go_wp2_with fail
 refine (YW hX.out 51 0 ⟨#[]⟩ Z0).mono ?_
 rintro e w4 ⟨rfl, hB4, o4, vs4, h4⟩
 go_wp2_with fail
 exact Z1i
theorem Yel {r : Res} (h : Calls Try.prog 37 #[.pointer (some ⟨g, 0, none⟩), .int .i64 17] w (XT base g prims r w)) :
 Calls Try.prog 36 #[.pointer (some ⟨g, 0, none⟩), .string ⟨#[91, 39, 93]⟩] w (XT base g prims r w) := by
 have hX := Aside0.mk h
 clear h
 go_enter Try.func36, Try.ntmps36
 go_wp2_with fail
 refine hX.out.mono ?_
 rcases r with m1 | c
 ·rintro e w4 ⟨hB4, rfl, o4, vs4, h4⟩
  go_wp2_with fail
  exact Z1i
 ·rintro e w4 ⟨hB4, rfl⟩
  go_wp2_with fail
  exact Z1F
theorem Yc7 (h : Mx w base g prims o vs m) (hb : wt m ≤ 1000000000000) (s : ByteArray) (ht : YS s = true) :
 Calls Try.prog 36 #[.pointer (some ⟨g, 0, none⟩), .string s] w (XT base g prims (match YI m s with
 | some r => r
 | none => match Vg m s with
   | some r => r
   | none => Xg m s) w) := by
 have hX := Aside0.mk h
 have n0 : s.toList ≠ ([59] : List UInt8) := fun e => by unfold YS at ht; rw [e] at ht; revert ht; decide
 have n1 : s.toList ≠ ([101, 120, 105, 116] : List UInt8) := fun e => by unfold YS at ht; rw [e] at ht; revert ht; decide
 have n2 : s.toList ≠ ([91, 39, 93] : List UInt8) := fun e => by unfold YS at ht; rw [e] at ht; revert ht; decide
 have b0 : (s.toList == ([59] : List UInt8)) = false := beq_eq_false_iff_ne.mpr n0
 have b1 : (s.toList == ([101, 120, 105, 116] : List UInt8)) = false := beq_eq_false_iff_ne.mpr n1
 have b2 : (s.toList == ([91, 39, 93] : List UInt8)) = false := beq_eq_false_iff_ne.mpr n2
 clear n0 n1 n2
 have hbr := Yfb h hb s
 cases hbp : YI m s with
 | some r =>
   rw [hbp] at hbr
   have hC := Aside0.mk (show Calls Try.prog 61 #[.pointer (some ⟨g, 0, none⟩), .string s] w (VM base g prims r w) from hbr)
   clear hbr hbp ht h hX
   simp only
   go_enter Try.func36, Try.ntmps36
   go_wp2_with fail
   refine hC.out.mono ?_
   rcases r with m1 | c
   ·rintro e w4 ⟨hB4, rfl, o4, vs4, h4⟩
    go_wp2_with fail
    exact Z1i
   ·rintro e w4 ⟨hB4, rfl⟩
    go_wp2_with fail
    exact Z1F
 | none =>
   rw [hbp] at hbr
   have hC := Aside0.mk (show Calls Try.prog 61 #[.pointer (some ⟨g, 0, none⟩), .string s] w (fun e w' => e = .returned (.tuple #[.int .i64 0, .bool false]) ∧ w' = w) from hbr)
   have hlp := loop_any h hb s
   cases hlpp : Vg m s with
   | some r =>
     rw [hlpp] at hlp
     have hC2 := Aside0.mk (show Calls Try.prog 62 #[.pointer (some ⟨g, 0, none⟩), .string s] w (VM base g prims r w) from hlp)
     clear hbr hbp ht h hX hlp hlpp
     simp only
     go_enter Try.func36, Try.ntmps36
     go_wp2_with fail
     refine hC.out.mono ?_
     rintro e w4 ⟨rfl, rfl⟩
     go_wp2_with fail
     refine hC2.out.mono ?_
     rcases r with m1 | c
     ·rintro e w4 ⟨hB4, rfl, o4, vs4, h4⟩
      go_wp2_with fail
      exact Z1i
     ·rintro e w4 ⟨hB4, rfl⟩
      go_wp2_with fail
      exact Z1F
   | none =>
     rw [hlpp] at hlp
     have hC2 := Aside0.mk (show Calls Try.prog 62 #[.pointer (some ⟨g, 0, none⟩), .string s] w (fun e w' => e = .returned (.tuple #[.int .i64 0, .bool false]) ∧ w' = w) from hlp)
     have hs : s.toList ∈ ([[99, 97, 115, 101], [111, 102], [101, 110, 100, 111, 102], [101, 110, 100, 99, 97, 115, 101]] : List (List UInt8)) := by
      simp only [YS, decide_eq_true_eq, List.mem_cons, List.not_mem_nil, or_false] at ht ⊢
      rcases ht with e | e | e | e | e | e | e | e | e | e | e | e | e | e | e | e | e <;>
       first
        | (exfalso; revert hbp; unfold YI; rw [e]; simp; done)
        | (exfalso; revert hlpp; unfold Vg; rw [e]; simp; done)
        | (rw [e]; simp)
     obtain ⟨r, hr⟩ : ∃ r, Xg m s = r := ⟨_, rfl⟩
     have hC3 := Aside0.mk (hr ▸ Ye9 h hb s hs)
     rw [hr]
     clear hbr hbp ht h hX hlp hlpp hs hr
     simp only
     go_enter Try.func36, Try.ntmps36
     go_wp2_with fail
     refine hC.out.mono ?_
     rintro e w4 ⟨rfl, rfl⟩
     go_wp2_with fail
     refine hC2.out.mono ?_
     rintro e w4 ⟨rfl, rfl⟩
     go_wp2_with fail
     refine hC3.out.mono ?_
     rcases r with m1 | c
     ·rintro e w4 ⟨hB4, rfl, o4, vs4, h4⟩
      go_wp2_with fail
      exact Z1i
     ·rintro e w4 ⟨hB4, rfl⟩
      go_wp2_with fail
      exact Z1F
end
end Go.Proofs.Ytehmhgpogpbjiaa.Fcc
namespace Go.Proofs.Ytehmhgpogpbjiaa.Fcc
open Go.RowKit Go.Proofs.YtehmhgpogpbjiaaW.PrintWords Go.Proofs.YtehmhgpogpbjiaaW.PrintLast Go.Proofs.YtehmhgpogpbjiaaW.PrintMore Go.Proofs.Ytehmhgpogpbjiaa.PFccTokens
theorem Xk (s : ByteArray) (w : World) : Calls Try.prog 35 #[.string s] w fun e w' => e = .returned (.int .i64 (YJ s)) ∧ w' = w := by
 by_cases h0 : s.toList = ([58] : List UInt8)
 ·have hr : YJ s = 183 := by unfold YJ; rw [h0]; rfl
  rw [hr]
  obtain rfl := Xd h0
  clear hr h0
  go_enter Try.func35, Try.ntmps35
  go_wp2_with fail
  exact bodyPost_ret (v := .int .i64 183) ZN rfl ⟨rfl, rfl⟩
 by_cases h1 : s.toList = ([99, 111, 110, 115, 116, 97, 110, 116] : List UInt8)
 ·have hr : YJ s = 186 := by unfold YJ; rw [h1]; rfl
  rw [hr]
  obtain rfl := Xd h1
  clear hr h1 h0
  go_enter Try.func35, Try.ntmps35
  go_wp2_with fail
  exact bodyPost_ret (v := .int .i64 186) ZN rfl ⟨rfl, rfl⟩
 by_cases h2 : s.toList = ([118, 97, 108, 117, 101] : List UInt8)
 ·have hr : YJ s = 184 := by unfold YJ; rw [h2]; rfl
  rw [hr]
  obtain rfl := Xd h2
  clear hr h2 h0 h1
  go_enter Try.func35, Try.ntmps35
  go_wp2_with fail
  exact Z2y
 by_cases h3 : s.toList = ([105, 110, 115, 116, 97, 110, 99, 101] : List UInt8)
 ·have hr : YJ s = 184 := by unfold YJ; rw [h3]; rfl
  rw [hr]
  obtain rfl := Xd h3
  clear hr h3 h0 h1 h2
  go_enter Try.func35, Try.ntmps35
  go_wp2_with fail
  exact Z2y
 by_cases h4 : s.toList = ([118, 97, 114, 105, 97, 98, 108, 101] : List UInt8)
 ·have hr : YJ s = 185 := by unfold YJ; rw [h4]; rfl
  rw [hr]
  obtain rfl := Xd h4
  clear hr h4 h0 h1 h2 h3
  go_enter Try.func35, Try.ntmps35
  go_wp2_with fail
  exact bodyPost_ret (v := .int .i64 185) ZN rfl ⟨rfl, rfl⟩
 by_cases h5 : s.toList = ([100, 101, 102, 101, 114] : List UInt8)
 ·have hr : YJ s = 188 := by unfold YJ; rw [h5]; rfl
  rw [hr]
  obtain rfl := Xd h5
  clear hr h5 h0 h1 h2 h3 h4
  go_enter Try.func35, Try.ntmps35
  go_wp2_with fail
  exact bodyPost_ret (v := .int .i64 188) ZN rfl ⟨rfl, rfl⟩
 by_cases h6 : s.toList = ([98, 117, 102, 102, 101, 114, 58] : List UInt8)
 ·have hr : YJ s = 189 := by unfold YJ; rw [h6]; rfl
  rw [hr]
  obtain rfl := Xd h6
  clear hr h6 h0 h1 h2 h3 h4 h5
  go_enter Try.func35, Try.ntmps35
  go_wp2_with fail
  exact bodyPost_ret (v := .int .i64 189) ZN rfl ⟨rfl, rfl⟩
 have hr : YJ s = 0 := by unfold YJ; simp only [h0, h1, h2, h3, h4, h5, h6, or_self, if_false]
 rw [hr]
 have b0 : (s.toList == ([58] : List UInt8)) = false := beq_eq_false_iff_ne.mpr h0
 have b1 : (s.toList == ([99, 111, 110, 115, 116, 97, 110, 116] : List UInt8)) = false := beq_eq_false_iff_ne.mpr h1
 have b2 : (s.toList == ([118, 97, 108, 117, 101] : List UInt8)) = false := beq_eq_false_iff_ne.mpr h2
 have b3 : (s.toList == ([105, 110, 115, 116, 97, 110, 99, 101] : List UInt8)) = false := beq_eq_false_iff_ne.mpr h3
 have b4 : (s.toList == ([118, 97, 114, 105, 97, 98, 108, 101] : List UInt8)) = false := beq_eq_false_iff_ne.mpr h4
 have b5 : (s.toList == ([100, 101, 102, 101, 114] : List UInt8)) = false := beq_eq_false_iff_ne.mpr h5
 have b6 : (s.toList == ([98, 117, 102, 102, 101, 114, 58] : List UInt8)) = false := beq_eq_false_iff_ne.mpr h6
 clear hr h0 h1 h2 h3 h4 h5 h6
 go_enter Try.func35, Try.ntmps35
 go_wp2_with fail
 exact bodyPost_ret (v := .int .i64 0) ZN rfl ⟨rfl, rfl⟩
abbrev UZ (named : ByteArray → Bool) : Prop := ∀ (s : ByteArray) (W : World), s.size ≤ maxLen → Calls Try.prog 89 #[.string s] W fun e W' => e = .returned (.bool (named s)) ∧ Below W.heap.size W W'
section
variable {w : World} {base g : Nat} {prims : List (ByteArray × Int)} {o : Nat → Nat} {vs : List Value} {m : Mk} {named : ByteArray → Bool} {t : S59} {r : List S59}
theorem Mx.setNext {v0 v1 v2 v3 : Value} {vr : List Value} (h : Mx w base g prims o (v0 :: v1 :: v2 :: v3 :: vr) m) (n : Int) :
 Mx (w.setCell ⟨g, 3, none⟩ (.int .i64 n)) base g prims o (v0 :: v1 :: v2 :: .int .i64 n :: vr) { m with next := n } :=
 ⟨h.st.put 3 (loc_val base (.int .i64 n)) rfl, h.len⟩
theorem YdA (hN : UZ named) (h : Mx w base g prims o vs m) (hm : m.inp = t :: r) (ht : t.f0 = 1) (hsz : t.f1.size ≤ maxLen) (hs : named t.f1 = true) (hx : 0 ≤ m.next ∧ m.next ≤ 4095) :
 Calls Try.prog 65 #[.pointer (some ⟨g, 0, none⟩)] w fun e w' => e = .returned (.tuple #[.string t.f1, .int .i64 m.next, .int .i64 0]) ∧ Below base w w' ∧ ∃ o' vs', Mx w' base g prims o' vs' { m with inp := r, next := m.next + 1 } := by
 go_enter Try.func65, Try.ntmps65
 go_wp2_with fail
 refine (Ug h hm ht).mono ?_
 rintro e w1 ⟨rfl, hB1, o1, vs1, h1⟩
 have hbg := h.st.hb
 clear h
 go_wp2_with fail
 refine (hN t.f1 w1 hsz).mono ?_
 rintro e w2 ⟨rfl, hB2⟩
 rw [hs]
 have h2 := h1.below hB2
 have hB := hB1.trans (Below.mono hB2 h1.st.base_le)
 clear h1 hB1 hB2
 obtain ⟨v0, A1, c1, b, A7, c7, A8, c8, A9, c9, A10, c10, A11, c11, rfl⟩ := h2.cells
 have hc3 := h2.st.cell 3 rfl
 have hf3 := h2.st.free 3
 have e1 : (4095 < m.next) = False := eq_false Z0
 have e2 : wrap64 (m.next + 1) = m.next + 1 := IntWalk.wrap64_in _ ⟨Z0, Z0⟩
 have h3 := h2.setNext (m.next + 1)
 have hB3 : Below base w (w2.setCell ⟨g, 3, none⟩ (.int .i64 (m.next + 1))) := Below.setCell hB hbg _
 go_wp2_with fail
 generalize w2.setCell ⟨g, 3, none⟩ (.int .i64 (m.next + 1)) = w3 at h3 hB3 ⊢
 have hc3 := h3.st.cell 3 rfl
 have e3 : m.next + 1 - 1 = m.next := by omega
 have e4 : wrap64 m.next = m.next := IntWalk.wrap64_in _ ⟨Z0, Z0⟩
 go_quiet (fail)
 go_wp2_with fail
 have hq := Xa.below (w := w3) (w' := w3.drewN nq) ⟨⟨nq, rfl⟩⟩
 exact bodyPost_ret (v := .tuple #[.string t.f1, .int .i64 m.next, .int .i64 0]) Z1r rfl ⟨rfl, hB3.trans (Below.mono hq h3.st.base_le), _, _, h3.below hq⟩
theorem Ye1 (hN : UZ named) (h : Mx w base g prims o vs m) (hm : m.inp = t :: r) (ht : t.f0 = 1) (hsz : t.f1.size ≤ maxLen) (hs : named t.f1 = true) (hx : 4095 < m.next) :
 Calls Try.prog 65 #[.pointer (some ⟨g, 0, none⟩)] w fun e w' => e = .returned (.tuple #[.string ⟨#[]⟩, .int .i64 0, .int .i64 22]) ∧ Below base w w' := by
 go_enter Try.func65, Try.ntmps65
 go_wp2_with fail
 refine (Ug h hm ht).mono ?_
 rintro e w1 ⟨rfl, hB1, o1, vs1, h1⟩
 clear h
 go_wp2_with fail
 refine (hN t.f1 w1 hsz).mono ?_
 rintro e w2 ⟨rfl, hB2⟩
 rw [hs]
 have h2 := h1.below hB2
 have hB := hB1.trans (Below.mono hB2 h1.st.base_le)
 clear h1 hB1 hB2
 obtain ⟨v0, A1, c1, b, A7, c7, A8, c8, A9, c9, A10, c10, A11, c11, rfl⟩ := h2.cells
 have hc3 := h2.st.cell 3 rfl
 have e1 : (4095 < m.next) = True := eq_true hx
 go_wp2_with fail
 exact bodyPost_ret (v := .tuple #[.string ⟨#[]⟩, .int .i64 0, .int .i64 22]) Z1r rfl ⟨rfl, hB⟩
theorem fresh_odd (hN : UZ named) (h : Mx w base g prims o vs m) (hm : m.inp = t :: r) (ht : t.f0 = 1) (hsz : t.f1.size ≤ maxLen) (hs : named t.f1 = false) :
 Calls Try.prog 65 #[.pointer (some ⟨g, 0, none⟩)] w fun e w' => e = .returned (.tuple #[.string ⟨#[]⟩, .int .i64 0, .int .i64 15]) ∧ Below base w w' := by
 go_enter Try.func65, Try.ntmps65
 go_wp2_with fail
 refine (Ug h hm ht).mono ?_
 rintro e w1 ⟨rfl, hB1, o1, vs1, h1⟩
 clear h
 go_wp2_with fail
 refine (hN t.f1 w1 hsz).mono ?_
 rintro e w2 ⟨rfl, hB2⟩
 rw [hs]
 have hB := hB1.trans (Below.mono hB2 h1.st.base_le)
 go_wp2_with fail
 exact bodyPost_ret (v := .tuple #[.string ⟨#[]⟩, .int .i64 0, .int .i64 15]) Z1r rfl ⟨rfl, hB⟩
theorem YcQ (h : Mx w base g prims o vs m) (hm : m.inp = [] ∨ ∃ t r, m.inp = t :: r ∧ t.f0 ≠ 1) :
 Calls Try.prog 65 #[.pointer (some ⟨g, 0, none⟩)] w fun e w' => e = .returned (.tuple #[.string ⟨#[]⟩, .int .i64 0, .int .i64 15]) ∧ Below base w w' := by
 have hw : Calls Try.prog 64 #[.pointer (some ⟨g, 0, none⟩)] w fun e w' => e = .returned (.tuple #[.string ⟨#[]⟩, .int .i64 15]) ∧ w' = w := by
  rcases hm with hm | ⟨t, r, hm, ht⟩
  ·exact Yam h hm
  ·exact Yby h hm ht
 go_enter Try.func65, Try.ntmps65
 go_wp2_with fail
 refine hw.mono ?_
 rintro e w1 ⟨rfl, rfl⟩
 go_wp2_with fail
 exact bodyPost_ret (v := .tuple #[.string ⟨#[]⟩, .int .i64 0, .int .i64 15]) Z1r rfl ⟨rfl, Below.refl _ _⟩
end
end Go.Proofs.Ytehmhgpogpbjiaa.Fcc
