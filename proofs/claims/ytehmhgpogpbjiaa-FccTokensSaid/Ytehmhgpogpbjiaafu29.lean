import Derived.Test.Ytehmhgpogpbjiaafu28
set_option linter.unusedVariables false
set_option linter.unusedSimpArgs false
set_option maxRecDepth 100000
set_option maxHeartbeats 8000000
namespace Go.Proofs.Ytehmhgpogpbjiaa.Fcc
open Go.RowKit Go.Proofs.YtehmhgpogpbjiaaW.PrintWords Go.Proofs.YtehmhgpogpbjiaaW.PrintLast Go.Proofs.YtehmhgpogpbjiaaW.PrintMore Go.Proofs.Ytehmhgpogpbjiaa.PFccTokens
def Vc (m : Mk) (s : ByteArray) : Option Res :=
 if (XJ s && !m.opn) || (Xm s && m.opn) then some (.inr 13)
 else if XJ s then some (YF PL m s)
 else if s.toList = ([39] : List UInt8) then some (XE PL m 17)
 else if Xm s then some (YV YU m s)
 else if s.toList = ([116, 111] : List UInt8) then some (XE PL m 195)
 else none
section
variable {m : Mk} {s : ByteArray}
def CaseI (m : Mk) : Prop := ∀ c ∈ m.cases, c.f0 = -1 ∨ 0 ≤ c.f0
theorem within_if (hs : s.toList = ([105, 102] : List UInt8)) : YF PL m s = tabP [20] false m := by
 have e1 : YI m s = some (.inl ({ m with origs := m.origs ++ [m.at_] }.add 20)) := by unfold YI; rw [hs]; first | (simp; done) | (simp; rfl)
 have e2 : YF PL m s = .inl ({ m with origs := m.origs ++ [m.at_] }.add 20) := by unfold YF; rw [e1, hs]; first | (simp; done) | (simp; rfl)
 rw [e2]; rfl
theorem Ycc (hs : s.toList = ([119, 104, 105, 108, 101] : List UInt8)) : YF PL m s = tabP [20] false m := by
 have e1 : YI m s = some (.inl ({ m with origs := m.origs ++ [m.at_] }.add 20)) := by unfold YI; rw [hs]; first | (simp; done) | (simp; rfl)
 have e2 : YF PL m s = .inl ({ m with origs := m.origs ++ [m.at_] }.add 20) := by unfold YF; rw [e1, hs]; first | (simp; done) | (simp; rfl)
 rw [e2]; rfl
theorem Yc2 (hs : s.toList = ([101, 108, 115, 101] : List UInt8)) : YF PL m s = tabP [19, 178] false m := by
 have e1 : YI m s = some (match popP m.origs with | none => .inr 13 | some (x, l) => resolveP ({ m with origs := l ++ [m.at_, x] }.add 19)) := by unfold YI; rw [hs]; first | (simp; done) | (simp; rfl)
 have e2 : YF PL m s = (match popP m.origs with | none => .inr 13 | some (x, l) => resolveP ({ m with origs := l ++ [m.at_, x] }.add 19)) := by unfold YF; rw [e1, hs]; first | (simp; done) | (simp; rfl)
 rw [e2]
 rcases snoc_cases m.origs with hx | ⟨xs, x, hx⟩
 ·have ed : doP m 19 m.at_ false = (match popP m.origs with | none => none | some (x, l) => some { m with origs := l ++ [m.at_, x] }) := rfl
  unfold tabP runP
  rw [ed, hx]
  rfl
 ·have ed : doP m 19 m.at_ false = (match popP m.origs with | none => none | some (x, l) => some { m with origs := l ++ [m.at_, x] }) := rfl
  unfold tabP runP
  rw [ed, hx]
  simp only [XD]
  have er : ∀ m2 : Mk, m2.origs = xs ++ [m.at_, x] → resolveP m2 = .inl ({ m2 with origs := xs ++ [m.at_], leads := m2.leads ++ ([⟨x, m2.at_⟩] : List Ld) }.add 178) := by
   intro m2 h2
   unfold resolveP
   rw [h2, show xs ++ [m.at_, x] = (xs ++ [m.at_]) ++ [x] by simp, XD]
  have ed2 : ∀ m2 : Mk, m2.origs = xs ++ [m.at_, x] → doP m2 178 m2.at_ false = some { m2 with origs := xs ++ [m.at_], leads := m2.leads ++ ([⟨x, m2.at_⟩] : List Ld) } := by
   intro m2 h2
   show (match popP m2.origs with | none => none | some (x, l) => some { m2 with origs := l, leads := m2.leads ++ ([⟨x, m2.at_⟩] : List Ld) }) = _
   rw [h2, show xs ++ [m.at_, x] = (xs ++ [m.at_]) ++ [x] by simp, XD]
  unfold runP
  rw [er _ rfl, ed2 _ rfl]
  rfl
theorem Yc0 (hs : s.toList = ([116, 104, 101, 110] : List UInt8)) : YF PL m s = tabP [178] false m := by
 have e1 : YI m s = some (resolveP m) := by unfold YI; rw [hs]; first | (simp; done) | (simp; rfl)
 have e2 : YF PL m s = (resolveP m) := by unfold YF; rw [e1, hs]; first | (simp; done) | (simp; rfl)
 rw [e2]
 rcases snoc_cases m.origs with hx | ⟨xs, x, hx⟩
 ·have ed : doP m 178 m.at_ false = (match popP m.origs with | none => none | some (x, l) => some { m with origs := l, leads := m.leads ++ ([⟨x, m.at_⟩] : List Ld) }) := rfl
  unfold tabP runP
  rw [ed, hx]
  unfold resolveP; rw [hx]
  rfl
 ·have ed : doP m 178 m.at_ false = (match popP m.origs with | none => none | some (x, l) => some { m with origs := l, leads := m.leads ++ ([⟨x, m.at_⟩] : List Ld) }) := rfl
  unfold tabP runP
  rw [ed, hx]
  unfold resolveP; rw [hx]
  simp only [XD]
  rfl
theorem Ych (hs : s.toList = ([98, 101, 103, 105, 110] : List UInt8)) : YF PL m s = tabP [177] false m := by
 have e1 : YI m s = some (.inl ({ m with dests := m.dests ++ [m.at_] }.add 177)) := by unfold YI; rw [hs]; first | (simp; done) | (simp; rfl)
 have e2 : YF PL m s = .inl ({ m with dests := m.dests ++ [m.at_] }.add 177) := by unfold YF; rw [e1, hs]; first | (simp; done) | (simp; rfl)
 rw [e2]; rfl
theorem Yci (hs : s.toList = ([97, 103, 97, 105, 110] : List UInt8)) : YF PL m s = tabP [19] true m := by
 have e1 : YI m s = some (backP m 19) := by unfold YI; rw [hs]; first | (simp; done) | (simp; rfl)
 have e2 : YF PL m s = (backP m 19) := by unfold YF; rw [e1, hs]; first | (simp; done) | (simp; rfl)
 rw [e2]
 rcases snoc_cases m.dests with hx | ⟨xs, x, hx⟩
 ·have ed : doP m 19 m.at_ true = (match popP m.dests with | none => none | some (x, l) => some { m with dests := l, leads := m.leads ++ ([⟨m.at_, x⟩] : List Ld) }) := rfl
  unfold tabP runP
  rw [ed, hx]
  unfold backP; rw [hx]
  rfl
 ·have ed : doP m 19 m.at_ true = (match popP m.dests with | none => none | some (x, l) => some { m with dests := l, leads := m.leads ++ ([⟨m.at_, x⟩] : List Ld) }) := rfl
  unfold tabP runP
  rw [ed, hx]
  unfold backP; rw [hx]
  simp only [XD]
  rfl
theorem Ycd (hs : s.toList = ([117, 110, 116, 105, 108] : List UInt8)) : YF PL m s = tabP [20] true m := by
 have e1 : YI m s = some (backP m 20) := by unfold YI; rw [hs]; first | (simp; done) | (simp; rfl)
 have e2 : YF PL m s = (backP m 20) := by unfold YF; rw [e1, hs]; first | (simp; done) | (simp; rfl)
 rw [e2]
 rcases snoc_cases m.dests with hx | ⟨xs, x, hx⟩
 ·have ed : doP m 20 m.at_ true = (match popP m.dests with | none => none | some (x, l) => some { m with dests := l, leads := m.leads ++ ([⟨m.at_, x⟩] : List Ld) }) := rfl
  unfold tabP runP
  rw [ed, hx]
  unfold backP; rw [hx]
  rfl
 ·have ed : doP m 20 m.at_ true = (match popP m.dests with | none => none | some (x, l) => some { m with dests := l, leads := m.leads ++ ([⟨m.at_, x⟩] : List Ld) }) := rfl
  unfold tabP runP
  rw [ed, hx]
  unfold backP; rw [hx]
  simp only [XD]
  rfl
theorem Ybz (hs : s.toList = ([114, 101, 112, 101, 97, 116] : List UInt8)) : YF PL m s = tabP [19, 178] true m := by
 have e1 : YI m s = some (match backP m 19 with | .inr e => .inr e | .inl m1 => resolveP m1) := by unfold YI; rw [hs]; first | (simp; done) | (simp; rfl)
 have e2 : YF PL m s = (match backP m 19 with | .inr e => .inr e | .inl m1 => resolveP m1) := by unfold YF; rw [e1, hs]; first | (simp; done) | (simp; rfl)
 rw [e2]
 rcases snoc_cases m.dests with hx | ⟨xs, x, hx⟩
 ·have ed : doP m 19 m.at_ true = (match popP m.dests with | none => none | some (x, l) => some { m with dests := l, leads := m.leads ++ ([⟨m.at_, x⟩] : List Ld) }) := rfl
  unfold tabP runP
  rw [ed, hx]
  unfold backP; rw [hx]
  rfl
 ·have ed : doP m 19 m.at_ true = (match popP m.dests with | none => none | some (x, l) => some { m with dests := l, leads := m.leads ++ ([⟨m.at_, x⟩] : List Ld) }) := rfl
  unfold tabP runP
  rw [ed, hx]
  unfold backP
  rw [hx]
  simp only [XD]
  have key : ∀ m2 : Mk, resolveP m2 = (match (runP [178] true m2) with | none => .inr 13 | some m' => .inl m' : Res) := by
   intro m2
   have ed2 : doP m2 178 m2.at_ true = (match popP m2.origs with | none => none | some (x, l) => some { m2 with origs := l, leads := m2.leads ++ ([⟨x, m2.at_⟩] : List Ld) }) := rfl
   unfold runP
   rw [ed2]
   unfold resolveP
   cases popP m2.origs with
   | none => rfl
   | some p => rfl
  exact key _
theorem within_do (hs : s.toList = ([100, 111] : List UInt8)) : YF PL m s = tabP [23] false m := by
 have e0 : YI m s = none := by unfold YI; rw [hs]; first | (simp; done) | (simp; rfl)
 have e1 : Vg m s = some (.inl ({ m with loops := m.loops ++ [m.at_] }.add 23)) := by unfold Vg; rw [hs]; first | (simp; done) | (simp; rfl)
 have e2 : YF PL m s = .inl ({ m with loops := m.loops ++ [m.at_] }.add 23) := by unfold YF; rw [e0, e1, hs]; first | (simp; done) | (simp; rfl)
 rw [e2]; rfl
theorem Yej (hs : s.toList = ([63, 100, 111] : List UInt8)) : YF PL m s = tabP [24] false m := by
 have e0 : YI m s = none := by unfold YI; rw [hs]; first | (simp; done) | (simp; rfl)
 have e1 : Vg m s = some (.inl ({ m with loops := m.loops ++ [m.at_] }.add 24)) := by unfold Vg; rw [hs]; first | (simp; done) | (simp; rfl)
 have e2 : YF PL m s = .inl ({ m with loops := m.loops ++ [m.at_] }.add 24) := by unfold YF; rw [e0, e1, hs]; first | (simp; done) | (simp; rfl)
 rw [e2]; rfl
theorem Yc1 (hs : s.toList = ([108, 111, 111, 112] : List UInt8)) : YF PL m s = tabP [21] false m := by
 have e0 : YI m s = none := by unfold YI; rw [hs]; first | (simp; done) | (simp; rfl)
 have e1 : Vg m s = some (match popP m.loops with | none => .inr 13 | some (x, l) => .inl ({ m with loops := l, leads := m.leads ++ ([⟨m.at_, x⟩, ⟨x, m.at_⟩] : List Ld) }.add 21)) := by unfold Vg; rw [hs]; first | (simp; done) | (simp; rfl)
 have e2 : YF PL m s = (match popP m.loops with | none => .inr 13 | some (x, l) => .inl ({ m with loops := l, leads := m.leads ++ ([⟨m.at_, x⟩, ⟨x, m.at_⟩] : List Ld) }.add 21)) := by unfold YF; rw [e0, e1, hs]; first | (simp; done) | (simp; rfl)
 rw [e2]
 have ed : doP m 21 m.at_ false = (match popP m.loops with | none => none | some (x, l) => some { m with loops := l, leads := m.leads ++ ([⟨m.at_, x⟩, ⟨x, m.at_⟩] : List Ld) }) := rfl
 unfold tabP runP
 rw [ed]
 cases popP m.loops with
 | none => rfl
 | some p => rfl
theorem Yce (hs : s.toList = ([43, 108, 111, 111, 112] : List UInt8)) : YF PL m s = tabP [22] false m := by
 have e0 : YI m s = none := by unfold YI; rw [hs]; first | (simp; done) | (simp; rfl)
 have e1 : Vg m s = some (match popP m.loops with | none => .inr 13 | some (x, l) => .inl ({ m with loops := l, leads := m.leads ++ ([⟨m.at_, x⟩, ⟨x, m.at_⟩] : List Ld) }.add 22)) := by unfold Vg; rw [hs]; first | (simp; done) | (simp; rfl)
 have e2 : YF PL m s = (match popP m.loops with | none => .inr 13 | some (x, l) => .inl ({ m with loops := l, leads := m.leads ++ ([⟨m.at_, x⟩, ⟨x, m.at_⟩] : List Ld) }.add 22)) := by unfold YF; rw [e0, e1, hs]; first | (simp; done) | (simp; rfl)
 rw [e2]
 have ed : doP m 22 m.at_ false = (match popP m.loops with | none => none | some (x, l) => some { m with loops := l, leads := m.leads ++ ([⟨m.at_, x⟩, ⟨x, m.at_⟩] : List Ld) }) := rfl
 unfold tabP runP
 rw [ed]
 cases popP m.loops with
 | none => rfl
 | some p => rfl
theorem Ycf (hs : s.toList = ([108, 101, 97, 118, 101] : List UInt8)) : YF PL m s = tabP [27] false m := by
 have e0 : YI m s = none := by unfold YI; rw [hs]; first | (simp; done) | (simp; rfl)
 have e1 : Vg m s = some (if m.loops = [] then .inr 13 else .inl (m.add 27)) := by unfold Vg; rw [hs]; first | (simp; done) | (simp; rfl)
 have e2 : YF PL m s = (if m.loops = [] then .inr 13 else .inl (m.add 27)) := by unfold YF; rw [e0, e1, hs]; first | (simp; done) | (simp; rfl)
 rw [e2]
 have ed : doP m 27 m.at_ false = (if m.loops = [] then none else some m) := rfl
 unfold tabP runP
 rw [ed]
 by_cases h : m.loops = []
 ·rw [if_pos h, if_pos h]
 ·rw [if_neg h, if_neg h]; rfl
theorem Yc3 (hs : s.toList = ([99, 97, 115, 101] : List UInt8)) : YF PL m s = tabP [196] false m := by
 have e0 : YI m s = none := by unfold YI; rw [hs]; first | (simp; done) | (simp; rfl)
 have e1 : Vg m s = none := by unfold Vg; rw [hs]; first | (simp; done) | (simp; rfl)
 have e3 : Xg m s = .inl ({ m with cases := m.cases ++ ([⟨-1, []⟩] : List Ch) }.add 196) := by unfold Xg; rw [hs]; simp
 have e2 : YF PL m s = .inl ({ m with cases := m.cases ++ ([⟨-1, []⟩] : List Ch) }.add 196) := by unfold YF; rw [e0, e1, e3, hs]; simp
 rw [e2]; rfl
theorem within_of (hs : s.toList = ([111, 102] : List UInt8)) (hC : CaseI m) : YF PL m s = tabP [28] false m := by
 have e0 : YI m s = none := by unfold YI; rw [hs]; first | (simp; done) | (simp; rfl)
 have e1 : Vg m s = none := by unfold Vg; rw [hs]; first | (simp; done) | (simp; rfl)
 have e2 : YF PL m s = Xg m s := by unfold YF; rw [e0, e1, hs]; first | (simp; done) | (simp; rfl)
 rw [e2]
 rcases ch_cases m.cases with hx | ⟨xs, x, hx⟩
 ·have e3 : Xg m s = .inr 13 := by unfold Xg; rw [hs, hx]; simp
  have ed : doP m 28 m.at_ false = none := by unfold doP; simp [hx]
  rw [e3]; unfold tabP runP; rw [ed]
 ·have hc := hC x (by rw [hx]; simp)
  by_cases hf : x.f0 = -1
  ·have hn : x.f0 < 0 := by omega
   have e3 : Xg m s = .inl ({ m with cases := xs ++ ([⟨m.at_, x.f1⟩] : List Ch) }.add 28) := by unfold Xg; rw [hs, hx]; simp [hn]
   have ed : doP m 28 m.at_ false = some { m with cases := xs ++ ([⟨m.at_, x.f1⟩] : List Ch) } := by unfold doP; simp [hx, hf]
   rw [e3]; unfold tabP runP; rw [ed]; rfl
  ·have hn : ¬ x.f0 < 0 := by omega
   have e3 : Xg m s = .inr 13 := by unfold Xg; rw [hs, hx]; simp [hn]
   have ed : doP m 28 m.at_ false = none := by unfold doP; simp [hx, hf]
   rw [e3]; unfold tabP runP; rw [ed]
theorem Ycg (hs : s.toList = ([101, 110, 100, 111, 102] : List UInt8)) (hC : CaseI m) : YF PL m s = tabP [198] false m := by
 have e0 : YI m s = none := by unfold YI; rw [hs]; first | (simp; done) | (simp; rfl)
 have e1 : Vg m s = none := by unfold Vg; rw [hs]; first | (simp; done) | (simp; rfl)
 have e2 : YF PL m s = Xg m s := by unfold YF; rw [e0, e1, hs]; first | (simp; done) | (simp; rfl)
 rw [e2]
 rcases ch_cases m.cases with hx | ⟨xs, x, hx⟩
 ·have e3 : Xg m s = .inr 13 := by unfold Xg; rw [hs, hx]; simp
  have ed : doP m 198 m.at_ false = none := by unfold doP; simp [hx]
  rw [e3]; unfold tabP runP; rw [ed]
 ·have hc := hC x (by rw [hx]; simp)
  by_cases hf : x.f0 = -1
  ·have hn : x.f0 < 0 := by omega
   have e3 : Xg m s = .inr 13 := by unfold Xg; rw [hs, hx]; simp [hn]
   have ed : doP m 198 m.at_ false = none := by unfold doP; simp [hx, hf]
   rw [e3]; unfold tabP runP; rw [ed]
  ·have hn : ¬ x.f0 < 0 := by omega
   have e3 : Xg m s = .inl ({ m with cases := xs ++ ([⟨-1, x.f1 ++ [m.at_]⟩] : List Ch), leads := m.leads ++ ([⟨x.f0, m.at_⟩] : List Ld) }.add 198) := by unfold Xg; rw [hs, hx]; simp [hn]
   have ed : doP m 198 m.at_ false = some { m with cases := xs ++ ([⟨-1, x.f1 ++ [m.at_]⟩] : List Ch), leads := m.leads ++ ([⟨x.f0, m.at_⟩] : List Ld) } := by unfold doP; simp [hx, hf]
   rw [e3]; unfold tabP runP; rw [ed]; rfl
theorem Ya5 (hs : s.toList = ([101, 110, 100, 99, 97, 115, 101] : List UInt8)) (hC : CaseI m) : YF PL m s = tabP [197] false m := by
 have e0 : YI m s = none := by unfold YI; rw [hs]; first | (simp; done) | (simp; rfl)
 have e1 : Vg m s = none := by unfold Vg; rw [hs]; first | (simp; done) | (simp; rfl)
 have e2 : YF PL m s = Xg m s := by unfold YF; rw [e0, e1, hs]; first | (simp; done) | (simp; rfl)
 rw [e2]
 rcases ch_cases m.cases with hx | ⟨xs, x, hx⟩
 ·have e3 : Xg m s = .inr 13 := by unfold Xg; rw [hs, hx]; simp
  have ed : doP m 197 m.at_ false = none := by unfold doP; simp [hx]
  rw [e3]; unfold tabP runP; rw [ed]
 ·have hc := hC x (by rw [hx]; simp)
  by_cases hf : x.f0 = -1
  ·have hn : x.f0 < 0 := by omega
   have e3 : Xg m s = .inl ({ m with cases := xs, leads := m.leads ++ x.f1.map (fun x => (⟨x, m.at_⟩ : Ld)) }.add 197) := by unfold Xg; rw [hs, hx]; simp [hn]
   have ed : doP m 197 m.at_ false = some { m with cases := xs, leads := m.leads ++ x.f1.map (fun x => (⟨x, m.at_⟩ : Ld)) } := by unfold doP; simp [hx, hf]
   rw [e3]; unfold tabP runP; rw [ed]; rfl
  ·have hn : ¬ x.f0 < 0 := by omega
   have e3 : Xg m s = .inr 13 := by unfold Xg; rw [hs, hx]; simp [hn]
   have ed : doP m 197 m.at_ false = none := by unfold doP; simp [hx, hf]
   rw [e3]; unfold tabP runP; rw [ed]
theorem Yat {a : ByteArray} {l : List UInt8} (h : a.toList = l) : a = ⟨l.toArray⟩ := by
 rw [Go.Lib.toList_data] at h
 exact ByteArray.ext (by rw [← h])
theorem Yag {l k : List UInt8} (h : s.toList = l) (hn : l ≠ k) : (s.toList == k) = false := by
 rw [h]
 exact beq_eq_false_iff_ne.2 hn
theorem tab_word {l : List UInt8} (hs : s.toList = l) (h58 : l ≠ [58]) (h39 : l ≠ [39]) (h59 : l ≠ [59]) (hex : l ≠ [101, 120, 105, 116]) (hbr : l ≠ [91, 39, 93]) (hto : l ≠ [116, 111]) (hm : YJ s = 0) : TabW s :=
 ⟨Yag hs h58, Yag hs h39, Yag hs h59, Yag hs hex, Yag hs hbr, Yag hs hto, hm⟩
end
section
variable {w : World} {base gk gf : Nat} {L : List S59 × Option (Nat × Array Value × Nat)} {o : Nat → Nat} {vk vf : List Value} {m : Mk} {s : ByteArray} {W0 L0 : Nat}
theorem Yb8 (h : Inv PL W0 L0 m) : CaseI m := fun c hc => (h.cases c hc).1.imp id (fun h => h.1)
abbrev SpW (w : World) (base gk gf : Nat) (L : List S59 × Option (Nat × Array Value × Nat)) (m : Mk) (s : ByteArray) : Prop :=
 Calls Try.prog 46 #[.pointer (some ⟨gk, 0, none⟩), .pointer (some ⟨gf, 0, none⟩), .string s] w (Vk base gk gf (bare L) m (some (if m.opn then YF PL m s else .inr 13)) w)
theorem qSpW {p : Prop} (h : p := by
 have hT := tab_word hs Z1 Z1 Z1 Z1 Z1 Z1 (by unfold YJ; rw [hs]; simp)
 obtain ⟨a, acts, ha⟩ : ∃ a acts, Xc.f s = some (a :: acts) := by unfold Xc.f; rw [hs]; simp
 unfold SpW
 cases ho : m.opn with
 | false => exact YbA h ho hT ha
 | true =>
   rw [if_pos rfl, hw]
   exact YbB h (Nat.le_trans hI.wt Z0) ho hT ha (by rw [hs]; simp [laidT]) Z1 Z1 (by first | exact .inl ⟨(by rw [hs]; rfl), rfl⟩ | exact .inr (.inl ⟨Yag hs Z1, (by rw [hs]; rfl), rfl⟩) | exact .inr (.inr (.inl ⟨Yag hs Z1, Yag hs Z1, (by rw [hs]; rfl), rfl⟩)) | exact .inr (.inr (.inr ⟨Yag hs Z1, Yag hs Z1, Yag hs Z1, rfl⟩)))) : p := h
theorem sp_w_if (h : Rx w base gk gf (bare L) o vk vf m) (hI : Inv PL W0 L0 m) (hW : W0 ≤ 800000000) (hs : s.toList = ([105, 102] : List UInt8)) : SpW w base gk gf L m s := by
 have hw := within_if (m := m) hs
 exact qSpW
theorem Yen (h : Rx w base gk gf (bare L) o vk vf m) (hI : Inv PL W0 L0 m) (hW : W0 ≤ 800000000) (hs : s.toList = ([119, 104, 105, 108, 101] : List UInt8)) : SpW w base gk gf L m s := by
 have hw := Ycc (m := m) hs
 exact qSpW
theorem sp_w_else (h : Rx w base gk gf (bare L) o vk vf m) (hI : Inv PL W0 L0 m) (hW : W0 ≤ 800000000) (hs : s.toList = ([101, 108, 115, 101] : List UInt8)) : SpW w base gk gf L m s := by
 have hw := Yc2 (m := m) hs
 exact qSpW
theorem sp_w_then (h : Rx w base gk gf (bare L) o vk vf m) (hI : Inv PL W0 L0 m) (hW : W0 ≤ 800000000) (hs : s.toList = ([116, 104, 101, 110] : List UInt8)) : SpW w base gk gf L m s := by
 have hw := Yc0 (m := m) hs
 exact qSpW
theorem Yes (h : Rx w base gk gf (bare L) o vk vf m) (hI : Inv PL W0 L0 m) (hW : W0 ≤ 800000000) (hs : s.toList = ([98, 101, 103, 105, 110] : List UInt8)) : SpW w base gk gf L m s := by
 have hw := Ych (m := m) hs
 exact qSpW
theorem Yet (h : Rx w base gk gf (bare L) o vk vf m) (hI : Inv PL W0 L0 m) (hW : W0 ≤ 800000000) (hs : s.toList = ([97, 103, 97, 105, 110] : List UInt8)) : SpW w base gk gf L m s := by
 have hw := Yci (m := m) hs
 exact qSpW
theorem Yeo (h : Rx w base gk gf (bare L) o vk vf m) (hI : Inv PL W0 L0 m) (hW : W0 ≤ 800000000) (hs : s.toList = ([117, 110, 116, 105, 108] : List UInt8)) : SpW w base gk gf L m s := by
 have hw := Ycd (m := m) hs
 exact qSpW
theorem Yc9 (h : Rx w base gk gf (bare L) o vk vf m) (hI : Inv PL W0 L0 m) (hW : W0 ≤ 800000000) (hs : s.toList = ([114, 101, 112, 101, 97, 116] : List UInt8)) : SpW w base gk gf L m s := by
 have hw := Ybz (m := m) hs
 exact qSpW
theorem sp_w_do (h : Rx w base gk gf (bare L) o vk vf m) (hI : Inv PL W0 L0 m) (hW : W0 ≤ 800000000) (hs : s.toList = ([100, 111] : List UInt8)) : SpW w base gk gf L m s := by
 have hw := within_do (m := m) hs
 exact qSpW
theorem sp_w_qdo (h : Rx w base gk gf (bare L) o vk vf m) (hI : Inv PL W0 L0 m) (hW : W0 ≤ 800000000) (hs : s.toList = ([63, 100, 111] : List UInt8)) : SpW w base gk gf L m s := by
 have hw := Yej (m := m) hs
 exact qSpW
theorem sp_w_loop (h : Rx w base gk gf (bare L) o vk vf m) (hI : Inv PL W0 L0 m) (hW : W0 ≤ 800000000) (hs : s.toList = ([108, 111, 111, 112] : List UInt8)) : SpW w base gk gf L m s := by
 have hw := Yc1 (m := m) hs
 exact qSpW
theorem Yep (h : Rx w base gk gf (bare L) o vk vf m) (hI : Inv PL W0 L0 m) (hW : W0 ≤ 800000000) (hs : s.toList = ([43, 108, 111, 111, 112] : List UInt8)) : SpW w base gk gf L m s := by
 have hw := Yce (m := m) hs
 exact qSpW
theorem Yeq (h : Rx w base gk gf (bare L) o vk vf m) (hI : Inv PL W0 L0 m) (hW : W0 ≤ 800000000) (hs : s.toList = ([108, 101, 97, 118, 101] : List UInt8)) : SpW w base gk gf L m s := by
 have hw := Ycf (m := m) hs
 exact qSpW
theorem sp_w_case (h : Rx w base gk gf (bare L) o vk vf m) (hI : Inv PL W0 L0 m) (hW : W0 ≤ 800000000) (hs : s.toList = ([99, 97, 115, 101] : List UInt8)) : SpW w base gk gf L m s := by
 have hw := Yc3 (m := m) hs
 exact qSpW
theorem sp_w_of (h : Rx w base gk gf (bare L) o vk vf m) (hI : Inv PL W0 L0 m) (hW : W0 ≤ 800000000) (hs : s.toList = ([111, 102] : List UInt8)) : SpW w base gk gf L m s := by
 have hw := within_of (m := m) hs (Yb8 hI)
 exact qSpW
theorem Yer (h : Rx w base gk gf (bare L) o vk vf m) (hI : Inv PL W0 L0 m) (hW : W0 ≤ 800000000) (hs : s.toList = ([101, 110, 100, 111, 102] : List UInt8)) : SpW w base gk gf L m s := by
 have hw := Ycg (m := m) hs (Yb8 hI)
 exact qSpW
theorem Ycn (h : Rx w base gk gf (bare L) o vk vf m) (hI : Inv PL W0 L0 m) (hW : W0 ≤ 800000000) (hs : s.toList = ([101, 110, 100, 99, 97, 115, 101] : List UInt8)) : SpW w base gk gf L m s := by
 have hw := Ya5 (m := m) hs (Yb8 hI)
 exact qSpW
end
section
variable {w : World} {base gk gf : Nat} {L : List S59 × Option (Nat × Array Value × Nat)} {o : Nat → Nat} {vk vf : List Value} {m : Mk} {s : ByteArray} {W0 L0 : Nat}
theorem spec_tab (hT : YS s = true) : Vc m s = some (if m.opn then YF PL m s else .inr 13) := by
 obtain ⟨h1, h2, -⟩ := Yar hT
 have hi : XJ s = true := by unfold XJ; rw [hT]; simp
 have ho : Xm s = false := by unfold Xm; rw [h1]; simp [h2]
 unfold Vc
 rw [hi, ho]
 cases m.opn <;> rfl
theorem Yc8 (h : Rx w base gk gf (bare L) o vk vf m) (hI : Inv PL W0 L0 m) (hW : W0 ≤ 800000000) (hL : L0 ≤ 1000000000) (s : ByteArray) :
 Calls Try.prog 46 #[.pointer (some ⟨gk, 0, none⟩), .pointer (some ⟨gf, 0, none⟩), .string s] w (Vk base gk gf (bare L) m (Vc m s) w) := by
 have hwt := Xf hI.wt
 cases hT : YS s with
 | true =>
   rw [spec_tab hT]
   have h2 := of_decide_eq_true hT
   simp only [List.mem_cons, List.not_mem_nil, or_false] at h2
   rcases h2 with hs | hs | hs | hs | hs | hs | hs | hs | hs | hs | hs | hs | hs | hs | hs | hs | hs
   ·exact sp_w_if h hI hW hs
   ·exact Yen h hI hW hs
   ·exact sp_w_else h hI hW hs
   ·exact sp_w_then h hI hW hs
   ·exact Yes h hI hW hs
   ·exact Yet h hI hW hs
   ·exact Yeo h hI hW hs
   ·exact Yc9 h hI hW hs
   ·exact sp_w_do h hI hW hs
   ·exact sp_w_qdo h hI hW hs
   ·exact sp_w_loop h hI hW hs
   ·exact Yep h hI hW hs
   ·exact Yeq h hI hW hs
   ·exact sp_w_case h hI hW hs
   ·exact sp_w_of h hI hW hs
   ·exact Yer h hI hW hs
   ·exact Ycn h hI hW hs
 | false =>
   by_cases h59 : s.toList = ([59] : List UInt8)
   ·obtain rfl := Yat h59
    have e1 : XJ ⟨#[59]⟩ = true := by kernel_rfl
    have e2 : Xm ⟨#[59]⟩ = false := by kernel_rfl
    cases ho : m.opn with
    | false =>
      have hs : Vc m ⟨#[59]⟩ = some (.inr 13) := by unfold Vc; rw [e1, e2, ho]; rfl
      show Calls Try.prog 46 _ w (Vk base gk gf (bare L) m (Vc m ⟨#[59]⟩) w)
      rw [hs]; exact Ycp h ho
    | true =>
      have hs : Vc m ⟨#[59]⟩ = some (YF PL m ⟨#[59]⟩) := by unfold Vc; rw [e1, e2, ho]; rfl
      show Calls Try.prog 46 _ w (Vk base gk gf (bare L) m (Vc m ⟨#[59]⟩) w)
      rw [hs]; exact Ycq h ho hI hW hL
   by_cases hex : s.toList = ([101, 120, 105, 116] : List UInt8)
   ·obtain rfl := Yat hex
    have e1 : XJ ⟨#[101, 120, 105, 116]⟩ = true := by kernel_rfl
    have e2 : Xm ⟨#[101, 120, 105, 116]⟩ = false := by kernel_rfl
    show Calls Try.prog 46 _ w (Vk base gk gf (bare L) m (Vc m ⟨#[101, 120, 105, 116]⟩) w)
    cases ho : m.opn with
    | false =>
      have hs : Vc m ⟨#[101, 120, 105, 116]⟩ = some (.inr 13) := by unfold Vc; rw [e1, e2, ho]; rfl
      rw [hs]; exact Ycr h ho
    | true =>
      have hw : YF PL m ⟨#[101, 120, 105, 116]⟩ = .inl (m.add 51) := by unfold YF; rw [if_neg h59, if_pos hex]
      have hs : Vc m ⟨#[101, 120, 105, 116]⟩ = some (.inl (m.add 51)) := by unfold Vc; rw [e1, e2, ho, hw]; rfl
      rw [hs]; exact Ycs h ho Z0
   by_cases hbr : s.toList = ([91, 39, 93] : List UInt8)
   ·obtain rfl := Yat hbr
    have e1 : XJ ⟨#[91, 39, 93]⟩ = true := by kernel_rfl
    have e2 : Xm ⟨#[91, 39, 93]⟩ = false := by kernel_rfl
    show Calls Try.prog 46 _ w (Vk base gk gf (bare L) m (Vc m ⟨#[91, 39, 93]⟩) w)
    cases ho : m.opn with
    | false =>
      have hs : Vc m ⟨#[91, 39, 93]⟩ = some (.inr 13) := by unfold Vc; rw [e1, e2, ho]; rfl
      rw [hs]; exact YbD h ho
    | true =>
      have hw : YF PL m ⟨#[91, 39, 93]⟩ = XE PL m 17 := by unfold YF; rw [if_neg h59, if_neg hex, if_pos hbr]
      have hs : Vc m ⟨#[91, 39, 93]⟩ = some (XE PL m 17) := by unfold Vc; rw [e1, e2, ho, hw]; rfl
      rw [hs]; exact sp_btick h ho hI hW hL
   by_cases h58 : s.toList = ([58] : List UInt8)
   ·obtain rfl := Yat h58
    have e1 : XJ ⟨#[58]⟩ = false := by kernel_rfl
    have e2 : Xm ⟨#[58]⟩ = true := by kernel_rfl
    show Calls Try.prog 46 _ w (Vk base gk gf (bare L) m (Vc m ⟨#[58]⟩) w)
    cases ho : m.opn with
    | true =>
      have hs : Vc m ⟨#[58]⟩ = some (.inr 13) := by unfold Vc; rw [e1, e2, ho]; rfl
      rw [hs]; exact YbC h ho
    | false =>
      have hs : Vc m ⟨#[58]⟩ = some (YV YU m ⟨#[58]⟩) := by unfold Vc; rw [e1, e2, ho, if_neg Z1, if_neg Z1, if_neg ZD, if_pos rfl]
      rw [hs]; exact sp_colon h ho hI hW hL
   by_cases h39 : s.toList = ([39] : List UInt8)
   ·obtain rfl := Yat h39
    have e1 : XJ ⟨#[39]⟩ = false := by kernel_rfl
    have e2 : Xm ⟨#[39]⟩ = true := by kernel_rfl
    show Calls Try.prog 46 _ w (Vk base gk gf (bare L) m (Vc m ⟨#[39]⟩) w)
    cases ho : m.opn with
    | true =>
      have hs : Vc m ⟨#[39]⟩ = some (.inr 13) := by unfold Vc; rw [e1, e2, ho]; rfl
      rw [hs]; exact Yco h ho
    | false =>
      have hs : Vc m ⟨#[39]⟩ = some (XE PL m 17) := by unfold Vc; rw [e1, e2, ho, if_neg Z1, if_neg Z1, if_pos h39]
      rw [hs]; exact sp_tick h ho hI hW hL
   by_cases hto : s.toList = ([116, 111] : List UInt8)
   ·obtain rfl := Yat hto
    have e1 : XJ ⟨#[116, 111]⟩ = false := by kernel_rfl
    have e2 : Xm ⟨#[116, 111]⟩ = false := by kernel_rfl
    show Calls Try.prog 46 _ w (Vk base gk gf (bare L) m (Vc m ⟨#[116, 111]⟩) w)
    have hs : Vc m ⟨#[116, 111]⟩ = some (XE PL m 195) := by unfold Vc; rw [e1, e2, if_neg Z6, if_neg Z1, if_neg h39, if_neg Z1, if_pos hto]
    rw [hs]; exact sp_to h hI hW hL
   have hO : OutW s := ⟨beq_eq_false_iff_ne.2 h58, beq_eq_false_iff_ne.2 h39, beq_eq_false_iff_ne.2 h59, beq_eq_false_iff_ne.2 hex, beq_eq_false_iff_ne.2 hbr, beq_eq_false_iff_ne.2 hto, hT⟩
   have e1 : XJ s = false := by unfold XJ; rw [hT]; simp [h59, hex, hbr]
   by_cases hm : YJ s = 0
   ·have e2 : Xm s = false := by unfold Xm; rw [hm]; simp [h39]
    have hs : Vc m s = none := by unfold Vc; rw [e1, e2, if_neg Z6, if_neg Z1, if_neg h39, if_neg Z1, if_neg hto]
    rw [hs]; exact sp_none h hO hm
   ·have e2 : Xm s = true := by unfold Xm; simp [hm]
    cases ho : m.opn with
    | true =>
      have hs : Vc m s = some (.inr 13) := by unfold Vc; rw [e1, e2, ho]; rfl
      rw [hs]; exact Yex h ho hO hm
    | false =>
      have hs : Vc m s = some (YV YU m s) := by unfold Vc; rw [e1, e2, ho, if_neg Z1, if_neg Z1, if_neg h39, if_pos rfl]
      rw [hs]
      by_cases hin : s.toList = ([105, 110, 115, 116, 97, 110, 99, 101] : List UInt8)
      ·obtain rfl := Yat hin
       exact sp_inst h ho hI hW hL
      ·exact sp_by h ho hO hm (beq_eq_false_iff_ne.2 hin) hI hW hL
theorem one_spec : oneP YU PL litP m s = (match Vc m s with | some r => r | none => match Vz PL m s with | some c => .inl (m.add c) | none => match litP s with | none => .inr 14 | some v => .inl (m.add 16 v)) := by
 unfold oneP Vc
 split
 ·rfl
 split
 ·rfl
 split
 ·rfl
 split
 ·rfl
 split
 ·rfl
 ·rfl
end
section
variable {w : World} {base gk gf : Nat} {l : List S59} {o : Nat → Nat} {vk vf : List Value} {m : Mk} {W0 L0 : Nat}
abbrev boxT (l : List S59) (w : World) (x : S59) : List S59 × Option (Nat × Array Value × Nat) := (l, some (w.heap.size, #[.int .i64 x.f0, .string x.f1, .int .i64 x.f2], 59))
theorem Ydf (h : Rx w base gk gf (bare (l, none)) o vk vf m) (hI : Inv PL W0 L0 m) (hW : W0 ≤ 800000000) (x : S59) (hx : x.f0 ≠ 1) :
 Calls Try.prog 22 #[.pointer (some ⟨gk, 0, none⟩), .pointer (some ⟨gf, 0, none⟩), .agg #[.int .i64 x.f0, .string x.f1, .int .i64 x.f2]] w (RPost base gk gf (bare (l, none)) (tokP YU PL litP m x) w) := by
 have hwt := Xf hI.wt
 have hBn := Yl (Below.refl w.heap.size w) (.cells #[.int .i64 x.f0, .string x.f1, .int .i64 x.f2] 59)
 have h1 : Rx (w.alloc (.cells #[.int .i64 x.f0, .string x.f1, .int .i64 x.f2] 59)) base gk gf (bare (boxT l w x)) (new_ w o 10) vk vf m := h.boxed #[.int .i64 x.f0, .string x.f1, .int .i64 x.f2] 59
 replace h1 := Aside0.mk h1
 have hB1 := Aside0.mk (Below.mono hBn h.k.base_le)
 have b1 : (x.f0 == 1) = false := beq_eq_false_iff_ne.2 hx
 have b2 : (x.f0 != 1) = true := bne_iff_ne.2 hx
 have ho : m.out.length < 1099511627000 := by omega
 by_cases h3 : x.f0 = 3
 ·have hr : tokP YU PL litP m x = .inl ((m.add 18 0 x.f1).add 144) := by unfold tokP; rw [if_neg hx, if_pos h3]
  rw [hr]
  have c1 : (x.f0 == 3) = true := beq_iff_eq.2 h3
  have ho2 := Aside0.mk (show (m.add 18 0 x.f1).out.length < 1099511627776 by rw [show (m.add 18 0 x.f1).out.length = m.out.length + 1 by simp [Mk.add]]; omega)
  clear hr h hI hx h3 hwt hBn
  go_enter Try.func22, Try.ntmps22
  go_wp2_with fail
  refine (Xl h1.out 18 0 x.f1 Z0).mono ?_
  rintro e w2 ⟨rfl, hB2, o2, vk2, vf2, h2⟩
  have hbx := h2.box
  have q0 := (Yc hbx 0).trans rfl
  have hB3 := Aside0.mk (hB1.out.trans hB2)
  replace h2 := Aside0.mk h2
  clear hB2 hbx
  go_wp2_with fail
  refine (Xl h2.out 144 0 ⟨#[]⟩ ho2.out).mono ?_
  rintro e w3 ⟨rfl, hB4, o3, vk3, vf3, h3⟩
  have hB5 := Aside0.mk (hB3.out.trans hB4)
  have h4 := Aside0.mk h3.unboxed
  clear h3 hB4
  go_wp2_with fail
  exact bodyPost_ret (v := .int .i64 0) ZU rfl ⟨hB5.out, rfl, _, _, _, h4.out⟩
 ·have hr : tokP YU PL litP m x = .inl (m.add 18 0 x.f1) := by unfold tokP; rw [if_neg hx, if_neg h3]
  rw [hr]
  have c1 : (x.f0 == 3) = false := beq_eq_false_iff_ne.2 h3
  clear hr h hI hx h3 hwt hBn
  go_enter Try.func22, Try.ntmps22
  go_wp2_with fail
  refine (Xl h1.out 18 0 x.f1 Z0).mono ?_
  rintro e w2 ⟨rfl, hB2, o2, vk2, vf2, h2⟩
  have hbx := h2.box
  have q0 := (Yc hbx 0).trans rfl
  have hB3 := Aside0.mk (hB1.out.trans hB2)
  have h4 := Aside0.mk h2.unboxed
  clear hB2 hbx h2
  go_wp2_with fail
  exact bodyPost_ret (v := .int .i64 0) ZU rfl ⟨hB3.out, rfl, _, _, _, h4.out⟩
theorem Yde (h : Rx w base gk gf (bare (l, none)) o vk vf m) (hI : Inv PL W0 L0 m) (hW : W0 ≤ 800000000) (hL : L0 ≤ 1000000000) (x : S59) (hx : x.f0 = 1) (hsz : x.f1.size ≤ maxLen) :
 Calls Try.prog 22 #[.pointer (some ⟨gk, 0, none⟩), .pointer (some ⟨gf, 0, none⟩), .agg #[.int .i64 x.f0, .string x.f1, .int .i64 x.f2]] w (RPost base gk gf (bare (l, none)) (tokP YU PL litP m x) w) := by
 have hwt := Xf hI.wt
 have hnl := hI.nl
 have hBn := Yl (Below.refl w.heap.size w) (.cells #[.int .i64 x.f0, .string x.f1, .int .i64 x.f2] 59)
 have h1 : Rx (w.alloc (.cells #[.int .i64 x.f0, .string x.f1, .int .i64 x.f2] 59)) base gk gf (bare (boxT l w x)) (new_ w o 10) vk vf m := h.boxed #[.int .i64 x.f0, .string x.f1, .int .i64 x.f2] 59
 have hS := Aside0.mk (Yc8 h1 hI hW hL x.f1)
 have hB1 := Aside0.mk (Below.mono hBn h.k.base_le)
 have b1 : (x.f0 == 1) = true := beq_iff_eq.2 hx
 have b2 : (x.f0 != 1) = false := by simp [hx]
 have ho : m.out.length < 1099511627000 := by omega
 have hno : m.names.length < 1099511627000 := by omega
 have hr : tokP YU PL litP m x = (match Vc m x.f1 with | some r => r | none => match Vz PL m x.f1 with | some c => .inl (m.add c) | none => match litP x.f1 with | none => .inr 14 | some v => .inl (m.add 16 v)) := by unfold tokP; rw [if_pos hx]; exact one_spec
 obtain ⟨rr, hrr⟩ : ∃ rr, tokP YU PL litP m x = rr := ⟨_, rfl⟩
 rw [hrr]
 have hr' := Aside0.mk (hrr.symm.trans hr)
 have hfr := Aside0.mk (fun n hf => Jd hI (s := x.f1) (n := n) hf)
 clear hr hrr h hI hx hwt hBn h1 hnl
 cases hq : Vc m x.f1 with
 | some r =>
   rw [hq] at hS
   have hq' := Aside0.mk hq
   clear hq
   go_enter Try.func22, Try.ntmps22
   go_wp2_with fail
   refine hS.out.mono ?_
   rintro e w2 ⟨hB2, hR⟩
   have hB3 := Aside0.mk (hB1.out.trans hB2)
   clear hB2
   cases r with
   | inl m' =>
     obtain ⟨rfl, o2, vk2, vf2, h2⟩ := hR
     have h4 := Aside0.mk h2.unboxed
     clear h2
     go_wp2_with fail
     exact bodyPost_ret (v := .int .i64 0) ZU rfl (by rw [hr'.out, hq'.out]; exact ⟨hB3.out, rfl, _, _, _, h4.out⟩)
   | inr c =>
     obtain rfl := hR
     go_wp2_with fail
     exact bodyPost_ret (v := .int .i64 c) ZU rfl (by rw [hr'.out, hq'.out]; exact ⟨hB3.out, rfl⟩)
 | none =>
   rw [hq] at hS
   have hq' := Aside0.mk hq
   clear hq
   go_enter Try.func22, Try.ntmps22
   go_wp2_with fail
   refine hS.out.mono ?_
   rintro e w2 ⟨hB2, rfl, o2, vk2, vf2, h2⟩
   have hB3 := Aside0.mk (hB1.out.trans hB2)
   have q1 := (Yc h2.box 1).trans rfl
   replace h2 := Aside0.mk h2
   clear hB2
   go_wp2_with fail
   refine (UA h2.out Z0 x.f1).mono ?_
   rintro e w3 ⟨c, b, rfl, hf, hB4⟩
   have h3 := h2.out.below hB4
   have hB5 := Aside0.mk (hB3.out.trans (Below.mono hB4 h2.out.k.base_le))
   have q1 := (Yc h3.box 1).trans rfl
   replace h3 := Aside0.mk h3
   clear hB4
   cases b with
   | true =>
     have hf2 : Vz PL m x.f1 = some c := hf
     have hcr := hfr.out c hf2
     have hres := Aside0.mk hf2
     clear hf hf2
     go_wp2_with fail
     refine (Xl h3.out c 0 ⟨#[]⟩ Z0).mono ?_
     rintro e w4 ⟨rfl, hB6, o4, vk4, vf4, h4⟩
     have hB7 := Aside0.mk (hB5.out.trans hB6)
     have h5 := Aside0.mk h4.unboxed
     clear h4 hB6
     go_wp2_with fail
     exact bodyPost_ret (v := .int .i64 0) ZU rfl (by rw [hr'.out, hq'.out]; dsimp only; rw [hres.out]; exact ⟨hB7.out, rfl, _, _, _, h5.out⟩)
   | false =>
     have hf2 : Vz PL m x.f1 = none := hf
     have hres := Aside0.mk hf2
     clear hf hf2
     go_wp2_with fail
     refine (YbH x.f1 _ hsz).mono ?_
     rintro e w4 ⟨⟨z, rfl⟩, hB6⟩
     have h4 := Aside0.mk (h3.out.below hB6)
     have hB7 := Aside0.mk (hB5.out.trans (Below.mono hB6 h3.out.k.base_le))
     clear hB6
     cases hv : litP x.f1 with
     | none =>
       have hres2 := Aside0.mk hv
       clear hv
       rw [Option.getD_none, Option.isSome_none]
       go_wp2_with fail
       exact bodyPost_ret (v := .int .i64 14) ZU rfl (by rw [hr'.out, hq'.out]; dsimp only; rw [hres.out, hres2.out]; exact ⟨hB7.out, rfl⟩)
     | some v =>
       have hres2 := Aside0.mk hv
       clear hv
       rw [Option.getD_some, Option.isSome_some]
       go_wp2_with fail
       refine (Xl h4.out 16 v ⟨#[]⟩ Z0).mono ?_
       rintro e w5 ⟨rfl, hB8, o5, vk5, vf5, h5⟩
       have hB9 := Aside0.mk (hB7.out.trans hB8)
       have h6 := Aside0.mk h5.unboxed
       clear h5 hB8
       go_wp2_with fail
       exact bodyPost_ret (v := .int .i64 0) ZU rfl (by rw [hr'.out, hq'.out]; dsimp only; rw [hres.out, hres2.out]; exact ⟨hB9.out, rfl, _, _, _, h6.out⟩)
theorem YeD (h : Rx w base gk gf (bare (l, none)) o vk vf m) (hI : Inv PL W0 L0 m) (hW : W0 ≤ 800000000) (hL : L0 ≤ 1000000000) (x : S59) (hsz : x.f1.size ≤ maxLen) :
 Calls Try.prog 22 #[.pointer (some ⟨gk, 0, none⟩), .pointer (some ⟨gf, 0, none⟩), .agg #[.int .i64 x.f0, .string x.f1, .int .i64 x.f2]] w (RPost base gk gf (bare (l, none)) (tokP YU PL litP m x) w) := by
 by_cases hx : x.f0 = 1
 ·exact Yde h hI hW hL x hx hsz
 ·exact Ydf h hI hW x hx
end
theorem Yz (c : Int) (w : World) : Calls Try.prog 15 #[.int .i64 c] w fun e w' => e = .returned (.int .i64 (YO c)) ∧ w' = w := by
 by_cases h0 : c = 16
 ·subst h0
  go_enter Try.func15, Try.ntmps15
  go_wp2_with fail
  exact bodyPost_ret (v := .int .i64 1) Zt rfl ⟨rfl, rfl⟩
 by_cases h1 : c = 17
 ·subst h1
  clear h0
  go_enter Try.func15, Try.ntmps15
  go_wp2_with fail
  exact Z2P
 by_cases h2 : c = 195
 ·subst h2
  clear h0 h1
  go_enter Try.func15, Try.ntmps15
  go_wp2_with fail
  exact Z2P
 by_cases h3 : c = 18
 ·subst h3
  clear h0 h1 h2
  go_enter Try.func15, Try.ntmps15
  go_wp2_with fail
  exact bodyPost_ret (v := .int .i64 3) Zt rfl ⟨rfl, rfl⟩
 by_cases h4 : c = 19
 ·subst h4
  clear h0 h1 h2 h3
  go_enter Try.func15, Try.ntmps15
  go_wp2_with fail
  exact ZS
 by_cases h5 : c = 20
 ·subst h5
  clear h0 h1 h2 h3 h4
  go_enter Try.func15, Try.ntmps15
  go_wp2_with fail
  exact ZS
 by_cases h6 : c = 21
 ·subst h6
  clear h0 h1 h2 h3 h4 h5
  go_enter Try.func15, Try.ntmps15
  go_wp2_with fail
  exact ZS
 by_cases h7 : c = 22
 ·subst h7
  clear h0 h1 h2 h3 h4 h5 h6
  go_enter Try.func15, Try.ntmps15
  go_wp2_with fail
  exact ZS
 by_cases h8 : c = 23
 ·subst h8
  clear h0 h1 h2 h3 h4 h5 h6 h7
  go_enter Try.func15, Try.ntmps15
  go_wp2_with fail
  exact ZS
 by_cases h9 : c = 24
 ·subst h9
  clear h0 h1 h2 h3 h4 h5 h6 h7 h8
  go_enter Try.func15, Try.ntmps15
  go_wp2_with fail
  exact ZS
 by_cases h10 : c = 28
 ·subst h10
  clear h0 h1 h2 h3 h4 h5 h6 h7 h8 h9
  go_enter Try.func15, Try.ntmps15
  go_wp2_with fail
  exact ZS
 by_cases h11 : c = 198
 ·subst h11
  clear h0 h1 h2 h3 h4 h5 h6 h7 h8 h9 h10
  go_enter Try.func15, Try.ntmps15
  go_wp2_with fail
  exact ZS
 by_cases h12 : c = 181
 ·subst h12
  clear h0 h1 h2 h3 h4 h5 h6 h7 h8 h9 h10 h11
  go_enter Try.func15, Try.ntmps15
  go_wp2_with fail
  exact bodyPost_ret (v := .int .i64 5) Zt rfl ⟨rfl, rfl⟩
 by_cases h13 : c = 182
 ·subst h13
  clear h0 h1 h2 h3 h4 h5 h6 h7 h8 h9 h10 h11 h12
  go_enter Try.func15, Try.ntmps15
  go_wp2_with fail
  exact Z2Q
 by_cases h14 : c = 202
 ·subst h14
  clear h0 h1 h2 h3 h4 h5 h6 h7 h8 h9 h10 h11 h12 h13
  go_enter Try.func15, Try.ntmps15
  go_wp2_with fail
  exact Z2Q
 have hr : YO c = 0 := by unfold YO; simp only [h0, h1, h2, h3, h4, h5, h6, h7, h8, h9, h10, h11, h12, h13, h14, or_self, if_false]
 rw [hr]
 have b0 : (c == 16) = false := beq_eq_false_iff_ne.mpr h0
 have b1 : (c == 17) = false := beq_eq_false_iff_ne.mpr h1
 have b2 : (c == 195) = false := beq_eq_false_iff_ne.mpr h2
 have b3 : (c == 18) = false := beq_eq_false_iff_ne.mpr h3
 have b4 : (c == 19) = false := beq_eq_false_iff_ne.mpr h4
 have b5 : (c == 20) = false := beq_eq_false_iff_ne.mpr h5
 have b6 : (c == 21) = false := beq_eq_false_iff_ne.mpr h6
 have b7 : (c == 22) = false := beq_eq_false_iff_ne.mpr h7
 have b8 : (c == 23) = false := beq_eq_false_iff_ne.mpr h8
 have b9 : (c == 24) = false := beq_eq_false_iff_ne.mpr h9
 have b10 : (c == 28) = false := beq_eq_false_iff_ne.mpr h10
 have b11 : (c == 198) = false := beq_eq_false_iff_ne.mpr h11
 have b12 : (c == 181) = false := beq_eq_false_iff_ne.mpr h12
 have b13 : (c == 182) = false := beq_eq_false_iff_ne.mpr h13
 have b14 : (c == 202) = false := beq_eq_false_iff_ne.mpr h14
 clear hr h0 h1 h2 h3 h4 h5 h6 h7 h8 h9 h10 h11 h12 h13 h14
 go_enter Try.func15, Try.ntmps15
 go_wp2_with fail
 exact bodyPost_ret (v := .int .i64 0) Zt rfl ⟨rfl, rfl⟩
theorem YE (c : Int) (w : World) : Calls Try.prog 54 #[.int .i64 c] w fun e w' => e = .returned (.bool (XA c)) ∧ w' = w := by
 by_cases h0 : c = 0
 ·subst h0
  go_enter Try.func54, Try.ntmps54
  go_wp2_with fail
  exact Z2R
 ·have b0 : (c == 0) = false := beq_eq_false_iff_ne.mpr h0
  by_cases h1 : 16 ≤ c
  ·by_cases h2 : c ≤ 4095
   ·have hr : XA c = true := by unfold XA; simp [h1, h2]
    rw [hr]
    have d1 : decide (16 ≤ c) = true := decide_eq_true h1
    have d2 : decide (c ≤ 4095) = true := decide_eq_true h2
    clear hr h0
    go_enter Try.func54, Try.ntmps54
    go_wp2_with fail
    exact Z2R
   ·have hr : XA c = false := by unfold XA; simp [h0, h2]
    rw [hr]
    have d1 : decide (16 ≤ c) = true := decide_eq_true h1
    have d2 : decide (c ≤ 4095) = false := decide_eq_false h2
    clear hr h0
    go_enter Try.func54, Try.ntmps54
    go_wp2_with fail
    exact Z2S
  ·have hr : XA c = false := by unfold XA; simp [h0, h1]
   rw [hr]
   have d1 : decide (16 ≤ c) = false := decide_eq_false h1
   clear hr h0
   go_enter Try.func54, Try.ntmps54
   go_wp2_with fail
   exact Z2S
theorem YdY (W : World) (l : List Int) (hl : l.length ≤ 1000) : Kd.R (Kd.int .u8) 5 (W.alloc (.cells (nums .u8 l).toArray 5)) W.heap.size (fun _ => True) (.slice (some ⟨W.heap.size, 0, none⟩) l.length l.length) l := by
 refine Ybu.2 ⟨fun _ _ => trivial, ?_⟩
 have h2 := World.ownsRow_lit (base := W.heap.size) (e := 5) (size := 1) W (nums .u8 l).toArray l.length (Nat.le_refl _) (by have : maxLen = 9223372036854775807 := rfl; omega) (by simp [nums])
 simpa using h2
def Yca (l : List Int) (w : World) (e : Ending) (w' : World) : Prop := ∃ v, e = .returned v ∧ Kd.R (Kd.int .u8) 5 w' w.heap.size (fun _ => True) v l ∧ Below w.heap.size w w'
theorem Us (n : Int) (hn : 0 ≤ n ∧ n < 4294967296) (w : World) : Calls Try.prog 56 #[.int .i64 n] w (Yca (twoB n) w) := by
 have hl := Aside0.mk (YdY w [n / 256 % 256, n % 256] Z6)
 have hB := Aside0.mk (Yl (Below.refl w.heap.size w) (.cells #[.int .u8 (n / 256 % 256), .int .u8 (n % 256)] 5))
 go_enter Try.func56, Try.ntmps56
 go_wp2_with fail
 exact bodyPost_ret (v := .slice (some ⟨w.heap.size, 0, none⟩) 2 2) (by simp [results, Try.results56, go_sem]) rfl ⟨_, rfl, hl.out, hB.out⟩
theorem YdU (n : Int) (w : World) : Calls Try.prog 56 #[.int .i64 n] w fun e w' => ∃ l, l.length = 2 ∧ Yca l w e w' := by
 go_enter Try.func56, Try.ntmps56
 go_wp2_with fail
 exact bodyPost_ret (v := .slice (some ⟨w.heap.size, 0, none⟩) 2 2) (by simp [results, Try.results56, go_sem]) rfl ⟨[_, _], rfl, _, rfl, YdY w [_, _] Z6, Yl (Below.refl _ _) _⟩
theorem YaE (n : Int) (hn : 0 ≤ n ∧ n < 4294967296) (w : World) : Calls Try.prog 55 #[.int .i64 n] w (Yca (Vq n) w) := by
 unfold Vq
 by_cases hc : 255 < n
 ·rw [if_pos hc]
  have hl := Aside0.mk (YdY w [n / 256 % 256, n % 256] Z6)
  have hB := Aside0.mk (Yl (Below.refl w.heap.size w) (.cells #[.int .u8 (n / 256 % 256), .int .u8 (n % 256)] 5))
  have hc2 : ¬ n ≤ 255 := by omega
  go_enter Try.func55, Try.ntmps55
  go_wp2_with fail
  exact bodyPost_ret (v := .slice (some ⟨w.heap.size, 0, none⟩) 2 2) (by simp [results, Try.results55, go_sem]) rfl ⟨_, rfl, hl.out, hB.out⟩
 ·rw [if_neg hc]
  have hl := Aside0.mk (YdY w [n % 256] Z6)
  have hB := Aside0.mk (Yl (Below.refl w.heap.size w) (.cells #[.int .u8 (n % 256)] 5))
  have hc2 : n ≤ 255 := by omega
  have hm : n % 256 = n := Int.emod_eq_of_lt hn.1 Z0
  rw [hm] at hl hB ⊢
  clear hm
  go_enter Try.func55, Try.ntmps55
  go_wp2_with fail
  exact bodyPost_ret (v := .slice (some ⟨w.heap.size, 0, none⟩) 1 1) (by simp [results, Try.results55, go_sem]) rfl ⟨_, rfl, hl.out, hB.out⟩
end Go.Proofs.Ytehmhgpogpbjiaa.Fcc
