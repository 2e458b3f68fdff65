import Derived.Test.Ytehmhgpogpbjiaafu26
set_option linter.unusedVariables false
set_option linter.unusedSimpArgs false
set_option maxRecDepth 100000
set_option maxHeartbeats 8000000
namespace Go.Proofs.Ytehmhgpogpbjiaa.Fcc
open Go.RowKit Go.Proofs.YtehmhgpogpbjiaaW.PrintWords Go.Proofs.YtehmhgpogpbjiaaW.PrintLast Go.Proofs.YtehmhgpogpbjiaaW.PrintMore Go.Proofs.Ytehmhgpogpbjiaa.PFccTokens
def doP (m : Mk) (c n : Int) (back : Bool) : Option Mk :=
 if c = 177 then some { m with dests := m.dests ++ [n] }
 else if (c = 19 ∨ c = 20) ∧ back = true then (match popP m.dests with | none => none | some (x, l) => some { m with dests := l, leads := m.leads ++ ([⟨n, x⟩] : List Ld) })
 else if c = 20 then some { m with origs := m.origs ++ [n] }
 else if c = 19 then (match popP m.origs with | none => none | some (x, l) => some { m with origs := l ++ [n, x] })
 else if c = 178 then (match popP m.origs with | none => none | some (x, l) => some { m with origs := l, leads := m.leads ++ ([⟨x, n⟩] : List Ld) })
 else if c = 23 ∨ c = 24 then some { m with loops := m.loops ++ [n] }
 else if c = 21 ∨ c = 22 then (match popP m.loops with | none => none | some (x, l) => some { m with loops := l, leads := m.leads ++ ([⟨n, x⟩, ⟨x, n⟩] : List Ld) })
 else if c = 27 then (if m.loops = [] then none else some m)
 else if c = 196 then some { m with cases := m.cases ++ ([⟨-1, []⟩] : List Ch) }
 else match m.cases.getLast? with
  | none => none
  | some ch => if (ch.f0 = -1 ↔ c = 198) then none
    else if c = 28 then some { m with cases := m.cases.dropLast ++ ([⟨n, ch.f1⟩] : List Ch) }
    else if c = 198 then some { m with cases := m.cases.dropLast ++ ([⟨-1, ch.f1 ++ [n]⟩] : List Ch), leads := m.leads ++ ([⟨ch.f0, n⟩] : List Ld) }
    else some { m with cases := m.cases.dropLast, leads := m.leads ++ ch.f1.map (fun x => (⟨x, n⟩ : Ld)) }
def laidC : List Int := [177, 19, 20, 178, 23, 24, 21, 22, 27, 196, 28, 198, 197]
theorem ch_cases (l : List Ch) : l = [] ∨ ∃ xs x, l = xs ++ [x] := by
 rcases List.eq_nil_or_concat l with h | ⟨xs, x, h⟩
 ·exact .inl h
 ·exact .inr ⟨xs, x, (by rw [h]; simp)⟩
section
variable {w : World} {base gk gf : Nat} {T : Tx} {o : Nat → Nat} {vk vf : List Value} {m m1 : Mk}
theorem rdo_any (h : Rx w base gk gf T o vk vf m) (hw : wt m ≤ 1000000000) (c : Int) (hc : c ∈ laidC) (n : Int) (back : Bool) :
 Calls Try.prog 76 #[.pointer (some ⟨gf, 0, none⟩), .int .i64 c, .int .i64 n, .bool back] w (XI base gk gf T (doP m c n back) w) := by
 simp only [laidC, List.mem_cons, List.not_mem_nil, or_false] at hc
 rcases hc with rfl | rfl | rfl | rfl | rfl | rfl | rfl | rfl | rfl | rfl | rfl | rfl | rfl
 ·exact rdo_begin h hw n back
 ·cases back with
  | true =>
    show Calls Try.prog 76 _ w (XI base gk gf T (match popP m.dests with | none => none | some (x, l) => some { m with dests := l, leads := m.leads ++ ([⟨n, x⟩] : List Ld) }) w)
    rcases snoc_cases m.dests with hx | ⟨xs, x, hx⟩
    ·have := YaD h hw n hx
     rw [hx]; exact this
    ·have := YeJ h hw n xs x hx
     rw [hx, XD]; exact this
  | false =>
    show Calls Try.prog 76 _ w (XI base gk gf T (match popP m.origs with | none => none | some (x, l) => some { m with origs := l ++ [n, x] }) w)
    rcases snoc_cases m.origs with hx | ⟨xs, x, hx⟩
    ·have := YbN h hw n hx
     rw [hx]; exact this
    ·have := rdo_else h hw n xs x hx
     rw [hx, XD]; exact this
 ·cases back with
  | true =>
    show Calls Try.prog 76 _ w (XI base gk gf T (match popP m.dests with | none => none | some (x, l) => some { m with dests := l, leads := m.leads ++ ([⟨n, x⟩] : List Ld) }) w)
    rcases snoc_cases m.dests with hx | ⟨xs, x, hx⟩
    ·have := YaC h hw n hx
     rw [hx]; exact this
    ·have := YeI h hw n xs x hx
     rw [hx, XD]; exact this
  | false => exact rdo_if h hw n
 ·show Calls Try.prog 76 _ w (XI base gk gf T (match popP m.origs with | none => none | some (x, l) => some { m with origs := l, leads := m.leads ++ ([⟨x, n⟩] : List Ld) }) w)
  rcases snoc_cases m.origs with hx | ⟨xs, x, hx⟩
  ·have := YbJ h hw n back hx
   rw [hx]; exact this
  ·have := rdo_then h hw n back xs x hx
   rw [hx, XD]; exact this
 ·exact rdo_do h hw n back
 ·exact rdo_qdo h hw n back
 ·show Calls Try.prog 76 _ w (XI base gk gf T (match popP m.loops with | none => none | some (x, l) => some { m with loops := l, leads := m.leads ++ ([⟨n, x⟩, ⟨x, n⟩] : List Ld) }) w)
  rcases snoc_cases m.loops with hx | ⟨xs, x, hx⟩
  ·have := YbM h hw n back hx
   rw [hx]; exact this
  ·have := rdo_loop h hw n back xs x hx
   rw [hx, XD]; exact this
 ·show Calls Try.prog 76 _ w (XI base gk gf T (match popP m.loops with | none => none | some (x, l) => some { m with loops := l, leads := m.leads ++ ([⟨n, x⟩, ⟨x, n⟩] : List Ld) }) w)
  rcases snoc_cases m.loops with hx | ⟨xs, x, hx⟩
  ·have := Ya7 h hw n back hx
   rw [hx]; exact this
  ·have := rdo_ploop h hw n back xs x hx
   rw [hx, XD]; exact this
 ·show Calls Try.prog 76 _ w (XI base gk gf T (if m.loops = [] then none else some m) w)
  rcases snoc_cases m.loops with hx | ⟨xs, x, hx⟩
  ·rw [if_pos hx]; exact Ya8 h hw n back hx
  ·rw [if_neg (by rw [hx]; simp)]; exact rdo_leave h hw n back xs x hx
 ·exact rdo_case h hw n back
 ·rcases ch_cases m.cases with hx | ⟨xs, x, hx⟩
  ·have hd : doP m 28 n back = none := by unfold doP; simp [hx]
   rw [hd]; exact YcB h hw n back hx
  ·have hd : doP m 28 n back = if x.f0 = -1 then some { m with cases := xs ++ ([⟨n, x.f1⟩] : List Ch) } else none := by unfold doP; simp [hx]
   rw [hd]
   by_cases hc : x.f0 = -1
   ·rw [if_pos hc]; exact rdo_of h hw n back hx hc
   ·rw [if_neg hc]; exact YeH h hw n back hx hc
 ·rcases ch_cases m.cases with hx | ⟨xs, x, hx⟩
  ·have hd : doP m 198 n back = none := by unfold doP; simp [hx]
   rw [hd]; exact YbK h hw n back hx
  ·have hd : doP m 198 n back = if x.f0 = -1 then none else some { m with cases := xs ++ ([⟨-1, x.f1 ++ [n]⟩] : List Ch), leads := m.leads ++ ([⟨x.f0, n⟩] : List Ld) } := by unfold doP; simp [hx]
   rw [hd]
   by_cases hc : x.f0 = -1
   ·rw [if_pos hc]; exact Ydm h hw n back hx hc
   ·rw [if_neg hc]; exact rdo_endof h hw n back hx hc
 ·rcases ch_cases m.cases with hx | ⟨xs, x, hx⟩
  ·have hd : doP m 197 n back = none := by unfold doP; simp [hx]
   rw [hd]; exact YbL h hw n back hx
  ·have hd : doP m 197 n back = if x.f0 = -1 then some { m with cases := xs, leads := m.leads ++ x.f1.map (fun x => (⟨x, n⟩ : Ld)) } else none := by unfold doP; simp [hx]
   rw [hd]
   by_cases hc : x.f0 = -1
   ·rw [if_pos hc]; exact Ydo h hw n back hx hc
   ·rw [if_neg hc]; exact Ydn h hw n back hx hc
end
theorem doP_wt {m m1 : Mk} {c n : Int} {back : Bool} (h : doP m c n back = some m1) : wt m1 ≤ wt m + 2 ∧ m1.out = m.out ∧ m1.inp = m.inp ∧ m1.names = m.names ∧ m1.opn = m.opn := by
 have key : ∀ {l : List Int} {x : Int} {l' : List Int}, popP l = some (x, l') → l.length = l'.length + 1 := fun hp => by rw [UQ hp]; simp
 unfold doP at h
 by_cases h0 : c = 177
 ·rw [if_pos h0] at h
  cases h; exact ⟨ZL, rfl, rfl, rfl, rfl⟩
 rw [if_neg h0] at h
 by_cases h1 : (c = 19 ∨ c = 20) ∧ back = true
 ·rw [if_pos h1] at h
  cases hp : popP m.dests with
  | none => rw [hp] at h; cases h
  | some p => obtain ⟨x, l⟩ := p; have := key hp; rw [hp] at h; cases h; exact ⟨ZL, rfl, rfl, rfl, rfl⟩
 rw [if_neg h1] at h
 by_cases h2 : c = 20
 ·rw [if_pos h2] at h
  cases h; exact ⟨ZL, rfl, rfl, rfl, rfl⟩
 rw [if_neg h2] at h
 by_cases h3 : c = 19
 ·rw [if_pos h3] at h
  cases hp : popP m.origs with
  | none => rw [hp] at h; cases h
  | some p => obtain ⟨x, l⟩ := p; have := key hp; rw [hp] at h; cases h; exact ⟨ZL, rfl, rfl, rfl, rfl⟩
 rw [if_neg h3] at h
 by_cases h4 : c = 178
 ·rw [if_pos h4] at h
  cases hp : popP m.origs with
  | none => rw [hp] at h; cases h
  | some p => obtain ⟨x, l⟩ := p; have := key hp; rw [hp] at h; cases h; exact ⟨ZL, rfl, rfl, rfl, rfl⟩
 rw [if_neg h4] at h
 by_cases h5 : c = 23 ∨ c = 24
 ·rw [if_pos h5] at h
  cases h; exact ⟨ZL, rfl, rfl, rfl, rfl⟩
 rw [if_neg h5] at h
 by_cases h6 : c = 21 ∨ c = 22
 ·rw [if_pos h6] at h
  cases hp : popP m.loops with
  | none => rw [hp] at h; cases h
  | some p => obtain ⟨x, l⟩ := p; have := key hp; rw [hp] at h; cases h; exact ⟨ZL, rfl, rfl, rfl, rfl⟩
 rw [if_neg h6] at h
 by_cases h7 : c = 27
 ·rw [if_pos h7] at h
  split at h
  ·cases h
  ·cases h; exact ⟨Z0, rfl, rfl, rfl, rfl⟩
 rw [if_neg h7] at h
 by_cases h8 : c = 196
 ·rw [if_pos h8] at h
  cases h; exact ⟨ZL, rfl, rfl, rfl, rfl⟩
 rw [if_neg h8] at h
 rcases ch_cases m.cases with hx | ⟨xs, x, hx⟩
 ·rw [hx] at h; cases h
 ·have hs := Jb xs x
  rw [hx, List.getLast?_concat] at h
  dsimp only at h
  rw [List.dropLast_concat] at h
  split at h
  ·cases h
  split at h
  ·cases h
   have h2 := Jb xs (⟨n, x.f1⟩ : Ch)
   exact ⟨(by simp only [wt, hx, hs, h2]; omega), rfl, rfl, rfl, rfl⟩
  split at h
  ·cases h
   have h2 := Jb xs (⟨-1, x.f1 ++ [n]⟩ : Ch)
   exact ⟨(by simp only [wt, hx, hs, h2, List.length_append, List.length_singleton]; omega), rfl, rfl, rfl, rfl⟩
  ·cases h
   exact ⟨(by simp only [wt, hx, hs, List.length_append, List.length_map]; omega), rfl, rfl, rfl, rfl⟩
def runP : List Int → Bool → Mk → Option Mk
 | [], _, m => some m
 | c :: l, b, m => match doP m c m.at_ b with
   | none => none
   | some m1 => runP l b (m1.add c)
end Go.Proofs.Ytehmhgpogpbjiaa.Fcc
namespace Go.Proofs.Ytehmhgpogpbjiaa.PFccTokens
open Go.RowKit Go.Proofs.YtehmhgpogpbjiaaW.PrintWords Go.Proofs.YtehmhgpogpbjiaaW.PrintLast Go.Proofs.YtehmhgpogpbjiaaW.PrintMore
attribute [local go_sem] VH VF Ub Ua Vm Vl VG VE
def Xc.f (a0 : ByteArray) : Option (List Int) := if a0.toList = ([105, 102] : List UInt8) then (some (([1] : List Int))) else (if a0.toList = ([101, 108, 115, 101] : List UInt8) then (some (([2, 3] : List Int))) else (if a0.toList = ([116, 104, 101, 110] : List UInt8) then (some (([3] : List Int))) else (if a0.toList = ([98, 101, 103, 105, 110] : List UInt8) then (some (([4] : List Int))) else (if a0.toList = ([97, 103, 97, 105, 110] : List UInt8) then (some (([5] : List Int))) else (if a0.toList = ([117, 110, 116, 105, 108] : List UInt8) then (some (([6] : List Int))) else (if a0.toList = ([119, 104, 105, 108, 101] : List UInt8) then (some (([1] : List Int))) else (if a0.toList = ([114, 101, 112, 101, 97, 116] : List UInt8) then (some (([5, 3] : List Int))) else (if a0.toList = ([100, 111] : List UInt8) then (some (([7] : List Int))) else (if a0.toList = ([63, 100, 111] : List UInt8) then (some (([8] : List Int))) else (if a0.toList = ([108, 111, 111, 112] : List UInt8) then (some (([9] : List Int))) else (if a0.toList = ([43, 108, 111, 111, 112] : List UInt8) then (some (([10] : List Int))) else (if a0.toList = ([108, 101, 97, 118, 101] : List UInt8) then (some (([11] : List Int))) else (if a0.toList = ([99, 97, 115, 101] : List UInt8) then (some (([12] : List Int))) else (if a0.toList = ([111, 102] : List UInt8) then (some (([13] : List Int))) else (if a0.toList = ([101, 110, 100, 111, 102] : List UInt8) then (some (([14] : List Int))) else (if a0.toList = ([101, 110, 100, 99, 97, 115, 101] : List UInt8) then (some (([15] : List Int))) else (some ([] : List Int))))))))))))))))))
theorem ifL {α : Type} {a l : List UInt8} {x y : Option α} {r : α} {G : Prop} (p : (a == l) = true → (a != l) = false → x = some r → G) (n : (a == l) = false → (a != l) = true → y = some r → G) (H : (if a = l then x else y) = some r) : G := by
 by_cases h : a = l
 ·rw [if_pos h] at H; exact p (eqB h).1 (eqB h).2 H
 ·rw [if_neg h] at H; exact n (neB h).1 (neB h).2 H
theorem Ycy {W : World} {base : Nat} {okp : Nat → Prop} : ∀ l : List Int, Reps ((Kd.int .i64).M W base okp) 1 l (l.map (Value.int .i64))
 | [] => Reps.none _ _
 | _ :: l => Reps.one rfl (Ycy l)
theorem R_ints {P : Program} {ops : Array Oper} {rest : List Oper} {o : Oper} {a : Act} {Q : Exit → Act → World → Prop} {w : World} {l r : List Int} (hl : some l = some r) (hg : o.guard = none) {N : Tmp} (hd : o.dst = some N)
 (hrun : (execOp a.eval o).run P w = .ok (.value (.slice (some ⟨w.heap.size, 0, none⟩) l.length l.length)) (w.alloc (.cells (l.map (Value.int .i64)).toArray 3))) (hm : l.length ≤ 9)
 (h : ∀ v w', (Kd.int .i64).R 3 w' w.heap.size (fun _ => True) v r ∧ Below w.heap.size w w' → wpList P ops Q rest (a.put o.dst v) w') : wpList P ops Q (o :: rest) a w := by
 obtain rfl := Option.some.inj hl
 exact Kd.R_lit (Kd.int .i64) (w0 := w) w.heap.size 3 hg hd (xs := l) (inner := l.map (Value.int .i64)) (ok := fun _ => True) (okp := fun _ => True) hrun (Ycy l) (fun _ h => h) trivial (Below.refl _ _) (Nat.le_refl _) Z0 (fun v w' h1 h2 _ _ => h v w' ⟨h1, h2⟩)
theorem qActs {p : Prop} (x : p := by
 go_enter Try.func70, Try.ntmps70
 go_wp2_with (first | (refine R_ints h rfl rfl ?hr Z6 ?_; (case hr => exact Z2l); intro v w3 ho; clear h HB))
 go_ret
 exact ⟨_, rfl, ho⟩) : p := x
theorem Xc.calls (a0 : ByteArray) (r : List Int) (w : World) (h : Xc.f a0 = some r) :
 Calls Try.prog 70 #[.string a0] w fun e w' => ∃ v0_ : Value, e = .returned (v0_) ∧ Kd.R (Kd.int .i64) 3 w' w.heap.size (fun _ => True) v0_ r ∧ Below w.heap.size w w' := by
 have HB := Aside0.mk (Below.refl w.heap.size w)
 unfold Xc.f at h
 iterate 17 (revert h; refine ifL (fun _ _ h => qActs) (fun _ _ h => ?_))
 obtain rfl := Option.some.inj h
 go_enter Try.func70, Try.ntmps70
 go_wp2
 go_ret
 exact ⟨_, rfl, Kd.R_nil _ _ _ _ _, Below.refl _ _⟩
def YH.j0 : Nat → ByteArray → Bool → Option (Int)
 | 0, _, _ => none
 | k + 1, x3, x6 => if x6 = true then (some 184) else (if x3.toList = ([118, 97, 114, 105, 97, 98, 108, 101] : List UInt8) then (some 185) else (if x3.toList = ([100, 101, 102, 101, 114] : List UInt8) then (some 188) else (if x3.toList = ([98, 117, 102, 102, 101, 114, 58] : List UInt8) then (some 189) else (some 0))))
def YH.f (k : Nat) (a0 : ByteArray) : Option (Int) := if a0.toList = ([99, 111, 110, 115, 116, 97, 110, 116] : List UInt8) then (some 186) else (if a0.toList = ([118, 97, 108, 117, 101] : List UInt8) then (YH.j0 k a0 (a0.toList == ([118, 97, 108, 117, 101] : List UInt8))) else (YH.j0 k a0 (a0.toList == ([105, 110, 115, 116, 97, 110, 99, 101] : List UInt8))))
theorem YH.mono_l : ∀ k, (∀ y0 y1, LeO (YH.j0 k y0 y1) (YH.j0 (k + 1) y0 y1))
 | 0 => fun _ _ r h => by simp [YH.j0] at h
 | k + 1 => by
  have ih0 := YH.mono_l k
  ·intro y0 y1
   unfold YH.j0
   exact XS
theorem YH.mono : ∀ a0 k, LeO (YH.f k a0) (YH.f (k + 1) a0) := by
 intro a0 k
 have ih0 := YH.mono_l k
 unfold YH.f
 exact XS
theorem YH.calls (k : Nat) (a0 : ByteArray) (r : Int) (w : World) (h : YH.f k a0 = some r) :
 Calls Try.prog 71 #[.string a0] w fun e w' => e = .returned (.int .i64 r) ∧ Xa w w' := by
 have H : (if a0.toList = ([99, 111, 110, 115, 116, 97, 110, 116] : List UInt8) then (some 186) else (if a0.toList = ([118, 97, 108, 117, 101] : List UInt8) then (YH.j0 k a0 (a0.toList == ([118, 97, 108, 117, 101] : List UInt8))) else (YH.j0 k a0 (a0.toList == ([105, 110, 115, 116, 97, 110, 99, 101] : List UInt8))))) = some r := h
 clear h
 by_cases c2 : a0.toList = ([99, 111, 110, 115, 116, 97, 110, 116] : List UInt8)
 ·rw [if_pos c2] at H
  obtain ⟨c2b0, c2b1⟩ := eqB c2
  clear c2
  obtain rfl := Option.some.inj H
  go_enter Try.func71, Try.ntmps71
  go_wp2
  go_ret
  exact Zb
 ·rw [if_neg c2] at H
  obtain ⟨c2b0, c2b1⟩ := neB c2
  have HC3 := Aside0.mk H
  clear H
  go_enter Try.func71, Try.ntmps71
  go_upto_if 6 with (fail)
  go_cut [6] (fun v6 wc => ∃ (kq : Nat) (x6_2 : Bool), v6 = .bool x6_2 ∧ Aside0 (YH.j0 kq a0 x6_2 = some r) ∧ Aside0 (kq ≤ k) ∧ Xa w wc)
  case first =>
   have H := HC3.out
   clear HC3
   by_cases c4 : a0.toList = ([118, 97, 108, 117, 101] : List UInt8)
   ·rw [if_pos c4] at H
    obtain ⟨c4b0, c4b1⟩ := eqB c4
    clear c4
    (first | rw [c4b0] | (simp only [Yy, YA]; rw [c4b0]) | skip)
    have H' := Aside0.mk H
    clear H
    go_wp2
    go_meet
    case rel => exact ⟨_, ((a0.toList == ([118, 97, 108, 117, 101] : List UInt8))), Z3, H', ⟨ZC⟩, Z7⟩
   ·rw [if_neg c4] at H
    obtain ⟨c4b0, c4b1⟩ := neB c4
    (first | rw [c4b0] | (simp only [Yy, YA]; rw [c4b0]) | skip)
    have H' := Aside0.mk H
    clear H
    go_wp2
    go_meet
    case rel => exact ⟨_, ((a0.toList == ([105, 110, 115, 116, 97, 110, 99, 101] : List UInt8))), Z3, H', ⟨ZC⟩, Z7⟩
  case rest =>
   clear HC3
   try clear c2
   try clear c2b0
   try clear c2b1
   try clear p2
   try clear c4
   try clear c4b0
   try clear c4b1
   obtain ⟨kq, x6_2, rfl, HA, HJ2, ⟨mc2, rfl⟩⟩ := hcut
   cases kq with
   | zero => exact absurd HA.out (by simp [YH.j0])
   | succ kj2 =>
    have H := HA.out
    clear HA
    simp only [YH.j0] at H
    by_cases c5 : x6_2 = true
    ·subst c5
     rw [if_pos rfl] at H
     obtain rfl := Option.some.inj H
     go_wp2
     go_ret
     exact Zb
    ·replace c5 := Bool.eq_false_iff.mpr c5
     subst c5
     rw [if_neg Z1] at H
     by_cases c6 : a0.toList = ([118, 97, 114, 105, 97, 98, 108, 101] : List UInt8)
     ·rw [if_pos c6] at H
      obtain ⟨c6b0, c6b1⟩ := eqB c6
      clear c6
      obtain rfl := Option.some.inj H
      go_wp2
      go_ret
      exact Zb
     ·rw [if_neg c6] at H
      obtain ⟨c6b0, c6b1⟩ := neB c6
      by_cases c7 : a0.toList = ([100, 101, 102, 101, 114] : List UInt8)
      ·rw [if_pos c7] at H
       obtain ⟨c7b0, c7b1⟩ := eqB c7
       clear c7
       obtain rfl := Option.some.inj H
       go_wp2
       go_ret
       exact Zb
      ·rw [if_neg c7] at H
       obtain ⟨c7b0, c7b1⟩ := neB c7
       by_cases c8 : a0.toList = ([98, 117, 102, 102, 101, 114, 58] : List UInt8)
       ·rw [if_pos c8] at H
        obtain ⟨c8b0, c8b1⟩ := eqB c8
        clear c8
        obtain rfl := Option.some.inj H
        go_wp2
        go_ret
        exact Zb
       ·rw [if_neg c8] at H
        obtain ⟨c8b0, c8b1⟩ := neB c8
        obtain rfl := Option.some.inj H
        go_wp2
        go_ret
        exact Zb
def Vr (w0 W : World) (g : Nat) (f0 : List Int) (f1 : List Int) (f2 : List Int) (f3 : List (S149)) (f4 : List (S77)) : Prop := ∃ A0 c0, ∃ A1 c1, ∃ A2 c2, ∃ A3 c3, ∃ A4 c4, W.heap[g]? = some (.cells #[.slice A0 f0.length c0, .slice A1 f1.length c1, .slice A2 f2.length c2, .slice A3 f3.length c3, .slice A4 f4.length c4] 73 (0, 0)) ∧ w0.heap.size ≤ g ∧ Kd.C (Kd.int .i64) w0 A0 f0.length f0 ∧ Kd.C (Kd.int .i64) w0 A1 f1.length f1 ∧ Kd.C (Kd.int .i64) w0 A2 f2.length f2 ∧ Kd.C k149 w0 A3 f3.length f3 ∧ Kd.C k77 w0 A4 f4.length f4
theorem Vr.grown {w0 W : World} {g : Nat} {f0 : List Int} {f1 : List Int} {f2 : List Int} {f3 : List (S149)} {f4 : List (S77)} {W1 : World} {row : Option Nat} (h : Vr w0 W g f0 f1 f2 f3 f4) (hw : W.grownBy W1 row) (hne : some g ≠ row) : Vr w0 W1 g f0 f1 f2 f3 f4 := by
 obtain ⟨A0, c0, A1, c1, A2, c2, A3, c3, A4, c4, hb, hg, hr0, hr1, hr2, hr3, hr4⟩ := h
 exact ⟨A0, c0, A1, c1, A2, c2, A3, c3, A4, c4, XK hb hw hne, hg, hr0, hr1, hr2, hr3, hr4⟩
theorem Vr.kept {w0 W : World} {g : Nat} {f0 : List Int} {f1 : List Int} {f2 : List Int} {f3 : List (S149)} {f4 : List (S77)} {W1 : World} {S : Nat → Prop} (h : Vr w0 W g f0 f1 f2 f3 f4) (hk : Kept W W1 S) (hne : ¬ S g) : Vr w0 W1 g f0 f1 f2 f3 f4 := by
 obtain ⟨A0, c0, A1, c1, A2, c2, A3, c3, A4, c4, hb, hg, hr0, hr1, hr2, hr3, hr4⟩ := h
 exact ⟨A0, c0, A1, c1, A2, c2, A3, c3, A4, c4, Yed hb hk hne, hg, hr0, hr1, hr2, hr3, hr4⟩
theorem Vr.below {w0 W : World} {g : Nat} {f0 : List Int} {f1 : List Int} {f2 : List Int} {f3 : List (S149)} {f4 : List (S77)} {W1 : World} (h : Vr w0 W g f0 f1 f2 f3 f4) (hw : Below W.heap.size W W1) : Vr w0 W1 g f0 f1 f2 f3 f4 := h.grown (VY hw none) Z6
theorem Vr.alloc {w0 W : World} {g : Nat} {f0 : List Int} {f1 : List Int} {f2 : List Int} {f3 : List (S149)} {f4 : List (S77)} (h : Vr w0 W g f0 f1 f2 f3 f4) (o : Obj) : Vr w0 (W.alloc o) g f0 f1 f2 f3 f4 := h.below (Yl (Below.refl _ _) o)
theorem Vr.drewN {w0 W : World} {g : Nat} {f0 : List Int} {f1 : List Int} {f2 : List Int} {f3 : List (S149)} {f4 : List (S77)} (h : Vr w0 W g f0 f1 f2 f3 f4) (m : Nat) : Vr w0 (W.drewN m) g f0 f1 f2 f3 f4 := h
theorem Vr.drew {w0 W : World} {g : Nat} {f0 : List Int} {f1 : List Int} {f2 : List Int} {f3 : List (S149)} {f4 : List (S77)} (h : Vr w0 W g f0 f1 f2 f3 f4) : Vr w0 W.drew g f0 f1 f2 f3 f4 := h
theorem Vr.at_ {w0 W : World} {g : Nat} {f0 : List Int} {f1 : List Int} {f2 : List Int} {f3 : List (S149)} {f4 : List (S77)} {w' : World} {m : Nat} (hq : W.drewN m = w') (h : Vr w0 W g f0 f1 f2 f3 f4) : Vr w0 w' g f0 f1 f2 f3 f4 := by subst hq; exact Vr.drewN h m
theorem Vr.apart {w0 W : World} {g : Nat} {f0 : List Int} {f1 : List Int} {f2 : List Int} {f3 : List (S149)} {f4 : List (S77)} {α : Type} {d : Kd α} {e : Nat} {base : Nat} {ok : Nat → Prop} {v : Value} {xs : List α} (h : Vr w0 W g f0 f1 f2 f3 f4) (ho : d.R e W base ok v xs) (ht : ∀ q, q ∈ e :: d.E → q ≠ 73) : d.R e W base (fun k => ok k ∧ k ≠ g) v xs := by
 obtain ⟨A0, c0, A1, c1, A2, c2, A3, c3, A4, c4, hb, hg, hr0, hr1, hr2, hr3, hr4⟩ := h
 exact Kd.R_types ho hb ht
theorem Vr.own_ne {w0 W : World} {g : Nat} {f0 : List Int} {f1 : List Int} {f2 : List Int} {f3 : List (S149)} {f4 : List (S77)} {α : Type} {d : Kd α} {e : Nat} {base : Nat} {ok : Nat → Prop} {v : Value} {xs : List α} (h : Vr w0 W g f0 f1 f2 f3 f4) (ho : d.R e W base ok v xs) (ht : e ≠ 73) : some g ≠ v.ownBlock := by
 obtain ⟨A0, c0, A1, c1, A2, c2, A3, c3, A4, c4, hb, hg, hr0, hr1, hr2, hr3, hr4⟩ := h
 exact Kd.R_ne ho hb ht
theorem Vr.lt {w0 W : World} {g : Nat} {f0 : List Int} {f1 : List Int} {f2 : List Int} {f3 : List (S149)} {f4 : List (S77)} (h : Vr w0 W g f0 f1 f2 f3 f4) : g < W.heap.size := by
 obtain ⟨A0, c0, A1, c1, A2, c2, A3, c3, A4, c4, hb, hg, hr0, hr1, hr2, hr3, hr4⟩ := h
 exact Vw hb
theorem Vr.ge {w0 W : World} {g : Nat} {f0 : List Int} {f1 : List Int} {f2 : List Int} {f3 : List (S149)} {f4 : List (S77)} (h : Vr w0 W g f0 f1 f2 f3 f4) : w0.heap.size ≤ g := by
 obtain ⟨A0, c0, A1, c1, A2, c2, A3, c3, A4, c4, hb, hg, hr0, hr1, hr2, hr3, hr4⟩ := h
 exact hg
theorem Vr.ne_blk {w0 W : World} {g : Nat} {f0 : List Int} {f1 : List Int} {f2 : List Int} {f3 : List (S149)} {f4 : List (S77)} {a : Nat} {cs : Array Value} {t : TypeId} {fr : Nat × Nat} (h : Vr w0 W g f0 f1 f2 f3 f4) (hb2 : W.heap[a]? = some (.cells cs t fr)) (ht : t ≠ 73) : g ≠ a := by
 obtain ⟨A0, c0, A1, c1, A2, c2, A3, c3, A4, c4, hb, hg, hr0, hr1, hr2, hr3, hr4⟩ := h
 rintro rfl
 rw [hb] at hb2
 injection hb2 with hb2
 injection hb2 with _ ht2
 exact ht ht2.symm
theorem Vr.far {w0 W : World} {g : Nat} {f0 : List Int} {f1 : List Int} {f2 : List Int} {f3 : List (S149)} {f4 : List (S77)} {p : Addr} (h : Vr w0 W g f0 f1 f2 f3 f4) (hne : g ≠ p.block) (u : Value) : Vr w0 (W.setCell p u) g f0 f1 f2 f3 f4 := by
 obtain ⟨A0, c0, A1, c1, A2, c2, A3, c3, A4, c4, hb, hg, hr0, hr1, hr2, hr3, hr4⟩ := h
 exact ⟨A0, c0, A1, c1, A2, c2, A3, c3, A4, c4, YaX hb hne u, hg, hr0, hr1, hr2, hr3, hr4⟩
theorem Vr.new (w0 W : World) (A0 : Option Addr) (c0 : Nat) (A1 : Option Addr) (c1 : Nat) (A2 : Option Addr) (c2 : Nat) (A3 : Option Addr) (c3 : Nat) (A4 : Option Addr) (c4 : Nat) (f0 : List Int) (f1 : List Int) (f2 : List Int) (f3 : List (S149)) (f4 : List (S77)) (hB : Below w0.heap.size w0 W) (hr0 : Kd.C (Kd.int .i64) w0 A0 f0.length f0) (hr1 : Kd.C (Kd.int .i64) w0 A1 f1.length f1) (hr2 : Kd.C (Kd.int .i64) w0 A2 f2.length f2) (hr3 : Kd.C k149 w0 A3 f3.length f3) (hr4 : Kd.C k77 w0 A4 f4.length f4) : Vr w0 (W.alloc (.cells #[.slice A0 f0.length c0, .slice A1 f1.length c1, .slice A2 f2.length c2, .slice A3 f3.length c3, .slice A4 f4.length c4] 73)) W.heap.size f0 f1 f2 f3 f4 := ⟨A0, c0, A1, c1, A2, c2, A3, c3, A4, c4, (by simpa using heap_alloc_new W _), hB.size, hr0, hr1, hr2, hr3, hr4⟩
def laidT : List (List UInt8 × List Int) := [([105, 102], [20]), ([119, 104, 105, 108, 101], [20]), ([117, 110, 116, 105, 108], [20]), ([101, 108, 115, 101], [19, 178]), ([114, 101, 112, 101, 97, 116], [19, 178]), ([116, 104, 101, 110], [178]), ([98, 101, 103, 105, 110], [177]), ([97, 103, 97, 105, 110], [19]), ([100, 111], [23]), ([63, 100, 111], [24]), ([108, 111, 111, 112], [21]), ([43, 108, 111, 111, 112], [22]), ([108, 101, 97, 118, 101], [27]), ([99, 97, 115, 101], [196]), ([111, 102], [28]), ([101, 110, 100, 111, 102], [198]), ([101, 110, 100, 99, 97, 115, 101], [197])]
theorem qLaid {p : Prop} (x : p := by
 go_enter Try.func75, Try.ntmps75
 go_wp2_with (first | (refine R_ints h rfl rfl ?hr Z6 ?_; (case hr => exact Z2l); intro v w3 ho; clear h))
 go_ret
 exact ⟨_, rfl, ho⟩) : p := x
theorem YeS (s : ByteArray) (l r : List Int) (w : World) (hs : (s.toList, l) ∈ laidT) (h : some l = some r) :
 Calls Try.prog 75 #[.string s] w fun e w' => ∃ v0_ : Value, e = .returned (v0_) ∧ Kd.R (Kd.int .i64) 3 w' w.heap.size (fun _ => True) v0_ r ∧ Below w.heap.size w w' := by
 obtain ⟨⟨d⟩⟩ := s
 simp only [ByteArray.toList_eq, laidT, List.mem_cons, Prod.mk.injEq, List.not_mem_nil, or_false] at hs
 rcases hs with ⟨rfl, rfl⟩ | ⟨rfl, rfl⟩ | ⟨rfl, rfl⟩ | ⟨rfl, rfl⟩ | ⟨rfl, rfl⟩ | ⟨rfl, rfl⟩ | ⟨rfl, rfl⟩ | ⟨rfl, rfl⟩ | ⟨rfl, rfl⟩ | ⟨rfl, rfl⟩ | ⟨rfl, rfl⟩ | ⟨rfl, rfl⟩ | ⟨rfl, rfl⟩ | ⟨rfl, rfl⟩ | ⟨rfl, rfl⟩ | ⟨rfl, rfl⟩ | ⟨rfl, rfl⟩
 all_goals exact qLaid
end Go.Proofs.Ytehmhgpogpbjiaa.PFccTokens
namespace Go.Proofs.Ytehmhgpogpbjiaa.Fcc
open Go.RowKit Go.Proofs.YtehmhgpogpbjiaaW.PrintWords Go.Proofs.YtehmhgpogpbjiaaW.PrintLast Go.Proofs.YtehmhgpogpbjiaaW.PrintMore Go.Proofs.Ytehmhgpogpbjiaa.PFccTokens
set_option maxRecDepth 100000
theorem YdW {s : ByteArray} {x : Int} {l : List Int} (h : Xc.f s = some (x :: l)) (W : World) : Calls Try.prog 70 #[.string s] W fun e W' => ∃ (A : Option Addr) (n c : Nat), e = .returned (.slice A (n + 1) c) ∧ Below W.heap.size W W' := by
 refine (Xc.calls s (x :: l) W h).mono ?_
 rintro e w' ⟨v, rfl, hR, hB⟩
 obtain ⟨A, c, rfl, -, -⟩ := Kd.R_reads hR
 exact ⟨A, l.length, c, rfl, hB⟩
theorem ract_none {s : ByteArray} (h : YS s = false) : Xc.f s = some [] := by
 unfold YS at h
 have h2 := of_decide_eq_false h
 simp only [List.mem_cons, List.not_mem_nil, or_false, not_or] at h2
 obtain ⟨a1, a2, a3, a4, a5, a6, a7, a8, a9, a10, a11, a12, a13, a14, a15, a16, a17⟩ := h2
 unfold Xc.f
 simp only [if_neg a1, if_neg a2, if_neg a3, if_neg a4, if_neg a5, if_neg a6, if_neg a7, if_neg a8, if_neg a9, if_neg a10, if_neg a11, if_neg a12, if_neg a13, if_neg a14, if_neg a15, if_neg a16, if_neg a17]
theorem VJ {s : ByteArray} (h : YS s = false) (W : World) : Calls Try.prog 70 #[.string s] W fun e W' => ∃ (A : Option Addr) (c : Nat), e = .returned (.slice A 0 c) ∧ Below W.heap.size W W' := by
 refine (Xc.calls s [] W (ract_none h)).mono ?_
 rintro e w' ⟨v, rfl, hR, hB⟩
 obtain ⟨A, c, rfl, -, -⟩ := Kd.R_reads hR
 exact ⟨A, c, rfl, hB⟩
theorem rby_ev (s : ByteArray) (h : s.toList ≠ ([58] : List UInt8)) : ∃ k, YH.f k s = some (YJ s) := by
 refine ⟨3, ?_⟩
 unfold YJ YH.f
 rw [if_neg h]
 by_cases h1 : s.toList = ([99, 111, 110, 115, 116, 97, 110, 116] : List UInt8)
 ·rw [if_pos h1, if_pos h1]
 rw [if_neg h1, if_neg h1]
 by_cases h2 : s.toList = ([118, 97, 108, 117, 101] : List UInt8)
 ·rw [if_pos h2, if_pos (.inl h2), h2]; rfl
 rw [if_neg h2]
 by_cases h3 : s.toList = ([105, 110, 115, 116, 97, 110, 99, 101] : List UInt8)
 ·rw [if_pos (.inr h3), h3]; rfl
 rw [if_neg (fun h => h.elim h2 h3)]
 have hb : (s.toList == ([105, 110, 115, 116, 97, 110, 99, 101] : List UInt8)) = false := beq_eq_false_iff_ne.2 h3
 rw [hb]
 simp only [YH.j0, Bool.false_eq_true, if_false]
 by_cases h4 : s.toList = ([118, 97, 114, 105, 97, 98, 108, 101] : List UInt8)
 ·rw [if_pos h4, if_pos h4]
 rw [if_neg h4, if_neg h4]
 by_cases h5 : s.toList = ([100, 101, 102, 101, 114] : List UInt8)
 ·rw [if_pos h5, if_pos h5]
 rw [if_neg h5, if_neg h5]
 by_cases h6 : s.toList = ([98, 117, 102, 102, 101, 114, 58] : List UInt8)
 ·rw [if_pos h6, if_pos h6]
 rw [if_neg h6, if_neg h6]
theorem Ve (s : ByteArray) (h : s.toList ≠ ([58] : List UInt8)) (W : World) : Calls Try.prog 71 #[.string s] W fun e W' => e = .returned (.int .i64 (YJ s)) ∧ Below W.heap.size W W' := by
 obtain ⟨k, hk⟩ := rby_ev s h
 refine (YH.calls k s _ W hk).mono ?_
 rintro e w' ⟨rfl, n, rfl⟩
 exact ⟨rfl, Yn (Below.refl _ _) n⟩
theorem Ydj {s : ByteArray} {l : List Int} (h : (s.toList, l) ∈ laidT) (W : World) : Calls Try.prog 75 #[.string s] W fun e W' => ∃ v, e = .returned v ∧ Kd.R (Kd.int .i64) 3 W' W.heap.size (fun _ => True) v l ∧ Below W.heap.size W W' :=
 YeS s l l W h rfl
section
variable {w : World} {base gk gf : Nat} {T : Tx} {o : Nat → Nat} {vk vf : List Value} {m : Mk}
theorem ropen_yes (h : Rx w base gk gf T o vk vf m) (hw : wt m ≤ 1000000000) (hp : m.origs.length + m.dests.length + m.loops.length + m.cases.length > 0) : Calls Try.prog 72 #[.pointer (some ⟨gf, 0, none⟩)] w fun e w' => e = .returned (.bool true) ∧ Below w.heap.size w w' := by
 obtain ⟨A0, c0, A1, c1, A2, c2, A3, c3, A4, c4, rfl⟩ := h.fc
 obtain ⟨-, l0, l1, l2, -, l3, -⟩ := Xf hw
 have k0 := h.f.cell 0 rfl
 have k1 := h.f.cell 1 rfl
 have k2 := h.f.cell 2 rfl
 have k3 := h.f.cell 3 rfl
 clear h hw
 generalize m.origs.length = a at *
 generalize m.dests.length = b at *
 generalize m.loops.length = c at *
 generalize m.cases.length = d at *
 have hd : decide ((0 : Int) < (a : Int) + b + c + d) = true := decide_eq_true Z0
 have hd2 : decide (0 < a + b + c + d) = true := decide_eq_true Z0
 go_enter Try.func72, Try.ntmps72
 go_wp2_with fail
 go_quiet (fail)
 go_wp2_with fail
 exact bodyPost_ret (v := .bool true) (by simp [results, Try.results72, go_sem] <;> omega) rfl ⟨rfl, Yn (Below.refl _ _) _⟩
theorem ropen_no (h : Rx w base gk gf T o vk vf m) (hp : ¬ m.origs.length + m.dests.length + m.loops.length + m.cases.length > 0) : Calls Try.prog 72 #[.pointer (some ⟨gf, 0, none⟩)] w fun e w' => e = .returned (.bool false) ∧ Below w.heap.size w w' := by
 obtain ⟨A0, c0, A1, c1, A2, c2, A3, c3, A4, c4, rfl⟩ := h.fc
 have k0 := h.f.cell 0 rfl
 have k1 := h.f.cell 1 rfl
 have k2 := h.f.cell 2 rfl
 have k3 := h.f.cell 3 rfl
 have e0 : m.origs.length = 0 := by omega
 have e1 : m.dests.length = 0 := by omega
 have e2 : m.loops.length = 0 := by omega
 have e3 : m.cases.length = 0 := by omega
 rw [e0] at k0
 rw [e1] at k1
 rw [e2] at k2
 rw [e3] at k3
 clear h e0 e1 e2 e3 hp
 go_enter Try.func72, Try.ntmps72
 go_wp2_with fail
 go_quiet (fail)
 go_wp2_with fail
 exact bodyPost_ret (v := .bool false) (by simp [results, Try.results72, go_sem]) rfl ⟨rfl, Yn (Below.refl _ _) _⟩
end
def Vk (base gk gf : Nat) (T : Tx) (m : Mk) (r : Option Res) (w : World) (e : Ending) (w' : World) : Prop :=
 Below base w w' ∧ match r with
  | none => e = .returned (.tuple #[.int .i64 0, .bool false]) ∧ ∃ o vk vf, Rx w' base gk gf T o vk vf m
  | some (.inl m') => e = .returned (.tuple #[.int .i64 0, .bool true]) ∧ ∃ o vk vf, Rx w' base gk gf T o vk vf m'
  | some (.inr c) => e = .returned (.tuple #[.int .i64 c, .bool true])
abbrev bare (L : List S59 × Option (Nat × Array Value × Nat)) : Tx := ⟨L.1, .slice none 0 0, [], L.2⟩
def BackW (s : ByteArray) (b : Bool) : Prop :=
 ((s.toList == ([97, 103, 97, 105, 110] : List UInt8)) = true ∧ b = true) ∨ ((s.toList == ([97, 103, 97, 105, 110] : List UInt8)) = false ∧ (s.toList == ([117, 110, 116, 105, 108] : List UInt8)) = true ∧ b = true) ∨
 ((s.toList == ([97, 103, 97, 105, 110] : List UInt8)) = false ∧ (s.toList == ([117, 110, 116, 105, 108] : List UInt8)) = false ∧ (s.toList == ([114, 101, 112, 101, 97, 116] : List UInt8)) = true ∧ b = true) ∨
 ((s.toList == ([97, 103, 97, 105, 110] : List UInt8)) = false ∧ (s.toList == ([117, 110, 116, 105, 108] : List UInt8)) = false ∧ (s.toList == ([114, 101, 112, 101, 97, 116] : List UInt8)) = false ∧ b = false)
def tabP (codes : List Int) (b : Bool) (m : Mk) : Res := match runP codes b m with
 | none => .inr 13
 | some m' => .inl m'
structure TabW (s : ByteArray) : Prop where
 t58 : (s.toList == ([58] : List UInt8)) = false
 t39 : (s.toList == ([39] : List UInt8)) = false
 t59 : (s.toList == ([59] : List UInt8)) = false
 tex : (s.toList == ([101, 120, 105, 116] : List UInt8)) = false
 tbr : (s.toList == ([91, 39, 93] : List UInt8)) = false
 tto : (s.toList == ([116, 111] : List UInt8)) = false
 mk0 : YJ s = 0
section
variable {w : World} {base gm gf : Nat} {L : List S59 × Option (Nat × Array Value × Nat)} {o : Nat → Nat} {vk vf : List Value} {m : Mk} {s : ByteArray} {a : Int} {acts : List Int}
theorem YbA (h : Rx w base gm gf (bare L) o vk vf m) (ho : m.opn = false) (hs : TabW s) (ha : Xc.f s = some (a :: acts)) :
 Calls Try.prog 46 #[.pointer (some ⟨gm, 0, none⟩), .pointer (some ⟨gf, 0, none⟩), .string s] w (Vk base gm gf (bare L) m (some (.inr 13)) w) := by
 have hA := Aside0.mk (fun W => YdW ha W)
 have hY := Aside0.mk (fun W => Ve s (by have := hs.t58; exact beq_eq_false_iff_ne.1 this) W)
 rw [hs.mk0] at hY
 obtain ⟨t58, t39, t59, tex, tbr, tto, -⟩ := hs
 have hX := Aside0.mk h
 clear h ha
 go_enter Try.func46, Try.ntmps46
 go_wp2_with fail
 refine (hA.out _).mono ?_
 rintro e w1 ⟨A, n, c, rfl, hB1⟩
 have p0 : ((0 : Int) < (n : Int) + 1) = True := eq_true Z0
 go_wp2_with fail
 refine (hY.out _).mono ?_
 rintro e w2 ⟨rfl, hB2⟩
 have h2 := (hX.out.below hB1).below hB2
 have hB3 := Aside0.mk (Below.mono (hB1.trans (hB2.mono hB1.size)) hX.out.k.base_le)
 obtain ⟨A0, c0, A2, c2, A3, c3, A4, c4, u9, u10, u11, u12, u13, u14, u15, rfl⟩ := h2.kc
 have k6 := h2.k.cell 6 rfl
 rw [ho] at k6
 clear h2 hB1 hB2
 go_wp2_with fail
 exact ZW
set_option maxHeartbeats 16000000 in
theorem YbB (h : Rx w base gm gf (bare L) o vk vf m) (hw : wt m ≤ 900000000) (ho : m.opn = true) (hs : TabW s) (ha : Xc.f s = some (a :: acts)) {codes : List Int} (hl : (s.toList, codes) ∈ laidT) (hlc : codes.length ≤ 2) (hcs : ∀ c ∈ codes, c ∈ laidC) {b : Bool} (hb : BackW s b) :
 Calls Try.prog 46 #[.pointer (some ⟨gm, 0, none⟩), .pointer (some ⟨gf, 0, none⟩), .string s] w (Vk base gm gf (bare L) m (some (tabP codes b m)) w) := by
 have hA := Aside0.mk (fun W => YdW ha W)
 have hY := Aside0.mk (fun W => Ve s (by have := hs.t58; exact beq_eq_false_iff_ne.1 this) W)
 have hL := Aside0.mk (fun W => Ydj hl W)
 rw [hs.mk0] at hY
 obtain ⟨t58, t39, t59, tex, tbr, tto, -⟩ := hs
 have hX := Aside0.mk h
 obtain ⟨r, hr⟩ : ∃ r, runP codes b m = r := ⟨_, rfl⟩
 have hcs' := Aside0.mk hcs
 have hr' := Aside0.mk hr
 clear h ha hl hcs hr
 unfold BackW at hb
 rcases hb with ⟨ta, hbe⟩ | ⟨ta, tu, hbe⟩ | ⟨ta, tu, tr, hbe⟩ | ⟨ta, tu, tr, hbe⟩
 all_goals
  replace hbe := Aside0.mk hbe
  go_enter Try.func46, Try.ntmps46
  go_wp2_with fail
  refine (hA.out _).mono ?_
  rintro e w1 ⟨A, n, c, rfl, hB1⟩
  have p0 : ((0 : Int) < (n : Int) + 1) = True := eq_true Z0
  go_wp2_with fail
  refine (hY.out _).mono ?_
  rintro e w2 ⟨rfl, hB2⟩
  have h2 := (hX.out.below hB1).below hB2
  have hB3 := Aside0.mk (Below.mono (hB1.trans (hB2.mono hB1.size)) hX.out.k.base_le)
  obtain ⟨A0, c0, A2, c2, A3, c3, A4, c4, u9, u10, u11, u12, u13, u14, u15, rfl⟩ := h2.kc
  have k6 := h2.k.cell 6 rfl
  rw [ho] at k6
  replace h2 := Aside0.mk h2
  clear hB1 hB2
  go_wp2_with fail
  refine (hL.out _).mono ?_
  rintro e w3 ⟨v, rfl, hR, hB4⟩
  obtain ⟨A8, c8, rfl, -, -⟩ := Kd.R_reads hR
  have h3 := Aside0.mk (h2.out.guest hB4 hR)
  have hB5 := Aside0.mk (hB3.out.trans (Below.mono hB4 h2.out.k.base_le))
  clear hR hB4 k6 h2 hB3
  go_wp2_with fail
  go_loopg [14] codes.length (fun gg s14 wr => ∃ (kk : Nat) (mk : Mk) (o1 : Nat → Nat) (vk1 vf1 : List Value), kk ≤ codes.length ∧ codes.length - kk ≤ gg ∧ s14 = .int .i64 kk ∧ wt mk ≤ 900000000 + 3 * kk ∧ Aside0 (runP (codes.drop kk) b mk = r) ∧ Aside0 (Below base w wr) ∧ Aside0 (Rx wr base gm gf ⟨L.1, .slice A8 codes.length c8, codes, L.2⟩ o1 vk1 vf1 mk))
  case atStart => exact ⟨0, m, _, _, vf, Nat.zero_le _, Z0, rfl, Z0, ⟨(by rw [List.drop_zero]; exact hr'.out)⟩, hB5, h3⟩
  case round =>
   obtain ⟨kk, mk, o1, vk1, vf1, hk1, hg, rfl, hwk, HR, HB, HM⟩ := hrel
   by_cases hlt : kk < codes.length
   ·have hltz : (kk : Int) < (codes.length : Int) := by omega
    obtain ⟨-, -, hC⟩ := Kd.R_reads' HM.out.beside
    obtain ⟨ad, e, g0⟩ := Kd.at_int hC (kk : Int) Z0 hltz
    cases e
    have hrd : rd codes (kk : Int) = codes[kk]'hlt := by simp [rd, List.getD_eq_getElem?_getD, hlt]
    rw [hrd, Int.toNat_natCast] at g0
    have hin := hcs'.out _ (List.getElem_mem hlt)
    have hdr : codes.drop kk = codes[kk]'hlt :: codes.drop (kk + 1) := List.drop_eq_getElem_cons hlt
    have hR0 := HR.out
    rw [hdr] at hR0
    have hgk := Aside0.mk (show codes.length - (kk + 1) < gk ∧ kk + 1 ≤ codes.length ∧ wt mk ≤ 1000000000 by omega)
    clear hdr hC hg HR
    generalize codes[kk]'hlt = cc at g0 hin hR0 hrd
    have hcd := Aside0.mk hrd
    clear hrd
    replace hR0 := Aside0.mk hR0
    obtain ⟨A0, c0, A2, c2, A3, c3, A4, c4, u9, u10, u11, u12, u13, u14, u15, rfl⟩ := HM.out.kc
    have k2 := HM.out.k.cell 2 rfl
    go_upto_region 40 with (fail)
    have hBd : Below wr.heap.size wr wr.drew := YM (Below.refl _ _)
    have h5 := HM.out.below hBd
    have hB6 := Aside0.mk (HB.out.trans (Below.mono hBd HM.out.k.base_le))
    refine VS (ds := [11]) (S := fun w' => w'.cell? ⟨gm, 2, none⟩ = some (.slice A2 mk.out.length c2) ∧ w'.cell? (ad.add kk) = some (.int .i64 cc)) Z2 rfl rfl ⟨k2, g0⟩ (fun tb hS => ?_)
    generalize wr.drew = wd at h5 hB6 hS ⊢
    replace h5 := Aside0.mk h5
    clear k2 g0 hBd HM HB
    refine seg_ [(0, 136), (1, 137), (2, 138), (3, 139), (4, 140), (5, 141), (6, 142), (7, 143), (8, 144), (9, 145), (10, 146)] tb hS Z2 (fun _ _ _ _ h => h) (a' := ?_) ?_ ?_
    rotate_left
    ·repeat (first | exact Seg.nil | (refine Seg.on (v := ?_) (a1 := ?_) rfl rfl Z4 ?_ ?_ ?_; rotate_left 2; (rintro w' hS; go_split_ands; go_simp; with_reducible rfl); (simp only [Act.put, List.setIfInBounds_toArray, List.set_cons_zero, List.set_cons_succ, Yy, YA]; rfl)))
    refine UI 11 tb rfl Z2 ?_
    go_wp2_with fail
    refine (rdo_any h5.out hgk.out.2.2 cc hin _ _).mono ?_
    rintro e w5 ⟨hB7, hD⟩
    have hB8 := Aside0.mk (hB6.out.trans hB7)
    have hkl := Xf (show wt mk ≤ 1000000000 by omega)
    split at hD
    ·rename_i m1 heq
     obtain ⟨rfl, o6, vk6, vf6, h6⟩ := hD
     have hdo : doP mk cc mk.at_ b = some m1 := by rw [hbe.out]; exact heq
     have hwt := doP_wt hdo
     have hR1 : runP (codes.drop (kk + 1)) b (m1.add cc) = r := by
      have := hR0.out
      unfold runP at this
      rw [hdo] at this
      exact this
     obtain ⟨-, -, hC6⟩ := Kd.R_reads' h6.beside
     obtain ⟨ad', e, g6⟩ := Kd.at_int hC6 (kk : Int) Z0 hltz
     cases e
     have hrd : rd codes (kk : Int) = cc := hcd.out
     rw [hrd, Int.toNat_natCast] at g6
     have hol : m1.out.length < 1099511627776 := by rw [hwt.2.1]; omega
     have hwa : wt (m1.add cc) ≤ 900000000 + 3 * (kk + 1) := by
      have : wt (m1.add cc) = wt m1 + 1 := by simp [wt, Mk.add]; omega
      omega
     replace hR1 := Aside0.mk hR1
     replace hwa := Aside0.mk hwa
     replace hol := Aside0.mk hol
     replace h6 := Aside0.mk h6
     clear hC6 hrd heq hdo hwt hB7 hS h5 hB6 hkl
     go_wp2_with fail
     refine ql_ ?_
     refine sega_ [(12, 148)] tb Z2 (fun _ _ _ _ h => h) (a' := ?_) ?_ ?_
     rotate_left
     ·repeat (first | exact Seg.nil | (refine Seg.on (v := ?_) (a1 := ?_) rfl rfl Z4 ?_ ?_ ?_; rotate_left 2; (rintro w' hS; go_simp; with_reducible rfl); (simp only [Act.put, List.setIfInBounds_toArray, List.set_cons_zero, List.set_cons_succ, Yy, YA]; rfl)))
     refine end_ tb Z2 ?_
     go_wp2_with fail
     refine (Xl h6.out cc 0 ⟨#[]⟩ hol.out).mono ?_
     rintro e w7 ⟨rfl, hB9, o7, vk7, vf7, h7⟩
     have hB10 := Aside0.mk (hB8.out.trans hB9)
     replace h7 := Aside0.mk h7
     clear hB9
     go_wp2_with fail
     go_roundg (codes.length - (kk + 1))
     case measure => exact hgk.out.1
     case rel => exact ⟨kk + 1, m1.add cc, o7, vk7, vf7, hgk.out.2.1, Nat.le_refl _, ZE, hwa.out, hR1, hB10, h7⟩
    ·rename_i heq
     obtain rfl := hD
     have hdo : doP mk cc mk.at_ b = none := by rw [hbe.out]; exact heq
     have hR1 : none = r := by
      have := hR0.out
      unfold runP at this
      rw [hdo] at this
      exact this
     have hres := Aside0.mk (show tabP codes b m = .inr 13 by unfold tabP; rw [hr'.out, ← hR1])
     clear hR1 hdo heq hkl h5 hB6 hB7 hS
     go_wp2_with fail
     refine ql_ ?_
     refine sega_ [(12, 148)] tb Z2 (fun _ _ _ _ h => h) (a' := ?_) ?_ ?_
     rotate_left
     ·repeat (first | exact Seg.nil | (refine Seg.on (v := ?_) (a1 := ?_) rfl rfl Z4 ?_ ?_ ?_; rotate_left 2; (rintro w' hS; go_simp; with_reducible rfl); (simp only [Act.put, List.setIfInBounds_toArray, List.set_cons_zero, List.set_cons_succ, Yy, YA]; rfl)))
     refine end_ tb Z2 ?_
     go_wp2_with fail
     exact bodyPost_ret (v := .tuple #[.int .i64 13, .bool true]) Zg rfl (by rw [hres.out]; exact ⟨hB8.out, rfl⟩)
   ·have hkk2 : kk = codes.length := by omega
    subst hkk2
    have hR1 := HR.out
    rw [List.drop_length] at hR1
    have hR2 : some mk = r := hR1
    have hres := Aside0.mk (show tabP codes b m = .inl mk by unfold tabP; rw [hr'.out, ← hR2])
    have h9 := Aside0.mk HM.out.alone
    have hz : ¬ (codes.length : Int) < (codes.length : Int) := by omega
    clear hR1 hR2 HR HM
    go_wp2_with fail
    exact bodyPost_ret (v := .tuple #[.int .i64 0, .bool true]) Zg rfl (by rw [hres.out]; exact ⟨HB.out, rfl, _, _, _, h9.out⟩)
end
end Go.Proofs.Ytehmhgpogpbjiaa.Fcc
