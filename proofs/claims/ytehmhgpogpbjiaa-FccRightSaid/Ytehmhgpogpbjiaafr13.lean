import Derived.Test.Ytehmhgpogpbjiaafr12
import Derived.Maps.Own
set_option linter.unusedVariables false
set_option linter.unusedSimpArgs false
set_option maxRecDepth 100000
set_option maxHeartbeats 8000000
namespace Go.Proofs.Ytehmhgpogpbjiaa
open Go.RowKit Go.Proofs.YtehmhgpogpbjiaaW.PrintWords Go.Proofs.YtehmhgpogpbjiaaW.PrintLast Go.Proofs.YtehmhgpogpbjiaaW.PrintMore Go.Proofs.Ytehmhgpogpbjiaa.PFccTokens
theorem mn_left {a b : Int} (h : a ≤ b) : mn a b = a := by unfold mn; omega
def JD (s : ByteArray) (c : UInt8) (l : List UInt8) : Int := match upL c l with | some (t, r) => pos s (c :: r) | none => s.size
theorem YbF (s : ByteArray) (hs : s.size ≤ 4096) (c : UInt8) : ∀ l : List UInt8, l <:+ s.data.toList → Ev (fun k => Yl.f k s (pos s l) (c.toNat : Int)) (JD s c l)
 | [], hl => by
   refine Ev.step (f := fun k => Yl.l0 (k + 1) _ _ _) (fun k => rfl) ?_
   simp only [Yl.l0, XX, Int.lt_irrefl, ↓reduceIte, mn_left (Int.le_refl _)]
   exact Ev.now _
 | b :: r, hl => by
   refine Ev.step (f := fun k => Yl.l0 (k + 1) _ _ _) (fun k => rfl) ?_
   simp only [Yl.l0, Xq, Xg hl, ↓reduceIte, Vr hl, YX hs hl]
   by_cases e : b = c
   ·subst e
    have h1 : JD s b (b :: r) = pos s (b :: r) := by unfold JD upL; rw [if_pos rfl]
    simp only [↓reduceIte, h1, mn_left (Vi s (b :: r))]
    exact Ev.now _
   ·have h1 : ¬ (((b.toNat : Nat) : Int) = (c.toNat : Int)) := fun h => e (UInt8.toNat_inj.1 Z0)
    simp only [h1, ↓reduceIte]
    have h2 : JD s c (b :: r) = JD s c r := by
     unfold JD
     conv => lhs; unfold upL
     rw [if_neg e]
     cases upL c r with
     | none => rfl
     | some p => rfl
    rw [h2]
    exact YbF s hs c r (XB hl)
theorem VO {s : ByteArray} {c : UInt8} {l t r : List UInt8} (h : upL c l = some (t, r)) : JD s c l = pos s (c :: r) := by unfold JD; rw [h]
theorem Ur {s : ByteArray} {c : UInt8} {l : List UInt8} (h : upL c l = none) : JD s c l = s.size := by unfold JD; rw [h]
theorem Uz {s : ByteArray} {b : UInt8} {r : List UInt8} (h : (b :: r) <:+ s.data.toList) : Xb.f s (pos s (b :: r)) = some (isB b) := by
 unfold Xb.f
 rw [if_pos (Xg h), if_pos Xq, if_pos (Xg h), Vr h, YcN]
theorem Ya7 (w : List UInt8) : YI.f (byt w) = some (decide (VX w)) := by
 have := Yan w
 unfold XW.f at this
 unfold YI.f
 rw [← this]
 by_cases h : (byt w).toList = [46, 34]
 ·simp [h]
 ·simp [h]
  have h2 : ((byt w).toList == [46, 34]) = false := by simpa using h
  rw [h2]
theorem rsmall1 (b : UInt8) : YB.f (b.toNat : Int) = some (((Uf b).toNat : Nat) : Int) := by
 have key : ∀ n : Fin 256, YB.f (n.val : Int) = some (((Uf (UInt8.ofNat n.val)).toNat : Nat) : Int) := by decide +kernel
 have := key ⟨b.toNat, UInt8.toNat_lt b⟩
 simpa using this
theorem Yb0 (s : ByteArray) (hs : s.size ≤ 4096) : ∀ (m acc : List UInt8), m <:+ s.data.toList → acc.length + m.length ≤ 100000 →
 Ev (fun k => Ys.l0 k s (ints acc) (pos s m)) (byt (acc ++ m.map Uf))
 | [], acc, hm, hb => by
   refine Ev.step (f := fun k => Ys.l0 (k + 1) _ _ _) (fun k => rfl) ?_
   simp only [Ys.l0, XX, Int.lt_irrefl, ↓reduceIte, Jl, List.map_nil, List.append_nil]
   exact Ev.now _
 | b :: m, acc, hm, hb => by
   have h1 : (ints acc).length < 140737488355328 := by rw [XY]; simp at hb; omega
   refine Ev.step (f := fun k => Ys.l0 (k + 1) _ _ _) (fun k => rfl) ?_
   simp only [Ys.l0, Xq, Xg hm, ↓reduceIte, Vr hm, rsmall1, Option.bind_some, h1, YX hs hm]
   have ih := Yb0 s hs m (acc ++ [Uf b]) (XB hm) (by simp at hb ⊢; omega)
   have e1 : ints (acc ++ [Uf b]) = ints acc ++ [((Uf b).toNat : Int)] := by simp [ints]
   rw [e1] at ih
   have e2 : acc ++ [Uf b] ++ m.map Uf = acc ++ (b :: m).map Uf := by simp
   rw [e2] at ih
   exact ih
theorem rsmall_f (w : List UInt8) (h : w.length ≤ 4096) : Ev (fun k => Ys.f k (byt w)) (byt (w.map Uf)) := by
 have := Yb0 (byt w) (by rw [byt_size]; exact h) w [] Z1h Zj
 have hp : pos (byt w) w = 0 := by unfold pos; rw [byt_size]; omega
 rw [hp] at this
 exact this
theorem YdK : ∀ n : Fin 256, Yi.f 20 (n.val : Int) 16 = some (valO (UInt8.ofNat n.val)) := by decide +kernel
theorem rvalue_ev (b : UInt8) : Ev (fun k => Yi.f k (b.toNat : Int) 16) (valO b) := by
 refine Ev.of (Yi.mono _ _) (k := 20) ?_
 have := YdK ⟨b.toNat, UInt8.toNat_lt b⟩
 simpa using this
def oddB : Option Nat → Bool
 | none => false
 | some _ => true
theorem Jv (s : ByteArray) (hs : s.size ≤ 4096) : ∀ (m : List UInt8) (h : Option Nat) (n : Int) (acc : List UInt8), m <:+ s.data.toList → (∀ u, h = some u → u < 16 ∧ n = u) → acc.length + m.length ≤ 100000 →
 (∀ y, hexL m h = some y → Ev (fun k => Yj.l0 k s (ints acc) n (oddB h) (pos s m)) (ints (acc ++ y), true)) ∧
 (hexL m h = none → ∃ z, Ev (fun k => Yj.l0 k s (ints acc) n (oddB h) (pos s m)) (z, false))
 | [], h, n, acc, hm, hu, hl => by
   have e : ∀ k, Yj.l0 (k + 1) s (ints acc) n (oddB h) (pos s []) = some (ints acc, !oddB h) := fun k => by
    simp only [Yj.l0, XX, Int.lt_irrefl, ↓reduceIte]
   cases h with
   | none =>
     refine ⟨fun y hy => ?_, fun hn => by cases hn⟩
     injection hy with hy
     subst hy
     rw [List.append_nil]
     exact Ev.step e (Ev.now _)
   | some u => exact Z2h
 | b :: m, h, n, acc, hm, hu, hl => by
   have hl2 : acc.length + m.length ≤ 100000 := by simp at hl; omega
   have hble : decide (((b.toNat : Nat) : Int) ≤ 32) = isB b := YcN b
   cases hb : isB b with
   | true =>
     rw [hb] at hble
     have hb2 := of_decide_eq_true hble
     have ih := Jv s hs m h n acc (XB hm) hu hl2
     have e : ∀ k, Yj.l0 (k + 1) s (ints acc) n (oddB h) (pos s (b :: m)) = Yj.l0 k s (ints acc) n (oddB h) (pos s m) := fun k => by
      simp only [Yj.l0, Xq, Xg hm, ↓reduceIte, Vr hm, hb2, YX hs hm]
     have e2 : hexL (b :: m) h = hexL m h := by
      conv => lhs; unfold hexL
      rw [hb]; rfl
     rw [e2]
     exact Z2i
   | false =>
     rw [hb] at hble
     have hb2 := of_decide_eq_false hble
     have hv := rvalue_ev b
     cases hh : hexv b with
     | none =>
       have e2 : hexL (b :: m) h = none := by
        conv => lhs; unfold hexL
        rw [hb, hh]
        rfl
       rw [e2]
       refine ⟨fun y hy => (nomatch hy), fun _ => ⟨[], ?_⟩⟩
       have e3 : valO b = (0, false) := by unfold valO; rw [hh]
       rw [e3] at hv
       refine Ev.step (f := fun k => Yj.l0 (k + 1) _ _ _ _ _) (fun k => rfl) ?_
       simp only [Yj.l0, Xq, Xg hm, ↓reduceIte, Vr hm, hb2, YX hs hm]
       refine Ev.bind hv ?_
       simp only [Bool.false_eq_true, ↓reduceIte]
       exact Ev.now _
     | some v =>
       have e3 : valO b = ((v : Int), true) := by unfold valO; rw [hh]
       rw [e3] at hv
       have hv16 := hexv_lt hh
       cases h with
       | none =>
         have ih := Jv s hs m (some v) v acc (XB hm) (fun u e => by injection e with e; subst e; exact ⟨hv16, rfl⟩) hl2
         have e2 : hexL (b :: m) none = hexL m (some v) := by
          conv => lhs; unfold hexL
          rw [hb, hh]; rfl
         rw [e2]
         have st : ∀ r, Ev (fun k => Yj.l0 k s (ints acc) v (oddB (some v)) (pos s m)) r → Ev (fun k => Yj.l0 k s (ints acc) n (oddB none) (pos s (b :: m))) r := by
          intro r hr
          refine Ev.step (f := fun k => Yj.l0 (k + 1) _ _ _ _ _) (fun k => rfl) ?_
          simp only [Yj.l0, Xq, Xg hm, ↓reduceIte, Vr hm, hb2, YX hs hm]
          refine Ev.bind hv ?_
          simpa [oddB] using hr
         exact Z2j
       | some u =>
         obtain ⟨hu16, rfl⟩ := hu u rfl
         have hw : ((((u : Int) * 16) % 4294967296 + v) % 4294967296) % 256 = (u : Int) * 16 + v := by omega
         have hw2 : ((UInt8.ofNat (u * 16 + v)).toNat : Int) = (u : Int) * 16 + v := by simp; omega
         have ih := Jv s hs m none v (acc ++ [UInt8.ofNat (u * 16 + v)]) (XB hm) (fun u e => nomatch e) (by simp; simp at hl; omega)
         have e2 : hexL (b :: m) (some u) = (hexL m none).map fun r => UInt8.ofNat (u * 16 + v) :: r := by
          conv => lhs; unfold hexL
          rw [hb, hh]; rfl
         rw [e2]
         have st : ∀ r, Ev (fun k => Yj.l0 k s (ints (acc ++ [UInt8.ofNat (u * 16 + v)])) v (oddB none) (pos s m)) r → Ev (fun k => Yj.l0 k s (ints acc) u (oddB (some u)) (pos s (b :: m))) r := by
          intro r hr
          refine Ev.step (f := fun k => Yj.l0 (k + 1) _ _ _ _ _) (fun k => rfl) ?_
          simp only [Yj.l0, Xq, Xg hm, ↓reduceIte, Vr hm, hb2, YX hs hm]
          refine Ev.bind hv ?_
          have h9 : (ints acc).length < 140737488355328 := by rw [XY]; omega
          have e7 : ints (acc ++ [UInt8.ofNat (u * 16 + v)]) = ints acc ++ [(u : Int) * 16 + v] := by rw [← hw2]; simp [ints]
          rw [e7] at hr
          simp only [oddB, ↓reduceIte, h9, hw, Bool.not_true]
          exact hr
         refine ⟨fun y hy => ?_, fun hn => ?_⟩
         ·cases hq : hexL m none with
          | none => rw [hq] at hy; cases hy
          | some q =>
            rw [hq] at hy
            injection hy with hy
            subst hy
            have := st _ (ih.1 q hq)
            rwa [show acc ++ [UInt8.ofNat (u * 16 + v)] ++ q = acc ++ UInt8.ofNat (u * 16 + v) :: q by simp] at this
         ·cases hq : hexL m none with
          | none => obtain ⟨z, hz⟩ := ih.2 hq; exact ⟨z, st _ hz⟩
          | some q => rw [hq] at hn; cases hn
theorem Ydu (x : List UInt8) (h : x.length ≤ 4096) :
 (∀ y, hexL x none = some y → Ev (fun k => Yj.f k (byt x)) (ints y, true)) ∧ (hexL x none = none → ∃ z, Ev (fun k => Yj.f k (byt x)) (z, false)) := by
 have := Jv (byt x) (by rw [byt_size]; exact h) x none 0 [] Z1h (fun u e => nomatch e) Zj
 have hp : pos (byt x) x = 0 := by unfold pos; rw [byt_size]; omega
 rw [hp] at this
 exact this
theorem next34 {s : ByteArray} (hs : s.size ≤ 4096) {l : List UInt8} (hl : l <:+ s.data.toList) : Ev (fun k => Yl.f k s (pos s l) 34) (JD s 34 l) := YbF s hs 34 l hl
theorem JV {s : ByteArray} (hs : s.size ≤ 4096) {l : List UInt8} (hl : l <:+ s.data.toList) : Ev (fun k => Yl.f k s (pos s l) 41) (JD s 41 l) := YbF s hs 41 l hl
theorem next10 {s : ByteArray} (hs : s.size ≤ 4096) {l : List UInt8} (hl : l <:+ s.data.toList) : Ev (fun k => Yl.f k s (pos s l) 10) (JD s 10 l) := YbF s hs 10 l hl
theorem UB {s : ByteArray} {c : UInt8} {l t r : List UInt8} (hl : l <:+ s.data.toList) (hu : upL c l = some (t, r)) : (t ++ c :: r) <:+ s.data.toList := by rw [← (US hu).1]; exact hl
theorem up_pos {s : ByteArray} {c : UInt8} {l t r : List UInt8} (hu : upL c l = some (t, r)) : pos s l = pos s (t ++ c :: r) := by rw [← (US hu).1]
theorem Yds {s : ByteArray} {c : UInt8} {l t r : List UInt8} (hl : l <:+ s.data.toList) (hu : upL c l = some (t, r)) : s.extract (pos s l).toNat (pos s (c :: r)).toNat = byt t := by
 rw [up_pos hu]; exact UL (UB hl hu)
theorem up_le {s : ByteArray} {c : UInt8} {l t r : List UInt8} (hu : upL c l = some (t, r)) : pos s l ≤ pos s (c :: r) := by rw [up_pos hu]; exact Ybv
theorem YbG (x r : List UInt8) : (255 < x.length → limL x r = (3, [], r)) ∧ (¬ 255 < x.length → limL x r = (0, x, r)) := by
 unfold limL
 exact ⟨fun h => by rw [if_pos Z0], fun h => by rw [if_neg Z0]⟩
theorem JU (s : ByteArray) (hs : s.size ≤ 4096) {acc l t r : List UInt8} (hl : l <:+ s.data.toList) (hb : acc.length + l.length ≤ 100000) (hu : upL 34 l = some (t, r)) {R : ByteArray × Int × Int}
 (h : Ev (fun k => if pos s r < (s.size : Int) then (if 0 ≤ pos s r then Yb.j1 k s (ints (acc ++ t)) (pos s (34 :: r)) (bt s (pos s r) == 40) else none) else Yb.j1 k s (ints (acc ++ t)) (pos s (34 :: r)) false) R) :
 Ev (fun k => Yb.l0 k s (pos s l) (ints acc)) R := by
 have h34 : (34 :: r) <:+ s.data.toList := VF (UB hl hu)
 have hlen := Xd hu
 have h1 : (ints acc).length + (byt t).size < 140737488355328 := by rw [XY, byt_size]; omega
 refine Ev.step (f := fun k => Yb.l0 (k + 1) _ _ _) (fun k => rfl) ?_
 simp only [Yb.l0]
 refine Ev.bind (next34 hs hl) ?_
 simp only [VO hu, Up, ↓reduceIte, Xg hl, up_le hu, Vi, Yds hl hu, h1, Vz, ← Ui, Option.bind_some, YX hs h34]
 exact h
theorem Ya8 (s : ByteArray) (hs : s.size ≤ 4096) {acc l : List UInt8} {e : Int} {t r : List UInt8} (h : UD acc l e t r) :
 l <:+ s.data.toList → acc.length + l.length ≤ 100000 → ∃ p, Ev (fun k => Yb.l0 k s (pos s l) (ints acc)) (byt t, p, e) ∧ (e = 0 → p = pos s r) := by
 induction h with
 | @none acc l hu =>
   intro hl hb
   refine ⟨0, Ev.step (f := fun k => Yb.l0 (k + 1) _ _ _) (fun k => rfl) ?_, fun h => by cases h⟩
   simp only [Yb.l0]
   refine Ev.bind (next34 hs hl) ?_
   simp only [Ur hu, ↓reduceIte]
   exact Ev.now _
 | @fin acc l t hu =>
   intro hl hb
   have h34 : (34 :: []) <:+ s.data.toList := VF (UB hl hu)
   by_cases ht : 255 < (acc ++ t).length
   ·rw [(YbG _ _).1 ht]
    have ht2 : ((ints (acc ++ t)).length : Int) > 255 := by rw [XY]; omega
    refine ⟨0, JU s hs hl hb hu ?_, fun h => by cases h⟩
    simp only [XX, Int.lt_irrefl, ↓reduceIte]
    refine Ev.step (f := fun k => Yb.j1 (k + 1) _ _ _ _) (fun k => rfl) ?_
    simp only [Yb.j1, Bool.false_eq_true, ↓reduceIte, YX hs h34, XX, Int.lt_irrefl]
    refine Ev.step (f := fun k => Yb.j2 (k + 1) _ _ _) (fun k => rfl) ?_
    simp only [Yb.j2, Bool.false_eq_true, ↓reduceIte, ht2]
    exact Ev.now _
   ·rw [(YbG _ _).2 ht]
    have ht2 : ¬ ((ints (acc ++ t)).length : Int) > 255 := by rw [XY]; omega
    refine ⟨pos s [], JU s hs hl hb hu ?_, fun _ => rfl⟩
    simp only [XX, Int.lt_irrefl, ↓reduceIte]
    refine Ev.step (f := fun k => Yb.j1 (k + 1) _ _ _ _) (fun k => rfl) ?_
    simp only [Yb.j1, Bool.false_eq_true, ↓reduceIte, YX hs h34, XX, Int.lt_irrefl]
    refine Ev.step (f := fun k => Yb.j2 (k + 1) _ _ _) (fun k => rfl) ?_
    simp only [Yb.j2, Bool.false_eq_true, ↓reduceIte, ht2, Jl, YX hs h34, XX]
    exact Ev.now _
 | @blank acc l t r b hu hb0 =>
   intro hl hb
   have h34 : (34 :: b :: r) <:+ s.data.toList := VF (UB hl hu)
   have hbr := XB h34
   have h40 : (((b.toNat : Nat) : Int) == 40) = false := by
    have : b.toNat ≤ 32 := of_decide_eq_true hb0
    simp; omega
   by_cases ht : 255 < (acc ++ t).length
   ·rw [(YbG _ _).1 ht]
    have ht2 : ((ints (acc ++ t)).length : Int) > 255 := by rw [XY]; omega
    refine ⟨0, JU s hs hl hb hu ?_, fun h => by cases h⟩
    simp only [Xq, Xg hbr, ↓reduceIte, Vr hbr, h40]
    refine Ev.step (f := fun k => Yb.j1 (k + 1) _ _ _ _) (fun k => rfl) ?_
    simp only [Yb.j1, Bool.false_eq_true, ↓reduceIte, YX hs h34, Xq, Uz hbr, hb0, Option.bind_some, Bool.not_true]
    refine Ev.step (f := fun k => Yb.j2 (k + 1) _ _ _) (fun k => rfl) ?_
    simp only [Yb.j2, Bool.false_eq_true, ↓reduceIte, ht2]
    exact Ev.now _
   ·rw [(YbG _ _).2 ht]
    have ht2 : ¬ ((ints (acc ++ t)).length : Int) > 255 := by rw [XY]; omega
    refine ⟨pos s (b :: r), JU s hs hl hb hu ?_, fun _ => rfl⟩
    simp only [Xq, Xg hbr, ↓reduceIte, Vr hbr, h40]
    refine Ev.step (f := fun k => Yb.j1 (k + 1) _ _ _ _) (fun k => rfl) ?_
    simp only [Yb.j1, Bool.false_eq_true, ↓reduceIte, YX hs h34, Xq, Uz hbr, hb0, Option.bind_some, Bool.not_true]
    refine Ev.step (f := fun k => Yb.j2 (k + 1) _ _ _) (fun k => rfl) ?_
    simp only [Yb.j2, Bool.false_eq_true, ↓reduceIte, ht2, Jl, YX hs h34]
    exact Ev.now _
 | @bad acc l t r b hu hb0 hne =>
   intro hl hb
   have h34 : (34 :: b :: r) <:+ s.data.toList := VF (UB hl hu)
   have hbr := XB h34
   have h40 : (((b.toNat : Nat) : Int) == 40) = false := by
    have : ¬ (b.toNat = 40) := fun e => hne (UInt8.toNat_inj.1 e)
    simp; omega
   refine ⟨0, JU s hs hl hb hu ?_, fun h => by cases h⟩
   simp only [Xq, Xg hbr, ↓reduceIte, Vr hbr, h40]
   refine Ev.step (f := fun k => Yb.j1 (k + 1) _ _ _ _) (fun k => rfl) ?_
   simp only [Yb.j1, Bool.false_eq_true, ↓reduceIte, YX hs h34, Xq, Uz hbr, hb0, Option.bind_some, Bool.not_false]
   refine Ev.step (f := fun k => Yb.j2 (k + 1) _ _ _) (fun k => rfl) ?_
   simp only [Yb.j2, ↓reduceIte]
   exact Ev.now _
 | @noend acc l t r hu h41 =>
   intro hl hb
   have h34 : (34 :: 40 :: r) <:+ s.data.toList := VF (UB hl hu)
   have hbr := XB h34
   have h3 : bt s (pos s (40 :: r)) = 40 := Vr hbr
   have hn : upL 41 (34 :: 40 :: r) = none := by unfold upL; rw [if_neg Z1]; unfold upL; rw [if_neg Z1, h41]; rfl
   refine ⟨0, JU s hs hl hb hu ?_, fun h => by cases h⟩
   simp only [Xq, Xg hbr, ↓reduceIte, h3, beq_self_eq_true]
   refine Ev.step (f := fun k => Yb.j1 (k + 1) _ _ _ _) (fun k => rfl) ?_
   simp only [Yb.j1, ↓reduceIte]
   refine Ev.bind (JV hs h34) ?_
   simp only [Ur hn, ↓reduceIte]
   exact Ev.now _
 | @nohex acc l t r x r2 hu h41 hx =>
   intro hl hb
   have h34 : (34 :: 40 :: r) <:+ s.data.toList := VF (UB hl hu)
   have hbr := XB h34
   have hr := XB hbr
   have h3 : bt s (pos s (40 :: r)) = 40 := Vr hbr
   have hn : upL 41 (34 :: 40 :: r) = some (34 :: 40 :: x, r2) := by unfold upL; rw [if_neg Z1]; unfold upL; rw [if_neg Z1, h41]; rfl
   have hp2 : wrap64 (pos s (34 :: 40 :: r) + 2) = pos s r := by
    have := Xg h34; have := Jt s 34 (40 :: r); have := Jt s 40 r; have := Vi s r
    rw [w64 Z0 Z0]; omega
   have hxl : x.length ≤ 4096 := by have := Xd h41; have := Vy hr; omega
   obtain ⟨z, hz⟩ := (Ydu x hxl).2 hx
   refine ⟨0, JU s hs hl hb hu ?_, fun h => by cases h⟩
   simp only [Xq, Xg hbr, ↓reduceIte, h3, beq_self_eq_true]
   refine Ev.step (f := fun k => Yb.j1 (k + 1) _ _ _ _) (fun k => rfl) ?_
   simp only [Yb.j1, ↓reduceIte]
   refine Ev.bind (JV hs h34) ?_
   simp only [VO hn, Up, ↓reduceIte, hp2, Xg hr, up_le h41, Vi, Yds hr h41]
   refine Ev.bind hz ?_
   simp only [Bool.false_eq_true, ↓reduceIte]
   exact Ev.now _
 | @hex acc l t r x r2 y t' r' e hu h41 hx hq ih =>
   intro hl hb
   have h34 : (34 :: 40 :: r) <:+ s.data.toList := VF (UB hl hu)
   have hbr := XB h34
   have hr := XB hbr
   have h3 : bt s (pos s (40 :: r)) = 40 := Vr hbr
   have hn : upL 41 (34 :: 40 :: r) = some (34 :: 40 :: x, r2) := by unfold upL; rw [if_neg Z1]; unfold upL; rw [if_neg Z1, h41]; rfl
   have hp2 : wrap64 (pos s (34 :: 40 :: r) + 2) = pos s r := by
    have := Xg h34; have := Jt s 34 (40 :: r); have := Jt s 40 r; have := Vi s r
    rw [w64 Z0 Z0]; omega
   have h41s : (41 :: r2) <:+ s.data.toList := VF (UB hr h41)
   have hxl : x.length ≤ 4096 := by have := Xd h41; have := Vy hr; omega
   have hz := (Ydu x hxl).1 y hx
   have hy := hexL_len x none y hx
   have hlen := Xd hu
   have hlen2 := Xd h41
   obtain ⟨p, hp, hp3⟩ := ih (XB h41s) Z1p
   have h9 : (ints (acc ++ t)).length + (ints y).length < 140737488355328 := by rw [XY, XY]; simp at hlen ⊢; omega
   refine ⟨p, JU s hs hl hb hu ?_, hp3⟩
   simp only [Xq, Xg hbr, ↓reduceIte, h3, beq_self_eq_true]
   refine Ev.step (f := fun k => Yb.j1 (k + 1) _ _ _ _) (fun k => rfl) ?_
   simp only [Yb.j1, ↓reduceIte]
   refine Ev.bind (JV hs h34) ?_
   simp only [VO hn, Up, ↓reduceIte, hp2, Xg hr, up_le h41, Vi, Yds hr h41]
   refine Ev.bind hz ?_
   simp only [↓reduceIte, h9, YX hs h41s, ← Ui]
   exact hp
theorem r_skip (s : ByteArray) (hs : s.size ≤ 4096) (acc : List S59) {R : List S59 × Int} : ∀ l : List UInt8, l <:+ s.data.toList →
 Ev (fun k => Ye.l0 k s acc (pos s (l.dropWhile isB))) R → Ev (fun k => Ye.l0 k s acc (pos s l)) R
 | [], hl, h => h
 | b :: r, hl, h => by
   cases hb : isB b with
   | true =>
     rw [show (b :: r).dropWhile isB = r.dropWhile isB by rw [List.dropWhile_cons, hb]; rfl] at h
     refine Ev.step (f := fun k => Ye.l0 (k + 1) _ _ _) (fun k => rfl) ?_
     simp only [Ye.l0, Xq, ↓reduceIte, Uz hl, hb, Option.bind_some, YX hs hl]
     exact r_skip s hs acc r (XB hl) h
   | false =>
     rw [show (b :: r).dropWhile isB = b :: r by rw [List.dropWhile_cons, hb]; rfl] at h
     exact h
theorem r_word (s : ByteArray) (hs : s.size ≤ 4096) (acc : List S59) {R : List S59 × Int} (L : List UInt8) : ∀ m w : List UInt8, L = w ++ m → L <:+ s.data.toList →
 Ev (fun k => Ye.j2 k s acc (pos s L) (pos s (XG m))) R → Ev (fun k => Ye.l1 k s acc (pos s L) (pos s m)) R
 | [], w, e, hL, h => by
   refine Ev.step (f := fun k => Ye.l1 (k + 1) _ _ _ _) (fun k => rfl) ?_
   simp only [Ye.l1, XX, Int.lt_irrefl, ↓reduceIte]
   rw [← XX]
   exact h
 | b :: m, w, e, hL, h => by
   have hm : (b :: m) <:+ s.data.toList := by subst e; exact VF hL
   rw [Yb1] at h
   refine Ev.step (f := fun k => Ye.l1 (k + 1) _ _ _ _) (fun k => rfl) ?_
   cases hb : isB b with
   | true =>
     rw [hb] at h
     simp only [Ye.l1, Xq, ↓reduceIte, Uz hm, hb, Option.bind_some]
     exact h
   | false =>
     rw [hb] at h
     simp only [Ye.l1, Xq, ↓reduceIte, Uz hm, hb, Option.bind_some, Bool.false_eq_true, YX hs hm]
     exact r_word s hs acc L m (w ++ [b]) (by rw [e]; simp) hL h
theorem YS {s : ByteArray} {L : List UInt8} (hL : L <:+ s.data.toList) : s.extract (pos s L).toNat (pos s (XG L)).toNat = byt (XP L) ∧ pos s L ≤ pos s (XG L) := by
 have h1 := UL (s := s) (w := XP L) (r := XG L) (by rw [UE]; exact hL)
 have h2 := Ybv (s := s) (w := XP L) (r := XG L)
 rw [UE] at h1 h2
 exact ⟨h1, h2⟩
theorem UJ {s : ByteArray} (hs : s.size ≤ 4096) {l L : List UInt8} (acc : List S59) (hl : l <:+ s.data.toList) (hL : l.dropWhile isB = L) (h0 : L ≠ []) {R : List S59 × Int}
 (h : Ev (fun k => Ye.j2 (k + 1) s acc (pos s L) (pos s (XG L))) R) : Ev (fun k => Ye.l0 k s acc (pos s l)) R := by
 have hLs := YV hl hL
 refine r_skip s hs acc l hl ?_
 rw [hL]
 have h2 : Ev (fun k => Ye.l1 k s acc (pos s L) (pos s L)) R := r_word s hs acc L L [] rfl hLs (Ev.step (fun k => rfl) h)
 cases L with
 | nil => exact absurd rfl h0
 | cons b r =>
   refine Ev.step (f := fun k => Ye.l0 (k + 1) _ _ _) (fun k => rfl) ?_
   simp only [Ye.l0, Xq, ↓reduceIte, Uz hLs, Yck hL, Option.bind_some, Bool.false_eq_true]
   exact h2
theorem Ul {w : List UInt8} (h : VX w) : YI.f (byt w) = some true := by rw [Ya7, decide_eq_true h]
theorem Ybw (s : ByteArray) (L : List UInt8) : pos s L = (s.size : Int) - L.length := rfl
theorem not_gt {s : ByteArray} {r : List UInt8} : ¬ pos s r > (s.size : Int) := by have := Vi s r; omega
theorem rcut_ev (s : ByteArray) (hs : s.size ≤ 4096) {l : List UInt8} {q : Int × List S59} (h : CutR (s.size : Int) l q) :
 l <:+ s.data.toList → ∀ acc : List S59, acc.length + l.length ≤ 10000 → Ev (fun n => Ye.l0 n s acc (pos s l)) (fin acc q) := by
 induction h with
 | @done l hL =>
   intro hl acc hb
   refine r_skip s hs acc l hl ?_
   rw [hL]
   refine Ev.step (f := fun k => Ye.l0 (k + 1) _ _ _) (fun k => rfl) ?_
   simp only [Ye.l0, XX, Int.lt_irrefl, ↓reduceIte]
   have : fin acc (0, []) = (acc, 0) := by simp [fin]
   rw [this]
   exact Ev.now _
 | @lineEnd l L hL h0 hw hu =>
   intro hl acc hb
   have hLs := YV hl hL
   have hR := XF hLs
   refine UJ hs acc hl hL h0 ?_
   simp only [Ye.j2, Xg hLs, (YS hLs).2, Vi, (YS hLs).1, ↓reduceIte, Ul (show VX [92] from Z1), Option.bind_some, Xp, hw]
   refine Ev.bind (next10 hs hR) ?_
   have h5 : ¬ (wrap64 ((s.size : Int) + 1) < (s.size : Int)) := by rw [w64 Z0 Z0]; omega
   simp only [Ur hu]
   refine Ev.step (f := fun k => Ye.l0 (k + 1) _ _ _) (fun k => rfl) ?_
   simp only [Ye.l0, h5, ↓reduceIte]
   have : fin acc (0, []) = (acc, 0) := by simp [fin]
   rw [this]
   exact Ev.now _
 | @line l L t r q hL h0 hw hu hq ih =>
   intro hl acc hb
   have hLs := YV hl hL
   have hR := XF hLs
   have hc : (10 :: r) <:+ s.data.toList := VF (UB hR hu)
   refine UJ hs acc hl hL h0 ?_
   simp only [Ye.j2, Xg hLs, (YS hLs).2, Vi, (YS hLs).1, ↓reduceIte, Ul (show VX [92] from Z1), Option.bind_some, Xp, hw]
   refine Ev.bind (next10 hs hR) ?_
   simp only [VO hu, YX hs hc]
   have := Xd hu
   have := XM hL h0
   exact ih (XB hc) acc Z0
 | @noParen l L hL h0 hw hu =>
   intro hl acc hb
   have hLs := YV hl hL
   have hR := XF hLs
   refine UJ hs acc hl hL h0 ?_
   simp only [Ye.j2, Xg hLs, (YS hLs).2, Vi, (YS hLs).1, ↓reduceIte, Ul (show VX [40] from Z1), Option.bind_some, Xp, hw, w40]
   refine Ev.bind (JV hs hR) ?_
   have h5 : wrap64 ((s.size : Int) + 1) > (s.size : Int) := by rw [w64 Z0 Z0]; omega
   simp only [Ur hu, h5, ↓reduceIte]
   exact Ev.now _
 | @paren l L t r q hL h0 hw hu hq ih =>
   intro hl acc hb
   have hLs := YV hl hL
   have hR := XF hLs
   have hc : (41 :: r) <:+ s.data.toList := VF (UB hR hu)
   refine UJ hs acc hl hL h0 ?_
   simp only [Ye.j2, Xg hLs, (YS hLs).2, Vi, (YS hLs).1, ↓reduceIte, Ul (show VX [40] from Z1), Option.bind_some, Xp, hw, w40]
   refine Ev.bind (JV hs hR) ?_
   simp only [VO hu, YX hs hc, not_gt, ↓reduceIte]
   have := Xd hu
   have := XM hL h0
   exact ih (XB hc) acc Z0
 | @bare l L hL h0 hw h1 h2 hr =>
   intro hl acc hb
   have hLs := YV hl hL
   have hR := XF hLs
   refine UJ hs acc hl hL h0 ?_
   have h6 : pos s (XG L) = s.size := by rw [hr, XX]
   simp only [Ye.j2, Xg hLs, (YS hLs).2, Vi, (YS hLs).1, ↓reduceIte, Ul hw, Option.bind_some, Xp, h1, h2]
   simp only [h6, ↓reduceIte]
   exact Ev.now _
 | @noPrint l L r b hL h0 hw hr hu =>
   intro hl acc hb
   have hLs := YV hl hL
   have hR := XF hLs
   have hR2 := hR
   rw [hr] at hR2
   refine UJ hs acc hl hL h0 ?_
   have h6 : ¬ pos s (XG L) = s.size := by rw [hr]; exact Up
   have h7 : wrap64 (pos s (XG L) + 1) = pos s r := by rw [hr]; exact YX hs hR2
   simp only [Ye.j2, Xg hLs, (YS hLs).2, Vi, (YS hLs).1, ↓reduceIte, Ul (show VX [46, 40] from Z1), Option.bind_some, Xp, hw, YbV, YbU, h6, h7]
   refine Ev.bind (JV hs (XB hR2)) ?_
   simp only [Ur hu, ↓reduceIte]
   exact Ev.now _
 | @longPrint l L r t r2 b hL h0 hw hr hu ht =>
   intro hl acc hb
   have hLs := YV hl hL
   have hR := XF hLs
   have hR2 := hR
   rw [hr] at hR2
   refine UJ hs acc hl hL h0 ?_
   have h6 : ¬ pos s (XG L) = s.size := by rw [hr]; exact Up
   have h7 : wrap64 (pos s (XG L) + 1) = pos s r := by rw [hr]; exact YX hs hR2
   have h8 : wrap64 (wrap64 (pos s (41 :: r2) - pos s (XG L)) - 1) > 255 := by
    have a := Xd hu
    have b := Vy hR2
    have e1 : pos s (41 :: r2) - pos s (XG L) = (t.length : Int) + 1 := by rw [hr, Ybw, Ybw]; simp at b ⊢; omega
    simp at b
    rw [e1, w64 (n := (t.length : Int) + 1) Z0 Z0, w64 (n := (t.length : Int) + 1 - 1) Z0 Z0]
    omega
   simp only [Ye.j2, Xg hLs, (YS hLs).2, Vi, (YS hLs).1, ↓reduceIte, Ul (show VX [46, 40] from Z1), Option.bind_some, Xp, hw, YbV, YbU, h6, h7]
   refine Ev.bind (JV hs (XB hR2)) ?_
   simp only [VO hu, Up, ↓reduceIte, h8]
   exact Ev.now _
 | @print l L r t r2 b q hL h0 hw hr hu ht hq ih =>
   intro hl acc hb
   have hLs := YV hl hL
   have hR := XF hLs
   have hR2 := hR
   rw [hr] at hR2
   have hr1 := XB hR2
   have hc : (41 :: r2) <:+ s.data.toList := VF (UB hr1 hu)
   refine UJ hs acc hl hL h0 ?_
   have h6 : ¬ pos s (XG L) = s.size := by rw [hr]; exact Up
   have h7 : wrap64 (pos s (XG L) + 1) = pos s r := by rw [hr]; exact YX hs hR2
   have h1 := Xd hu
   have h2 := XM hL h0
   rw [hr] at h2
   simp at h2
   have h8 : ¬ wrap64 (wrap64 (pos s (41 :: r2) - pos s (XG L)) - 1) > 255 := by
    have b := Vy hR2
    have e1 : pos s (41 :: r2) - pos s (XG L) = (t.length : Int) + 1 := by rw [hr, Ybw, Ybw]; simp at b ⊢; omega
    simp at b
    rw [e1, w64 (n := (t.length : Int) + 1) Z0 Z0, w64 (n := (t.length : Int) + 1 - 1) Z0 Z0]
    omega
   have h3 : acc.length < 4398046511104 := by omega
   simp only [Ye.j2, Xg hLs, (YS hLs).2, Vi, (YS hLs).1, ↓reduceIte, Ul (show VX [46, 40] from Z1), Option.bind_some, Xp, hw, YbV, YbU, h6, h7]
   refine Ev.bind (JV hs (XB hR2)) ?_
   simp only [VO hu, Up, ↓reduceIte, h8, Xg hr1, up_le hu, Vi, h3, Yds hr1 hu, YX hs hc]
   rw [UV]
   exact ih (XB hc) _ Zj
 | @noQuot l L r t r2 b e hL h0 hw hr hq he =>
   intro hl acc hb
   have hLs := YV hl hL
   have hR := XF hLs
   have hR2 := hR
   rw [hr] at hR2
   refine UJ hs acc hl hL h0 ?_
   have hspw : VX (XP L) := hw.elim (fun h => .inr (.inr (.inr (.inl h)))) (fun h => .inr (.inr (.inr (.inr h))))
   have h6 : ¬ pos s (XG L) = s.size := by rw [hr]; exact Up
   have h7 : wrap64 (pos s (XG L) + 1) = pos s r := by rw [hr]; exact YX hs hR2
   have a1 : ¬ (XP L = [92]) := by rcases hw with h | h <;> rw [h] <;> decide
   have a2 : ¬ (XP L = [40]) := by rcases hw with h | h <;> rw [h] <;> decide
   have a3 : ¬ (XP L = [46, 40]) := by rcases hw with h | h <;> rw [h] <;> decide
   obtain ⟨p, hp, _⟩ := Ya8 s hs hq (XB hR2) (by have := Vy hR2; simp at this ⊢; omega)
   simp only [Ye.j2, Xg hLs, (YS hLs).2, Vi, (YS hLs).1, ↓reduceIte, Ul hspw, Option.bind_some, Xp, a1, a2, a3, h6, h7]
   have hp2 : Ev (fun k => Yb.f k s (pos s r)) (byt t, p, e) := hp
   refine Ev.bind hp2 ?_
   simp only [he, ↓reduceIte]
   have : fin acc (e, []) = ([], e) := by simp [fin, he]
   rw [this]
   exact Ev.now _
 | @quot l L r t r2 b q hL h0 hw hr hq hc ih =>
   intro hl acc hb
   have hLs := YV hl hL
   have hR := XF hLs
   have hR2 := hR
   rw [hr] at hR2
   refine UJ hs acc hl hL h0 ?_
   have hspw : VX (XP L) := hw.elim (fun h => .inr (.inr (.inr (.inl h)))) (fun h => .inr (.inr (.inr (.inr h))))
   have h6 : ¬ pos s (XG L) = s.size := by rw [hr]; exact Up
   have h7 : wrap64 (pos s (XG L) + 1) = pos s r := by rw [hr]; exact YX hs hR2
   have a1 : ¬ (XP L = [92]) := by rcases hw with h | h <;> rw [h] <;> decide
   have a2 : ¬ (XP L = [40]) := by rcases hw with h | h <;> rw [h] <;> decide
   have a3 : ¬ (XP L = [46, 40]) := by rcases hw with h | h <;> rw [h] <;> decide
   obtain ⟨p, hp, hpr⟩ := Ya8 s hs hq (XB hR2) (by have := Vy hR2; simp at this ⊢; omega)
   have h1 := Js hq rfl
   have h2 := XM hL h0
   rw [hr] at h2
   simp at h2
   have h3 : acc.length < 4398046511104 := by omega
   have hs2 : r2 <:+ s.data.toList := Ydk hq rfl (XB hR2)
   have ih2 := ih hs2 (acc ++ [⟨if XP L = [34] then 2 else 3, byt t, (s.size : Int) - L.length⟩]) Zj
   simp only [Ye.j2, Xg hLs, (YS hLs).2, Vi, (YS hLs).1, ↓reduceIte, Ul hspw, Option.bind_some, Xp, a1, a2, a3, h6, h7]
   have hp2 : Ev (fun k => Yb.f k s (pos s r)) (byt t, p, 0) := hp
   rw [hpr rfl] at hp2
   refine Ev.bind hp2 ?_
   rw [UV]
   by_cases h4 : XP L = [34]
   ·simp only [h4, ↓reduceIte, h3] at ih2 ⊢; exact ih2
   ·simp only [h4, ↓reduceIte, h3] at ih2 ⊢; exact ih2
 | @word l L q hL h0 hw hq ih =>
   intro hl acc hb
   have hLs := YV hl hL
   have hR := XF hLs
   have h2 := XM hL h0
   have h3 : acc.length < 4398046511104 := by omega
   refine UJ hs acc hl hL h0 ?_
   simp only [Ye.j2, Xg hLs, (YS hLs).2, Vi, (YS hLs).1, ↓reduceIte, Ya7, decide_eq_false hw, Option.bind_some, Bool.false_eq_true]
   refine Ev.bind (rsmall_f _ (Ybm hLs hs)) ?_
   simp only [h3, ↓reduceIte]
   rw [UV]
   exact ih hR _ Zj
theorem cuts (s : ByteArray) (hs : s.size ≤ 4096) {q : Int × List S59} (h : CutR (s.size : Int) s.data.toList q) :
 Ev (fun k => YR.f k s) (fin [] q) ∧ Ev (fun k => Ye.f k s) (fin [] q) := by
 have hp : pos s s.data.toList = 0 := by unfold pos; rw [Jm]; omega
 have hlen := Jm s
 have h1 := cut_ev s hs h (List.suffix_refl _) [] Zj
 have h2 := rcut_ev s hs h (List.suffix_refl _) [] Zj
 rw [hp] at h1 h2
 constructor
 ·simp only [YR.f, show ¬ ((s.size : Int) > 4096) by omega, ↓reduceIte]; exact h1
 ·simp only [Ye.f, show ¬ ((s.size : Int) > 4096) by omega, ↓reduceIte]; exact h2
theorem cut_count {N : Int} {l : List UInt8} {q : Int × List S59} (h : CutR N l q) : q.2.length ≤ l.length := by
 induction h with
 | done _ => simp
 | lineEnd _ _ _ _ => simp
 | line hL h0 hw hu hq ih => have := Xd hu; have := XM hL h0; omega
 | noParen _ _ _ _ => simp
 | paren hL h0 hw hu hq ih => have := Xd hu; have := XM hL h0; omega
 | bare _ _ _ _ _ _ => simp
 | noPrint _ _ _ _ _ => simp
 | longPrint _ _ _ _ _ _ => simp
 | print hL h0 hw hr hu ht hq ih =>
   have := Xd hu; have h2 := XM hL h0; rw [hr] at h2; simp at h2
   unfold consT; split <;> simp <;> omega
 | noQuot _ _ _ _ _ _ => simp
 | quot hL h0 hw hr hq hc ih =>
   have := Js hq rfl; have h2 := XM hL h0; rw [hr] at h2; simp at h2
   unfold consT; split <;> simp <;> omega
 | word hL h0 hw hq ih =>
   have h2 := XM hL h0
   unfold consT; split <;> simp <;> omega
end Go.Proofs.Ytehmhgpogpbjiaa
namespace Go.Proofs.Ytehmhgpogpbjiaa.Fcc
abbrev Tk := PFccTokens.S37
abbrev Tin := PFccTokens.S59
abbrev Ch := PFccTokens.S149
abbrev Ld := PFccTokens.S77
structure Mk where
 inp : List Tin
 out : List Tk
 names : List (ByteArray × Int)
 next : Int
 opn : Bool
 name : ByteArray
 code : Int
 origs : List Int
 dests : List Int
 loops : List Int
 cases : List Ch
 leads : List Ld
abbrev Res := Mk ⊕ Int
def emp : ByteArray := ⟨#[]⟩
def Mk.at_ (m : Mk) : Int := m.out.length
def Mk.add (m : Mk) (c : Int) (n : Int := 0) (s : ByteArray := emp) : Mk := { m with out := m.out ++ [⟨c, n, s, 0⟩] }
def Vl (m : Mk) : (ByteArray × Mk) ⊕ Int := match m.inp with
 | [] => .inr 15
 | t :: r => if t.f0 = 1 then .inl (t.f1, { m with inp := r }) else .inr 15
def Vf (named : ByteArray → Bool) (m : Mk) : (ByteArray × Int × Mk) ⊕ Int := match Vl m with
 | .inr _ => .inr 15
 | .inl (s, m1) => if named s = false then .inr 15 else if m1.next > 4095 then .inr 22 else .inl (s, m1.next, { m1 with next := m1.next + 1 })
def popP (l : List Int) : Option (Int × List Int) := match l.getLast? with
 | none => none
 | some x => some (x, l.dropLast)
def resolveP (m : Mk) : Res := match popP m.origs with
 | none => .inr 13
 | some (x, l) => .inl ({ m with origs := l, leads := m.leads ++ ([⟨x, m.at_⟩] : List Ld) }.add 178)
def backP (m : Mk) (c : Int) : Res := match popP m.dests with
 | none => .inr 13
 | some (x, l) => .inl ({ m with dests := l, leads := m.leads ++ ([⟨m.at_, x⟩] : List Ld) }.add c)
def Xt (m : Mk) (w : ByteArray) : Option Res :=
 if w.toList = ([105, 102] : List UInt8) ∨ w.toList = ([119, 104, 105, 108, 101] : List UInt8) then some (.inl ({ m with origs := m.origs ++ [m.at_] }.add 20))
 else if w.toList = ([101, 108, 115, 101] : List UInt8) then some (match popP m.origs with
  | none => .inr 13
  | some (x, l) => resolveP ({ m with origs := l ++ [m.at_, x] }.add 19))
 else if w.toList = ([116, 104, 101, 110] : List UInt8) then some (resolveP m)
 else if w.toList = ([98, 101, 103, 105, 110] : List UInt8) then some (.inl ({ m with dests := m.dests ++ [m.at_] }.add 177))
 else if w.toList = ([117, 110, 116, 105, 108] : List UInt8) then some (backP m 20)
 else if w.toList = ([97, 103, 97, 105, 110] : List UInt8) then some (backP m 19)
 else if w.toList = ([114, 101, 112, 101, 97, 116] : List UInt8) then some (match backP m 19 with
  | .inr e => .inr e
  | .inl m1 => resolveP m1)
 else none
def VP (m : Mk) (w : ByteArray) : Option Res :=
 if w.toList = ([100, 111] : List UInt8) then some (.inl ({ m with loops := m.loops ++ [m.at_] }.add 23))
 else if w.toList = ([63, 100, 111] : List UInt8) then some (.inl ({ m with loops := m.loops ++ [m.at_] }.add 24))
 else if w.toList = ([108, 111, 111, 112] : List UInt8) ∨ w.toList = ([43, 108, 111, 111, 112] : List UInt8) then some (match popP m.loops with
  | none => .inr 13
  | some (x, l) => .inl ({ m with loops := l, leads := m.leads ++ ([⟨m.at_, x⟩, ⟨x, m.at_⟩] : List Ld) }.add (if w.toList = ([43, 108, 111, 111, 112] : List UInt8) then 22 else 21)))
 else if w.toList = ([108, 101, 97, 118, 101] : List UInt8) then some (if m.loops = [] then .inr 13 else .inl (m.add 27))
 else none
def Vh (m : Mk) (w : ByteArray) : Res :=
 if w.toList = ([99, 97, 115, 101] : List UInt8) then .inl ({ m with cases := m.cases ++ ([⟨-1, []⟩] : List Ch) }.add 196)
 else match m.cases.getLast? with
  | none => .inr 13
  | some c =>
    if (c.f0 < 0 ↔ w.toList = ([101, 110, 100, 111, 102] : List UInt8)) then .inr 13
    else if w.toList = ([111, 102] : List UInt8) then .inl ({ m with cases := m.cases.dropLast ++ ([⟨m.at_, c.f1⟩] : List Ch) }.add 28)
    else if w.toList = ([101, 110, 100, 111, 102] : List UInt8) then .inl ({ m with cases := m.cases.dropLast ++ ([⟨-1, c.f1 ++ [m.at_]⟩] : List Ch), leads := m.leads ++ ([⟨c.f0, m.at_⟩] : List Ld) }.add 198)
    else .inl ({ m with cases := m.cases.dropLast, leads := m.leads ++ c.f1.map (fun x => (⟨x, m.at_⟩ : Ld)) }.add 197)
def YT (w : ByteArray) : Int :=
 if w.toList = ([58] : List UInt8) then 183 else if w.toList = ([99, 111, 110, 115, 116, 97, 110, 116] : List UInt8) then 186 else if w.toList = ([118, 97, 108, 117, 101] : List UInt8) ∨ w.toList = ([105, 110, 115, 116, 97, 110, 99, 101] : List UInt8) then 184
 else if w.toList = ([118, 97, 114, 105, 97, 98, 108, 101] : List UInt8) then 185 else if w.toList = ([100, 101, 102, 101, 114] : List UInt8) then 188 else if w.toList = ([98, 117, 102, 102, 101, 114, 58] : List UInt8) then 189 else 0
def UK (prims : List (ByteArray × Int)) (m : Mk) (s : ByteArray) : Option Int :=
 match m.names.find? (fun p => decide (p.1 = s)) with
 | some p => some p.2
 | none => (prims.find? (fun p => decide (p.1 = s))).map (·.2)
def XJ (named : ByteArray → Bool) (m : Mk) (w : ByteArray) : Res :=
 match (if w.toList = ([105, 110, 115, 116, 97, 110, 99, 101] : List UInt8) then (match Vl m with
  | .inl (s, m1) => if s.toList = ([118, 97, 108, 117, 101] : List UInt8) then .inl (m1.add 192) else .inr 15
  | .inr _ => .inr 15) else .inl m : Res) with
 | .inr e => .inr e
 | .inl m1 => match Vf named m1 with
   | .inr e => .inr e
   | .inl (s, c, m2) =>
     let m3 := (m2.add 182 c s).add (YT w)
     if w.toList = ([58] : List UInt8) then .inl { m3 with opn := true, name := s, code := c } else .inl { m3 with names := (s, c) :: m3.names }
def Vo (prims : List (ByteArray × Int)) (m : Mk) (c : Int) : Res := match Vl m with
 | .inr e => .inr e
 | .inl (s, m1) => match UK prims m1 s with
   | none => .inr 14
   | some n => .inl (m1.add c n)
def VN (prims : List (ByteArray × Int)) (m : Mk) (w : ByteArray) : Res :=
 if w.toList = ([59] : List UInt8) then (if m.origs.length + m.dests.length + m.loops.length + m.cases.length > 0 then .inr 13 else
  .inl (let m1 := m.add 194; { m1 with opn := false, names := (m1.name, m1.code) :: m1.names }))
 else if w.toList = ([101, 120, 105, 116] : List UInt8) then .inl (m.add 51)
 else if w.toList = ([91, 39, 93] : List UInt8) then Vo prims m 17
 else match Xt m w with
  | some r => r
  | none => match VP m w with
    | some r => r
    | none => Vh m w
def Xc (w : ByteArray) : Bool := decide (w.toList ∈ ([[105, 102], [119, 104, 105, 108, 101], [101, 108, 115, 101], [116, 104, 101, 110], [98, 101, 103, 105, 110], [97, 103, 97, 105, 110], [117, 110, 116, 105, 108], [114, 101, 112, 101, 97, 116], [100, 111], [63, 100, 111], [108, 111, 111, 112], [43, 108, 111, 111, 112], [108, 101, 97, 118, 101], [99, 97, 115, 101], [111, 102], [101, 110, 100, 111, 102], [101, 110, 100, 99, 97, 115, 101]] : List (List UInt8)))
def VH (w : ByteArray) : Bool := decide (w.toList = ([59] : List UInt8) ∨ w.toList = ([101, 120, 105, 116] : List UInt8) ∨ w.toList = ([91, 39, 93] : List UInt8)) || Xc w
def Vb (w : ByteArray) : Bool := decide (w.toList = ([39] : List UInt8)) || decide (YT w ≠ 0)
def oneP (named : ByteArray → Bool) (prims : List (ByteArray × Int)) (lit : ByteArray → Option Int) (m : Mk) (w : ByteArray) : Res :=
 if (VH w && !m.opn) || (Vb w && m.opn) then .inr 13
 else if VH w then VN prims m w
 else if w.toList = ([39] : List UInt8) then Vo prims m 17
 else if Vb w then XJ named m w
 else if w.toList = ([116, 111] : List UInt8) then Vo prims m 195
 else match UK prims m w with
  | some c => .inl (m.add c)
  | none => match lit w with
    | none => .inr 14
    | some v => .inl (m.add 16 v)
def tokP (named : ByteArray → Bool) (prims : List (ByteArray × Int)) (lit : ByteArray → Option Int) (m : Mk) (x : Tin) : Res :=
 if x.f0 = 1 then oneP named prims lit m x.f1
 else if x.f0 = 3 then .inl ((m.add 18 0 x.f1).add 144)
 else .inl (m.add 18 0 x.f1)
def allP (named : ByteArray → Bool) (prims : List (ByteArray × Int)) (lit : ByteArray → Option Int) : Nat → Mk → Res
 | 0, m => .inl m
 | k + 1, m => match m.inp with
   | [] => .inl m
   | x :: r => match tokP named prims lit { m with inp := r } x with
     | .inr e => .inr e
     | .inl m1 => allP named prims lit k m1
def endsP (size : Tk → Int) : Int → List Tk → List Int
 | _, [] => []
 | a, t :: l => (a + size t) :: endsP size (a + size t) l
def aimP (size : Tk → Int) (m : Mk) : List Tk :=
 let e := endsP size 0 m.out
 m.leads.foldl (fun out p => out.modify p.f0.toNat fun t => { t with f3 := e.getD p.f1.toNat 0 - e.getD p.f0.toNat 0 + 2 }) m.out
def Un (inp : List Tin) : Mk := ⟨inp, [], [], 2048, false, emp, 0, [], [], [], [], []⟩
def Ja (named : ByteArray → Bool) (prims : List (ByteArray × Int)) (lit : ByteArray → Option Int) (size : Tk → Int) (inp : List Tin) : List Tk × Int :=
 match allP named prims lit inp.length (Un inp) with
 | .inr e => ([], e)
 | .inl m => if m.opn then ([], 13) else (aimP size (m.add 0), 0)
end Go.Proofs.Ytehmhgpogpbjiaa.Fcc
namespace Go.Proofs.Ytehmhgpogpbjiaa.Fcc
open Go.RowKit Go.Proofs.YtehmhgpogpbjiaaW.PrintWords
abbrev Fld := World → (Nat → Prop) → Value → Prop
structure Loc (base : Nat) (P : Fld) : Prop where
 move : ∀ {w w1 : World} {ok ok' : Nat → Prop} {v : Value}, P w ok v → (∀ k, ok k → base ≤ k → k < w.heap.size → w1.heap[k]? = w.heap[k]? ∧ ok' k) → P w1 ok' v
abbrev rowF {α : Type} (d : Kd α) (e base : Nat) (xs : List α) : Fld := fun w ok v => Kd.R d e w base ok v xs
abbrev rowsF {α : Type} (d : Kd α) (e base : Nat) (xs : List α) : Fld := fun w ok v => Kd.S d e w base ok v xs
abbrev valF (x : Value) : Fld := fun _ _ v => v = x
abbrev anyF : Fld := fun _ _ _ => True
theorem loc_row {α : Type} (d : Kd α) (e base : Nat) (xs : List α) : Loc base (rowF d e base xs) :=
 ⟨fun h hm => Kd.R_mono (Kd.R_move (Kd.R_bound h) (fun k hk => (hm k hk.1 hk.2.1 hk.2.2.1).1)) (fun k hk => (hm k hk.1 hk.2.1 hk.2.2.1).2)⟩
theorem loc_rows {α : Type} (d : Kd α) (e base : Nat) (xs : List α) : Loc base (rowsF d e base xs) :=
 ⟨fun h hm => Kd.S_mono (Kd.S_move (Kd.S_bound h) (fun k hk => (hm k hk.1 hk.2.1 hk.2.2.1).1)) (fun k hk => (hm k hk.1 hk.2.1 hk.2.2.1).2)⟩
theorem loc_val (base : Nat) (x : Value) : Loc base (valF x) := ⟨fun h _ => h⟩
theorem loc_any (base : Nat) : Loc base anyF := ⟨fun _ _ => trivial⟩
abbrev mapF {H : Type} (P : Program) (k : TypeId) (R : Value → Option (DataW H × List MemPlace)) (base n : Nat) (D : DataW H) : Fld :=
 fun w ok v => ∃ b, v = .map (some b) ∧ ok b ∧ base ≤ b ∧ w.ownsMap P k R b n D
theorem loc_map {H : Type} (P : Program) (k : TypeId) (R : Value → Option (DataW H × List MemPlace)) (base n : Nat) (D : DataW H) : Loc base (mapF P k R base n D) := by
 refine ⟨fun {w w1 ok ok' v} h hm => ?_⟩
 obtain ⟨b, hv, ho, hb, es, clock, h1, h2, h3, h4⟩ := h
 have hx := hm b ho hb (UO h1)
 exact ⟨b, hv, hx.2, hb, es, clock, hx.1.trans h1, h2, h3, h4⟩
structure St (w : World) (base g T z : Nat) (vs : List Value) (o : Nat → Nat) (F : List Fld) : Prop where
 box : w.heap[g]? = some (.cells vs.toArray T (0, 0))
 hb : base ≤ g
 own : o g = z
 row : ∀ (i : Nat) (v : Value) (P : Fld), vs[i]? = some v → F[i]? = some P → P w (fun k => o k = z + 1 + i) v
 loc : ∀ (i : Nat) (P : Fld), F[i]? = some P → Loc base P
section
variable {w w1 : World} {base g T z : Nat} {vs : List Value} {o o1 : Nat → Nat} {F : List Fld}
theorem St.lt (h : St w base g T z vs o F) : g < w.heap.size := UO h.box
theorem St.cell (h : St w base g T z vs o F) (i : Nat) {v : Value} (hv : vs[i]? = some v) : w.cell? ⟨g, i, none⟩ = some v := by
 rw [Ya h.box i]; simpa using hv
theorem St.free (h : St w base g T z vs o F) (i : Nat) : w.frozen? ⟨g, i, none⟩ = false := Yf h.box i
theorem St.keep (h : St w base g T z vs o F) (ho : ∀ k, k < w.heap.size → o1 k = o k) (hk : ∀ k, k < w.heap.size → base ≤ k → z ≤ o k → w1.heap[k]? = w.heap[k]?) : St w1 base g T z vs o1 F := by
 refine ⟨(hk g h.lt h.hb (by rw [h.own]; exact Nat.le_refl _)).trans h.box, h.hb, (ho g h.lt).trans h.own, fun i v P hv hP => ?_, h.loc⟩
 refine (h.loc i P hP).move (h.row i v P hv hP) (fun k hk1 hk2 hk3 => ⟨hk k hk3 hk2 Z0, ?_⟩)
 rw [ho k hk3]; exact hk1
theorem St.below (h : St w base g T z vs o F) (hb : Below w.heap.size w w1) : St w1 base g T z vs o F := h.keep (fun _ _ => rfl) (fun k hk _ _ => hb.block k hk)
theorem St.turn (h : St w base g T z vs o F) (i : Nat) {P' : Fld} (hl : Loc base P') (ho : ∀ k, k < w.heap.size → o1 k = o k)
 (hk : ∀ k, k < w.heap.size → base ≤ k → o k ≠ z + 1 + i → w1.heap[k]? = w.heap[k]?) (hn : ∀ v, vs[i]? = some v → P' w1 (fun k => o1 k = z + 1 + i) v) : St w1 base g T z vs o1 (F.set i P') := by
 refine ⟨(hk g h.lt h.hb (by rw [h.own]; omega)).trans h.box, h.hb, (ho g h.lt).trans h.own, fun j v P hv hP => ?_, fun j P hP => ?_⟩
 ·by_cases hj : i = j
  ·subst hj
   rw [List.getElem?_set_self'] at hP
   cases hF : F[i]? with
   | none => rw [hF] at hP; cases hP
   | some _ => rw [hF] at hP; cases hP; exact hn v hv
  ·rw [List.getElem?_set_ne hj] at hP
   refine (h.loc j P hP).move (h.row j v P hv hP) (fun k hk1 hk2 hk3 => ⟨hk k hk3 hk2 Z0, ?_⟩)
   rw [ho k hk3]; exact hk1
 ·by_cases hj : i = j
  ·subst hj
   rw [List.getElem?_set_self'] at hP
   cases hF : F[i]? with
   | none => rw [hF] at hP; cases hP
   | some _ => rw [hF] at hP; cases hP; exact hl
  ·rw [List.getElem?_set_ne hj] at hP
   exact h.loc j P hP
theorem St.put (h : St w base g T z vs o F) (i : Nat) {P' : Fld} {v' : Value} (hl : Loc base P') (hn : P' w (fun k => o k = z + 1 + i) v') : St (w.setCell ⟨g, i, none⟩ v') base g T z (vs.set i v') o (F.set i P') := by
 have hfar : ∀ k, k ≠ g → (w.setCell ⟨g, i, none⟩ v').heap[k]? = w.heap[k]? := fun k hk => Below.heap_setCell w ⟨g, i, none⟩ v' k hk
 refine ⟨YM h.box i v' Z3, h.hb, h.own, fun j v P hv hP => ?_, fun j P hP => ?_⟩
 ·by_cases hj : i = j
  ·subst hj
   rw [List.getElem?_set_self'] at hP hv
   cases hF : F[i]? with
   | none => rw [hF] at hP; cases hP
   | some _ =>
     rw [hF] at hP; cases hP
     cases hV : vs[i]? with
     | none => rw [hV] at hv; cases hv
     | some _ =>
       rw [hV] at hv; cases hv
       exact hl.move hn (fun k hk _ _ => ⟨hfar k (fun e => by subst e; rw [h.own] at hk; omega), hk⟩)
  ·rw [List.getElem?_set_ne hj] at hP hv
   exact (h.loc j P hP).move (h.row j v P hv hP) (fun k hk _ _ => ⟨hfar k (fun e => by subst e; rw [h.own] at hk; omega), hk⟩)
 ·by_cases hj : i = j
  ·subst hj
   rw [List.getElem?_set_self'] at hP
   cases hF : F[i]? with
   | none => rw [hF] at hP; cases hP
   | some _ => rw [hF] at hP; cases hP; exact hl
  ·rw [List.getElem?_set_ne hj] at hP
   exact h.loc j P hP
theorem St.grow (h : St w base g T z vs o F) (i : Nat) {P' : Fld} {v v' : Value} (hl : Loc base P') (ho : ∀ k, k < w.heap.size → o1 k = o k) (hg : w.grownBy w1 v.ownBlock) (hv : ∀ k, v.ownBlock = some k → o k = z + 1 + i)
 (hn : P' w1 (fun k => o1 k = z + 1 + i) v') : St (w1.setCell ⟨g, i, none⟩ v') base g T z (vs.set i v') o1 (F.set i P') := by
 have h1 : St w1 base g T z vs o1 (F.set i anyF) := h.turn i (loc_any base) ho (fun k hk _ hne => hg.block k hk (fun e => hne (hv k e.symm))) (fun _ _ => trivial)
 have h2 := h1.put i hl hn
 rwa [List.set_set] at h2
end
def new_ (w : World) (o : Nat → Nat) (i k : Nat) : Nat := if k < w.heap.size then o k else i
theorem Ybc {w : World} {o : Nat → Nat} {i k : Nat} (hk : k < w.heap.size) : new_ w o i k = o k := by unfold new_; rw [if_pos hk]
theorem Yca {w : World} {o : Nat → Nat} {i k : Nat} (hk : w.heap.size ≤ k) : new_ w o i k = i := by unfold new_; rw [if_neg Z0]
end Go.Proofs.Ytehmhgpogpbjiaa.Fcc
