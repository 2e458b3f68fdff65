import Derived.Test.Ytehmhgpogpbjiaafu20
set_option linter.unusedVariables false
set_option linter.unusedSimpArgs false
set_option maxRecDepth 100000
set_option maxHeartbeats 8000000
namespace Go.Proofs.Ytehmhgpogpbjiaa
open Go.RowKit Go.Proofs.YtehmhgpogpbjiaaW.PrintWords Go.Proofs.YtehmhgpogpbjiaaW.PrintLast Go.Proofs.YtehmhgpogpbjiaaW.PrintMore Go.Proofs.Ytehmhgpogpbjiaa.PFccTokens
theorem mn_left {a b : Int} (h : a ≤ b) : mn a b = a := by unfold mn; omega
def JK (s : ByteArray) (c : UInt8) (l : List UInt8) : Int := match upL c l with | some (t, r) => pos s (c :: r) | none => s.size
theorem YbY (s : ByteArray) (hs : s.size ≤ 4096) (c : UInt8) : ∀ l : List UInt8, l <:+ s.data.toList → Ev (fun k => Yk.f k s (pos s l) (c.toNat : Int)) (JK s c l)
 | [], hl => by
   refine Ev.step (f := fun k => Yk.l0 (k + 1) _ _ _) (fun k => rfl) ?_
   simp only [Yk.l0, Vb, Int.lt_irrefl, ↓reduceIte, mn_left (Int.le_refl _)]
   exact Ev.now _
 | b :: r, hl => by
   refine Ev.step (f := fun k => Yk.l0 (k + 1) _ _ _) (fun k => rfl) ?_
   simp only [Yk.l0, Xo, Xe hl, ↓reduceIte, VC hl, YX hs hl]
   by_cases e : b = c
   ·subst e
    have h1 : JK s b (b :: r) = pos s (b :: r) := by unfold JK upL; rw [if_pos rfl]
    simp only [↓reduceIte, h1, mn_left (Vs s (b :: r))]
    exact Ev.now _
   ·have h1 : ¬ (((b.toNat : Nat) : Int) = (c.toNat : Int)) := fun h => e (UInt8.toNat_inj.1 Z0)
    simp only [h1, ↓reduceIte]
    have h2 : JK s c (b :: r) = JK s c r := by
     unfold JK
     conv => lhs; unfold upL
     rw [if_neg e]
     cases upL c r with
     | none => rfl
     | some p => rfl
    rw [h2]
    exact YbY s hs c r (Xw hl)
theorem VV {s : ByteArray} {c : UInt8} {l t r : List UInt8} (h : upL c l = some (t, r)) : JK s c l = pos s (c :: r) := by unfold JK; rw [h]
theorem Uu {s : ByteArray} {c : UInt8} {l : List UInt8} (h : upL c l = none) : JK s c l = s.size := by unfold JK; rw [h]
theorem UD {s : ByteArray} {b : UInt8} {r : List UInt8} (h : (b :: r) <:+ s.data.toList) : Xb.f s (pos s (b :: r)) = some (isB b) := by
 unfold Xb.f
 rw [if_pos (Xe h), if_pos Xo, if_pos (Xe h), VC h, Ydx]
theorem Ybj (w : List UInt8) : YG.f (byt w) = some (decide (Ud w)) := by
 have := Yav w
 unfold XZ.f at this
 unfold YG.f
 rw [← this]
 by_cases h : (byt w).toList = [46, 34]
 ·simp [h]
 ·simp [h]
  have h2 : ((byt w).toList == [46, 34]) = false := by simpa using h
  rw [h2]
theorem rsmall1 (b : UInt8) : YB.f (b.toNat : Int) = some (((Um b).toNat : Nat) : Int) := by
 have key : ∀ n : Fin 256, YB.f (n.val : Int) = some (((Um (UInt8.ofNat n.val)).toNat : Nat) : Int) := by decide +kernel
 have := key ⟨b.toNat, UInt8.toNat_lt b⟩
 simpa using this
theorem Ycu (s : ByteArray) (hs : s.size ≤ 4096) : ∀ (m acc : List UInt8), m <:+ s.data.toList → acc.length + m.length ≤ 100000 →
 Ev (fun k => Yr.l0 k s (ints acc) (pos s m)) (byt (acc ++ m.map Um))
 | [], acc, hm, hb => by
   refine Ev.step (f := fun k => Yr.l0 (k + 1) _ _ _) (fun k => rfl) ?_
   simp only [Yr.l0, Vb, Int.lt_irrefl, ↓reduceIte, Jr, List.map_nil, List.append_nil]
   exact Ev.now _
 | b :: m, acc, hm, hb => by
   have h1 : (ints acc).length < 140737488355328 := by rw [Vd]; simp at hb; omega
   refine Ev.step (f := fun k => Yr.l0 (k + 1) _ _ _) (fun k => rfl) ?_
   simp only [Yr.l0, Xo, Xe hm, ↓reduceIte, VC hm, rsmall1, Option.bind_some, h1, YX hs hm]
   have ih := Ycu s hs m (acc ++ [Um b]) (Xw hm) (by simp at hb ⊢; omega)
   have e1 : ints (acc ++ [Um b]) = ints acc ++ [((Um b).toNat : Int)] := by simp [ints]
   rw [e1] at ih
   have e2 : acc ++ [Um b] ++ m.map Um = acc ++ (b :: m).map Um := by simp
   rw [e2] at ih
   exact ih
theorem rsmall_f (w : List UInt8) (h : w.length ≤ 4096) : Ev (fun k => Yr.f k (byt w)) (byt (w.map Um)) := by
 have := Ycu (byt w) (by rw [byt_size]; exact h) w [] Z1p Zm
 have hp : pos (byt w) w = 0 := by unfold pos; rw [byt_size]; omega
 rw [hp] at this
 exact this
theorem YeB : ∀ n : Fin 256, Yh.f 20 (n.val : Int) 16 = some (valO (UInt8.ofNat n.val)) := by decide +kernel
theorem rvalue_ev (b : UInt8) : Ev (fun k => Yh.f k (b.toNat : Int) 16) (valO b) := by
 refine Ev.of (Yh.mono _ _) (k := 20) ?_
 have := YeB ⟨b.toNat, UInt8.toNat_lt b⟩
 simpa using this
def oddB : Option Nat → Bool
 | none => false
 | some _ => true
theorem JF (s : ByteArray) (hs : s.size ≤ 4096) : ∀ (m : List UInt8) (h : Option Nat) (n : Int) (acc : List UInt8), m <:+ s.data.toList → (∀ u, h = some u → u < 16 ∧ n = u) → acc.length + m.length ≤ 100000 →
 (∀ y, hexL m h = some y → Ev (fun k => Yi.l0 k s (ints acc) n (oddB h) (pos s m)) (ints (acc ++ y), true)) ∧
 (hexL m h = none → ∃ z, Ev (fun k => Yi.l0 k s (ints acc) n (oddB h) (pos s m)) (z, false))
 | [], h, n, acc, hm, hu, hl => by
   have e : ∀ k, Yi.l0 (k + 1) s (ints acc) n (oddB h) (pos s []) = some (ints acc, !oddB h) := fun k => by
    simp only [Yi.l0, Vb, Int.lt_irrefl, ↓reduceIte]
   cases h with
   | none =>
     refine ⟨fun y hy => ?_, fun hn => by cases hn⟩
     injection hy with hy
     subst hy
     rw [List.append_nil]
     exact Ev.step e (Ev.now _)
   | some u => exact Z2G
 | b :: m, h, n, acc, hm, hu, hl => by
   have hl2 : acc.length + m.length ≤ 100000 := by simp at hl; omega
   have hble : decide (((b.toNat : Nat) : Int) ≤ 32) = isB b := Ydx b
   cases hb : isB b with
   | true =>
     rw [hb] at hble
     have hb2 := of_decide_eq_true hble
     have ih := JF s hs m h n acc (Xw hm) hu hl2
     have e : ∀ k, Yi.l0 (k + 1) s (ints acc) n (oddB h) (pos s (b :: m)) = Yi.l0 k s (ints acc) n (oddB h) (pos s m) := fun k => by
      simp only [Yi.l0, Xo, Xe hm, ↓reduceIte, VC hm, hb2, YX hs hm]
     have e2 : hexL (b :: m) h = hexL m h := by
      conv => lhs; unfold hexL
      rw [hb]; rfl
     rw [e2]
     exact Z2H
   | false =>
     rw [hb] at hble
     have hb2 := of_decide_eq_false hble
     have hv := rvalue_ev b
     cases hh : hexv b with
     | none =>
       have e2 : hexL (b :: m) h = none := by
        conv => lhs; unfold hexL
        rw [hb, hh]
        rfl
       rw [e2]
       refine ⟨fun y hy => (nomatch hy), fun _ => ⟨[], ?_⟩⟩
       have e3 : valO b = (0, false) := by unfold valO; rw [hh]
       rw [e3] at hv
       refine Ev.step (f := fun k => Yi.l0 (k + 1) _ _ _ _ _) (fun k => rfl) ?_
       simp only [Yi.l0, Xo, Xe hm, ↓reduceIte, VC hm, hb2, YX hs hm]
       refine Ev.bind hv ?_
       simp only [Bool.false_eq_true, ↓reduceIte]
       exact Ev.now _
     | some v =>
       have e3 : valO b = ((v : Int), true) := by unfold valO; rw [hh]
       rw [e3] at hv
       have hv16 := hexv_lt hh
       cases h with
       | none =>
         have ih := JF s hs m (some v) v acc (Xw hm) (fun u e => by injection e with e; subst e; exact ⟨hv16, rfl⟩) hl2
         have e2 : hexL (b :: m) none = hexL m (some v) := by
          conv => lhs; unfold hexL
          rw [hb, hh]; rfl
         rw [e2]
         have st : ∀ r, Ev (fun k => Yi.l0 k s (ints acc) v (oddB (some v)) (pos s m)) r → Ev (fun k => Yi.l0 k s (ints acc) n (oddB none) (pos s (b :: m))) r := by
          intro r hr
          refine Ev.step (f := fun k => Yi.l0 (k + 1) _ _ _ _ _) (fun k => rfl) ?_
          simp only [Yi.l0, Xo, Xe hm, ↓reduceIte, VC hm, hb2, YX hs hm]
          refine Ev.bind hv ?_
          simpa [oddB] using hr
         exact Z2I
       | some u =>
         obtain ⟨hu16, rfl⟩ := hu u rfl
         have hw : ((((u : Int) * 16) % 4294967296 + v) % 4294967296) % 256 = (u : Int) * 16 + v := by omega
         have hw2 : ((UInt8.ofNat (u * 16 + v)).toNat : Int) = (u : Int) * 16 + v := by simp; omega
         have ih := JF s hs m none v (acc ++ [UInt8.ofNat (u * 16 + v)]) (Xw hm) (fun u e => nomatch e) (by simp; simp at hl; omega)
         have e2 : hexL (b :: m) (some u) = (hexL m none).map fun r => UInt8.ofNat (u * 16 + v) :: r := by
          conv => lhs; unfold hexL
          rw [hb, hh]; rfl
         rw [e2]
         have st : ∀ r, Ev (fun k => Yi.l0 k s (ints (acc ++ [UInt8.ofNat (u * 16 + v)])) v (oddB none) (pos s m)) r → Ev (fun k => Yi.l0 k s (ints acc) u (oddB (some u)) (pos s (b :: m))) r := by
          intro r hr
          refine Ev.step (f := fun k => Yi.l0 (k + 1) _ _ _ _ _) (fun k => rfl) ?_
          simp only [Yi.l0, Xo, Xe hm, ↓reduceIte, VC hm, hb2, YX hs hm]
          refine Ev.bind hv ?_
          have h9 : (ints acc).length < 140737488355328 := by rw [Vd]; omega
          have e7 : ints (acc ++ [UInt8.ofNat (u * 16 + v)]) = ints acc ++ [(u : Int) * 16 + v] := by rw [← hw2]; simp [ints]
          rw [e7] at hr
          simp only [oddB, ↓reduceIte, h9, hw, Bool.not_true]
          exact hr
         refine ⟨fun y hy => ?_, fun hn => ?_⟩
         ·cases hq : hexL m none with
          | none => rw [hq] at hy; cases hy
          | some q =>
            rw [hq] at hy
            injection hy with hy
            subst hy
            have := st _ (ih.1 q hq)
            rwa [show acc ++ [UInt8.ofNat (u * 16 + v)] ++ q = acc ++ UInt8.ofNat (u * 16 + v) :: q by simp] at this
         ·cases hq : hexL m none with
          | none => obtain ⟨z, hz⟩ := ih.2 hq; exact ⟨z, st _ hz⟩
          | some q => rw [hq] at hn; cases hn
theorem Yea (x : List UInt8) (h : x.length ≤ 4096) :
 (∀ y, hexL x none = some y → Ev (fun k => Yi.f k (byt x)) (ints y, true)) ∧ (hexL x none = none → ∃ z, Ev (fun k => Yi.f k (byt x)) (z, false)) := by
 have := JF (byt x) (by rw [byt_size]; exact h) x none 0 [] Z1p (fun u e => nomatch e) Zm
 have hp : pos (byt x) x = 0 := by unfold pos; rw [byt_size]; omega
 rw [hp] at this
 exact this
theorem next34 {s : ByteArray} (hs : s.size ≤ 4096) {l : List UInt8} (hl : l <:+ s.data.toList) : Ev (fun k => Yk.f k s (pos s l) 34) (JK s 34 l) := YbY s hs 34 l hl
theorem Yac {s : ByteArray} (hs : s.size ≤ 4096) {l : List UInt8} (hl : l <:+ s.data.toList) : Ev (fun k => Yk.f k s (pos s l) 41) (JK s 41 l) := YbY s hs 41 l hl
theorem next10 {s : ByteArray} (hs : s.size ≤ 4096) {l : List UInt8} (hl : l <:+ s.data.toList) : Ev (fun k => Yk.f k s (pos s l) 10) (JK s 10 l) := YbY s hs 10 l hl
theorem UF {s : ByteArray} {c : UInt8} {l t r : List UInt8} (hl : l <:+ s.data.toList) (hu : upL c l = some (t, r)) : (t ++ c :: r) <:+ s.data.toList := by rw [← (Ja hu).1]; exact hl
theorem up_pos {s : ByteArray} {c : UInt8} {l t r : List UInt8} (hu : upL c l = some (t, r)) : pos s l = pos s (t ++ c :: r) := by rw [← (Ja hu).1]
theorem Yd6 {s : ByteArray} {c : UInt8} {l t r : List UInt8} (hl : l <:+ s.data.toList) (hu : upL c l = some (t, r)) : s.extract (pos s l).toNat (pos s (c :: r)).toNat = byt t := by
 rw [up_pos hu]; exact US (UF hl hu)
theorem up_le {s : ByteArray} {c : UInt8} {l t r : List UInt8} (hu : upL c l = some (t, r)) : pos s l ≤ pos s (c :: r) := by rw [up_pos hu]; exact YbO
theorem YbZ (x r : List UInt8) : (255 < x.length → limL x r = (3, [], r)) ∧ (¬ 255 < x.length → limL x r = (0, x, r)) := by
 unfold limL
 exact ⟨fun h => by rw [if_pos Z0], fun h => by rw [if_neg Z0]⟩
theorem Yab (s : ByteArray) (hs : s.size ≤ 4096) {acc l t r : List UInt8} (hl : l <:+ s.data.toList) (hb : acc.length + l.length ≤ 100000) (hu : upL 34 l = some (t, r)) {R : ByteArray × Int × Int}
 (h : Ev (fun k => if pos s r < (s.size : Int) then (if 0 ≤ pos s r then Ya.j1 k s (ints (acc ++ t)) (pos s (34 :: r)) (bt s (pos s r) == 40) else none) else Ya.j1 k s (ints (acc ++ t)) (pos s (34 :: r)) false) R) :
 Ev (fun k => Ya.l0 k s (pos s l) (ints acc)) R := by
 have h34 : (34 :: r) <:+ s.data.toList := VP (UF hl hu)
 have hlen := Xi hu
 have h1 : (ints acc).length + (byt t).size < 140737488355328 := by rw [Vd, byt_size]; omega
 refine Ev.step (f := fun k => Ya.l0 (k + 1) _ _ _) (fun k => rfl) ?_
 simp only [Ya.l0]
 refine Ev.bind (next34 hs hl) ?_
 simp only [VV hu, Ut, ↓reduceIte, Xe hl, up_le hu, Vs, Yd6 hl hu, h1, VK, ← Up, Option.bind_some, YX hs h34]
 exact h
theorem Ybk (s : ByteArray) (hs : s.size ≤ 4096) {acc l : List UInt8} {e : Int} {t r : List UInt8} (h : UY acc l e t r) :
 l <:+ s.data.toList → acc.length + l.length ≤ 100000 → ∃ p, Ev (fun k => Ya.l0 k s (pos s l) (ints acc)) (byt t, p, e) ∧ (e = 0 → p = pos s r) := by
 induction h with
 | @none acc l hu =>
   intro hl hb
   refine ⟨0, Ev.step (f := fun k => Ya.l0 (k + 1) _ _ _) (fun k => rfl) ?_, fun h => by cases h⟩
   simp only [Ya.l0]
   refine Ev.bind (next34 hs hl) ?_
   simp only [Uu hu, ↓reduceIte]
   exact Ev.now _
 | @fin acc l t hu =>
   intro hl hb
   have h34 : (34 :: []) <:+ s.data.toList := VP (UF hl hu)
   by_cases ht : 255 < (acc ++ t).length
   ·rw [(YbZ _ _).1 ht]
    have ht2 : ((ints (acc ++ t)).length : Int) > 255 := by rw [Vd]; omega
    refine ⟨0, Yab s hs hl hb hu ?_, fun h => by cases h⟩
    simp only [Vb, Int.lt_irrefl, ↓reduceIte]
    refine Ev.step (f := fun k => Ya.j1 (k + 1) _ _ _ _) (fun k => rfl) ?_
    simp only [Ya.j1, Bool.false_eq_true, ↓reduceIte, YX hs h34, Vb, Int.lt_irrefl]
    refine Ev.step (f := fun k => Ya.j2 (k + 1) _ _ _) (fun k => rfl) ?_
    simp only [Ya.j2, Bool.false_eq_true, ↓reduceIte, ht2]
    exact Ev.now _
   ·rw [(YbZ _ _).2 ht]
    have ht2 : ¬ ((ints (acc ++ t)).length : Int) > 255 := by rw [Vd]; omega
    refine ⟨pos s [], Yab s hs hl hb hu ?_, fun _ => rfl⟩
    simp only [Vb, Int.lt_irrefl, ↓reduceIte]
    refine Ev.step (f := fun k => Ya.j1 (k + 1) _ _ _ _) (fun k => rfl) ?_
    simp only [Ya.j1, Bool.false_eq_true, ↓reduceIte, YX hs h34, Vb, Int.lt_irrefl]
    refine Ev.step (f := fun k => Ya.j2 (k + 1) _ _ _) (fun k => rfl) ?_
    simp only [Ya.j2, Bool.false_eq_true, ↓reduceIte, ht2, Jr, YX hs h34, Vb]
    exact Ev.now _
 | @blank acc l t r b hu hb0 =>
   intro hl hb
   have h34 : (34 :: b :: r) <:+ s.data.toList := VP (UF hl hu)
   have hbr := Xw h34
   have h40 : (((b.toNat : Nat) : Int) == 40) = false := by
    have : b.toNat ≤ 32 := of_decide_eq_true hb0
    simp; omega
   by_cases ht : 255 < (acc ++ t).length
   ·rw [(YbZ _ _).1 ht]
    have ht2 : ((ints (acc ++ t)).length : Int) > 255 := by rw [Vd]; omega
    refine ⟨0, Yab s hs hl hb hu ?_, fun h => by cases h⟩
    simp only [Xo, Xe hbr, ↓reduceIte, VC hbr, h40]
    refine Ev.step (f := fun k => Ya.j1 (k + 1) _ _ _ _) (fun k => rfl) ?_
    simp only [Ya.j1, Bool.false_eq_true, ↓reduceIte, YX hs h34, Xo, UD hbr, hb0, Option.bind_some, Bool.not_true]
    refine Ev.step (f := fun k => Ya.j2 (k + 1) _ _ _) (fun k => rfl) ?_
    simp only [Ya.j2, Bool.false_eq_true, ↓reduceIte, ht2]
    exact Ev.now _
   ·rw [(YbZ _ _).2 ht]
    have ht2 : ¬ ((ints (acc ++ t)).length : Int) > 255 := by rw [Vd]; omega
    refine ⟨pos s (b :: r), Yab s hs hl hb hu ?_, fun _ => rfl⟩
    simp only [Xo, Xe hbr, ↓reduceIte, VC hbr, h40]
    refine Ev.step (f := fun k => Ya.j1 (k + 1) _ _ _ _) (fun k => rfl) ?_
    simp only [Ya.j1, Bool.false_eq_true, ↓reduceIte, YX hs h34, Xo, UD hbr, hb0, Option.bind_some, Bool.not_true]
    refine Ev.step (f := fun k => Ya.j2 (k + 1) _ _ _) (fun k => rfl) ?_
    simp only [Ya.j2, Bool.false_eq_true, ↓reduceIte, ht2, Jr, YX hs h34]
    exact Ev.now _
 | @bad acc l t r b hu hb0 hne =>
   intro hl hb
   have h34 : (34 :: b :: r) <:+ s.data.toList := VP (UF hl hu)
   have hbr := Xw h34
   have h40 : (((b.toNat : Nat) : Int) == 40) = false := by
    have : ¬ (b.toNat = 40) := fun e => hne (UInt8.toNat_inj.1 e)
    simp; omega
   refine ⟨0, Yab s hs hl hb hu ?_, fun h => by cases h⟩
   simp only [Xo, Xe hbr, ↓reduceIte, VC hbr, h40]
   refine Ev.step (f := fun k => Ya.j1 (k + 1) _ _ _ _) (fun k => rfl) ?_
   simp only [Ya.j1, Bool.false_eq_true, ↓reduceIte, YX hs h34, Xo, UD hbr, hb0, Option.bind_some, Bool.not_false]
   refine Ev.step (f := fun k => Ya.j2 (k + 1) _ _ _) (fun k => rfl) ?_
   simp only [Ya.j2, ↓reduceIte]
   exact Ev.now _
 | @noend acc l t r hu h41 =>
   intro hl hb
   have h34 : (34 :: 40 :: r) <:+ s.data.toList := VP (UF hl hu)
   have hbr := Xw h34
   have h3 : bt s (pos s (40 :: r)) = 40 := VC hbr
   have hn : upL 41 (34 :: 40 :: r) = none := by unfold upL; rw [if_neg Z1]; unfold upL; rw [if_neg Z1, h41]; rfl
   refine ⟨0, Yab s hs hl hb hu ?_, fun h => by cases h⟩
   simp only [Xo, Xe hbr, ↓reduceIte, h3, beq_self_eq_true]
   refine Ev.step (f := fun k => Ya.j1 (k + 1) _ _ _ _) (fun k => rfl) ?_
   simp only [Ya.j1, ↓reduceIte]
   refine Ev.bind (Yac hs h34) ?_
   simp only [Uu hn, ↓reduceIte]
   exact Ev.now _
 | @nohex acc l t r x r2 hu h41 hx =>
   intro hl hb
   have h34 : (34 :: 40 :: r) <:+ s.data.toList := VP (UF hl hu)
   have hbr := Xw h34
   have hr := Xw hbr
   have h3 : bt s (pos s (40 :: r)) = 40 := VC hbr
   have hn : upL 41 (34 :: 40 :: r) = some (34 :: 40 :: x, r2) := by unfold upL; rw [if_neg Z1]; unfold upL; rw [if_neg Z1, h41]; rfl
   have hp2 : wrap64 (pos s (34 :: 40 :: r) + 2) = pos s r := by
    have := Xe h34; have := JB s 34 (40 :: r); have := JB s 40 r; have := Vs s r
    rw [w64 Z0 Z0]; omega
   have hxl : x.length ≤ 4096 := by have := Xi h41; have := VI hr; omega
   obtain ⟨z, hz⟩ := (Yea x hxl).2 hx
   refine ⟨0, Yab s hs hl hb hu ?_, fun h => by cases h⟩
   simp only [Xo, Xe hbr, ↓reduceIte, h3, beq_self_eq_true]
   refine Ev.step (f := fun k => Ya.j1 (k + 1) _ _ _ _) (fun k => rfl) ?_
   simp only [Ya.j1, ↓reduceIte]
   refine Ev.bind (Yac hs h34) ?_
   simp only [VV hn, Ut, ↓reduceIte, hp2, Xe hr, up_le h41, Vs, Yd6 hr h41]
   refine Ev.bind hz ?_
   simp only [Bool.false_eq_true, ↓reduceIte]
   exact Ev.now _
 | @hex acc l t r x r2 y t' r' e hu h41 hx hq ih =>
   intro hl hb
   have h34 : (34 :: 40 :: r) <:+ s.data.toList := VP (UF hl hu)
   have hbr := Xw h34
   have hr := Xw hbr
   have h3 : bt s (pos s (40 :: r)) = 40 := VC hbr
   have hn : upL 41 (34 :: 40 :: r) = some (34 :: 40 :: x, r2) := by unfold upL; rw [if_neg Z1]; unfold upL; rw [if_neg Z1, h41]; rfl
   have hp2 : wrap64 (pos s (34 :: 40 :: r) + 2) = pos s r := by
    have := Xe h34; have := JB s 34 (40 :: r); have := JB s 40 r; have := Vs s r
    rw [w64 Z0 Z0]; omega
   have h41s : (41 :: r2) <:+ s.data.toList := VP (UF hr h41)
   have hxl : x.length ≤ 4096 := by have := Xi h41; have := VI hr; omega
   have hz := (Yea x hxl).1 y hx
   have hy := JE x none y hx
   have hlen := Xi hu
   have hlen2 := Xi h41
   obtain ⟨p, hp, hp3⟩ := ih (Xw h41s) Z1C
   have h9 : (ints (acc ++ t)).length + (ints y).length < 140737488355328 := by rw [Vd, Vd]; simp at hlen ⊢; omega
   refine ⟨p, Yab s hs hl hb hu ?_, hp3⟩
   simp only [Xo, Xe hbr, ↓reduceIte, h3, beq_self_eq_true]
   refine Ev.step (f := fun k => Ya.j1 (k + 1) _ _ _ _) (fun k => rfl) ?_
   simp only [Ya.j1, ↓reduceIte]
   refine Ev.bind (Yac hs h34) ?_
   simp only [VV hn, Ut, ↓reduceIte, hp2, Xe hr, up_le h41, Vs, Yd6 hr h41]
   refine Ev.bind hz ?_
   simp only [↓reduceIte, h9, YX hs h41s, ← Up]
   exact hp
theorem r_skip (s : ByteArray) (hs : s.size ≤ 4096) (acc : List S59) {R : List S59 × Int} : ∀ l : List UInt8, l <:+ s.data.toList →
 Ev (fun k => Ye.l0 k s acc (pos s (l.dropWhile isB))) R → Ev (fun k => Ye.l0 k s acc (pos s l)) R
 | [], hl, h => h
 | b :: r, hl, h => by
   cases hb : isB b with
   | true =>
     rw [show (b :: r).dropWhile isB = r.dropWhile isB by rw [List.dropWhile_cons, hb]; rfl] at h
     refine Ev.step (f := fun k => Ye.l0 (k + 1) _ _ _) (fun k => rfl) ?_
     simp only [Ye.l0, Xo, ↓reduceIte, UD hl, hb, Option.bind_some, YX hs hl]
     exact r_skip s hs acc r (Xw hl) h
   | false =>
     rw [show (b :: r).dropWhile isB = b :: r by rw [List.dropWhile_cons, hb]; rfl] at h
     exact h
theorem r_word (s : ByteArray) (hs : s.size ≤ 4096) (acc : List S59) {R : List S59 × Int} (L : List UInt8) : ∀ m w : List UInt8, L = w ++ m → L <:+ s.data.toList →
 Ev (fun k => Ye.j2 k s acc (pos s L) (pos s (XC m))) R → Ev (fun k => Ye.l1 k s acc (pos s L) (pos s m)) R
 | [], w, e, hL, h => by
   refine Ev.step (f := fun k => Ye.l1 (k + 1) _ _ _ _) (fun k => rfl) ?_
   simp only [Ye.l1, Vb, Int.lt_irrefl, ↓reduceIte]
   rw [← Vb]
   exact h
 | b :: m, w, e, hL, h => by
   have hm : (b :: m) <:+ s.data.toList := by subst e; exact VP hL
   rw [Ycx] at h
   refine Ev.step (f := fun k => Ye.l1 (k + 1) _ _ _ _) (fun k => rfl) ?_
   cases hb : isB b with
   | true =>
     rw [hb] at h
     simp only [Ye.l1, Xo, ↓reduceIte, UD hm, hb, Option.bind_some]
     exact h
   | false =>
     rw [hb] at h
     simp only [Ye.l1, Xo, ↓reduceIte, UD hm, hb, Option.bind_some, Bool.false_eq_true, YX hs hm]
     exact r_word s hs acc L m (w ++ [b]) (by rw [e]; simp) hL h
theorem YP {s : ByteArray} {L : List UInt8} (hL : L <:+ s.data.toList) : s.extract (pos s L).toNat (pos s (XC L)).toNat = byt (XR L) ∧ pos s L ≤ pos s (XC L) := by
 have h1 := US (s := s) (w := XR L) (r := XC L) (by rw [UJ]; exact hL)
 have h2 := YbO (s := s) (w := XR L) (r := XC L)
 rw [UJ] at h1 h2
 exact ⟨h1, h2⟩
theorem UP {s : ByteArray} (hs : s.size ≤ 4096) {l L : List UInt8} (acc : List S59) (hl : l <:+ s.data.toList) (hL : l.dropWhile isB = L) (h0 : L ≠ []) {R : List S59 × Int}
 (h : Ev (fun k => Ye.j2 (k + 1) s acc (pos s L) (pos s (XC L))) R) : Ev (fun k => Ye.l0 k s acc (pos s l)) R := by
 have hLs := YT hl hL
 refine r_skip s hs acc l hl ?_
 rw [hL]
 have h2 : Ev (fun k => Ye.l1 k s acc (pos s L) (pos s L)) R := r_word s hs acc L L [] rfl hLs (Ev.step (fun k => rfl) h)
 cases L with
 | nil => exact absurd rfl h0
 | cons b r =>
   refine Ev.step (f := fun k => Ye.l0 (k + 1) _ _ _) (fun k => rfl) ?_
   simp only [Ye.l0, Xo, ↓reduceIte, UD hLs, YcU hL, Option.bind_some, Bool.false_eq_true]
   exact h2
theorem Ur {w : List UInt8} (h : Ud w) : YG.f (byt w) = some true := by rw [Ybj, decide_eq_true h]
theorem YbP (s : ByteArray) (L : List UInt8) : pos s L = (s.size : Int) - L.length := rfl
theorem not_gt {s : ByteArray} {r : List UInt8} : ¬ pos s r > (s.size : Int) := by have := Vs s r; omega
theorem rcut_ev (s : ByteArray) (hs : s.size ≤ 4096) {l : List UInt8} {q : Int × List S59} (h : CutR (s.size : Int) l q) :
 l <:+ s.data.toList → ∀ acc : List S59, acc.length + l.length ≤ 10000 → Ev (fun n => Ye.l0 n s acc (pos s l)) (fin acc q) := by
 induction h with
 | @done l hL =>
   intro hl acc hb
   refine r_skip s hs acc l hl ?_
   rw [hL]
   refine Ev.step (f := fun k => Ye.l0 (k + 1) _ _ _) (fun k => rfl) ?_
   simp only [Ye.l0, Vb, Int.lt_irrefl, ↓reduceIte]
   have : fin acc (0, []) = (acc, 0) := by simp [fin]
   rw [this]
   exact Ev.now _
 | @lineEnd l L hL h0 hw hu =>
   intro hl acc hb
   have hLs := YT hl hL
   have hR := XB hLs
   refine UP hs acc hl hL h0 ?_
   simp only [Ye.j2, Xe hLs, (YP hLs).2, Vs, (YP hLs).1, ↓reduceIte, Ur (show Ud [92] from Z1), Option.bind_some, Xn, hw]
   refine Ev.bind (next10 hs hR) ?_
   have h5 : ¬ (wrap64 ((s.size : Int) + 1) < (s.size : Int)) := by rw [w64 Z0 Z0]; omega
   simp only [Uu hu]
   refine Ev.step (f := fun k => Ye.l0 (k + 1) _ _ _) (fun k => rfl) ?_
   simp only [Ye.l0, h5, ↓reduceIte]
   have : fin acc (0, []) = (acc, 0) := by simp [fin]
   rw [this]
   exact Ev.now _
 | @line l L t r q hL h0 hw hu hq ih =>
   intro hl acc hb
   have hLs := YT hl hL
   have hR := XB hLs
   have hc : (10 :: r) <:+ s.data.toList := VP (UF hR hu)
   refine UP hs acc hl hL h0 ?_
   simp only [Ye.j2, Xe hLs, (YP hLs).2, Vs, (YP hLs).1, ↓reduceIte, Ur (show Ud [92] from Z1), Option.bind_some, Xn, hw]
   refine Ev.bind (next10 hs hR) ?_
   simp only [VV hu, YX hs hc]
   have := Xi hu
   have := Va hL h0
   exact ih (Xw hc) acc Z0
 | @noParen l L hL h0 hw hu =>
   intro hl acc hb
   have hLs := YT hl hL
   have hR := XB hLs
   refine UP hs acc hl hL h0 ?_
   simp only [Ye.j2, Xe hLs, (YP hLs).2, Vs, (YP hLs).1, ↓reduceIte, Ur (show Ud [40] from Z1), Option.bind_some, Xn, hw, w40]
   refine Ev.bind (Yac hs hR) ?_
   have h5 : wrap64 ((s.size : Int) + 1) > (s.size : Int) := by rw [w64 Z0 Z0]; omega
   simp only [Uu hu, h5, ↓reduceIte]
   exact Ev.now _
 | @paren l L t r q hL h0 hw hu hq ih =>
   intro hl acc hb
   have hLs := YT hl hL
   have hR := XB hLs
   have hc : (41 :: r) <:+ s.data.toList := VP (UF hR hu)
   refine UP hs acc hl hL h0 ?_
   simp only [Ye.j2, Xe hLs, (YP hLs).2, Vs, (YP hLs).1, ↓reduceIte, Ur (show Ud [40] from Z1), Option.bind_some, Xn, hw, w40]
   refine Ev.bind (Yac hs hR) ?_
   simp only [VV hu, YX hs hc, not_gt, ↓reduceIte]
   have := Xi hu
   have := Va hL h0
   exact ih (Xw hc) acc Z0
 | @bare l L hL h0 hw h1 h2 hr =>
   intro hl acc hb
   have hLs := YT hl hL
   have hR := XB hLs
   refine UP hs acc hl hL h0 ?_
   have h6 : pos s (XC L) = s.size := by rw [hr, Vb]
   simp only [Ye.j2, Xe hLs, (YP hLs).2, Vs, (YP hLs).1, ↓reduceIte, Ur hw, Option.bind_some, Xn, h1, h2]
   simp only [h6, ↓reduceIte]
   exact Ev.now _
 | @noPrint l L r b hL h0 hw hr hu =>
   intro hl acc hb
   have hLs := YT hl hL
   have hR := XB hLs
   have hR2 := hR
   rw [hr] at hR2
   refine UP hs acc hl hL h0 ?_
   have h6 : ¬ pos s (XC L) = s.size := by rw [hr]; exact Ut
   have h7 : wrap64 (pos s (XC L) + 1) = pos s r := by rw [hr]; exact YX hs hR2
   simp only [Ye.j2, Xe hLs, (YP hLs).2, Vs, (YP hLs).1, ↓reduceIte, Ur (show Ud [46, 40] from Z1), Option.bind_some, Xn, hw, Yck, Ycj, h6, h7]
   refine Ev.bind (Yac hs (Xw hR2)) ?_
   simp only [Uu hu, ↓reduceIte]
   exact Ev.now _
 | @longPrint l L r t r2 b hL h0 hw hr hu ht =>
   intro hl acc hb
   have hLs := YT hl hL
   have hR := XB hLs
   have hR2 := hR
   rw [hr] at hR2
   refine UP hs acc hl hL h0 ?_
   have h6 : ¬ pos s (XC L) = s.size := by rw [hr]; exact Ut
   have h7 : wrap64 (pos s (XC L) + 1) = pos s r := by rw [hr]; exact YX hs hR2
   have h8 : wrap64 (wrap64 (pos s (41 :: r2) - pos s (XC L)) - 1) > 255 := by
    have a := Xi hu
    have b := VI hR2
    have e1 : pos s (41 :: r2) - pos s (XC L) = (t.length : Int) + 1 := by rw [hr, YbP, YbP]; simp at b ⊢; omega
    simp at b
    rw [e1, w64 (n := (t.length : Int) + 1) Z0 Z0, w64 (n := (t.length : Int) + 1 - 1) Z0 Z0]
    omega
   simp only [Ye.j2, Xe hLs, (YP hLs).2, Vs, (YP hLs).1, ↓reduceIte, Ur (show Ud [46, 40] from Z1), Option.bind_some, Xn, hw, Yck, Ycj, h6, h7]
   refine Ev.bind (Yac hs (Xw hR2)) ?_
   simp only [VV hu, Ut, ↓reduceIte, h8]
   exact Ev.now _
 | @print l L r t r2 b q hL h0 hw hr hu ht hq ih =>
   intro hl acc hb
   have hLs := YT hl hL
   have hR := XB hLs
   have hR2 := hR
   rw [hr] at hR2
   have hr1 := Xw hR2
   have hc : (41 :: r2) <:+ s.data.toList := VP (UF hr1 hu)
   refine UP hs acc hl hL h0 ?_
   have h6 : ¬ pos s (XC L) = s.size := by rw [hr]; exact Ut
   have h7 : wrap64 (pos s (XC L) + 1) = pos s r := by rw [hr]; exact YX hs hR2
   have h1 := Xi hu
   have h2 := Va hL h0
   rw [hr] at h2
   simp at h2
   have h8 : ¬ wrap64 (wrap64 (pos s (41 :: r2) - pos s (XC L)) - 1) > 255 := by
    have b := VI hR2
    have e1 : pos s (41 :: r2) - pos s (XC L) = (t.length : Int) + 1 := by rw [hr, YbP, YbP]; simp at b ⊢; omega
    simp at b
    rw [e1, w64 (n := (t.length : Int) + 1) Z0 Z0, w64 (n := (t.length : Int) + 1 - 1) Z0 Z0]
    omega
   have h3 : acc.length < 4398046511104 := by omega
   simp only [Ye.j2, Xe hLs, (YP hLs).2, Vs, (YP hLs).1, ↓reduceIte, Ur (show Ud [46, 40] from Z1), Option.bind_some, Xn, hw, Yck, Ycj, h6, h7]
   refine Ev.bind (Yac hs (Xw hR2)) ?_
   simp only [VV hu, Ut, ↓reduceIte, h8, Xe hr1, up_le hu, Vs, h3, Yd6 hr1 hu, YX hs hc]
   rw [Je]
   exact ih (Xw hc) _ Zm
 | @noQuot l L r t r2 b e hL h0 hw hr hq he =>
   intro hl acc hb
   have hLs := YT hl hL
   have hR := XB hLs
   have hR2 := hR
   rw [hr] at hR2
   refine UP hs acc hl hL h0 ?_
   have hspw : Ud (XR L) := hw.elim (fun h => .inr (.inr (.inr (.inl h)))) (fun h => .inr (.inr (.inr (.inr h))))
   have h6 : ¬ pos s (XC L) = s.size := by rw [hr]; exact Ut
   have h7 : wrap64 (pos s (XC L) + 1) = pos s r := by rw [hr]; exact YX hs hR2
   have a1 : ¬ (XR L = [92]) := by rcases hw with h | h <;> rw [h] <;> decide
   have a2 : ¬ (XR L = [40]) := by rcases hw with h | h <;> rw [h] <;> decide
   have a3 : ¬ (XR L = [46, 40]) := by rcases hw with h | h <;> rw [h] <;> decide
   obtain ⟨p, hp, _⟩ := Ybk s hs hq (Xw hR2) (by have := VI hR2; simp at this ⊢; omega)
   simp only [Ye.j2, Xe hLs, (YP hLs).2, Vs, (YP hLs).1, ↓reduceIte, Ur hspw, Option.bind_some, Xn, a1, a2, a3, h6, h7]
   have hp2 : Ev (fun k => Ya.f k s (pos s r)) (byt t, p, e) := hp
   refine Ev.bind hp2 ?_
   simp only [he, ↓reduceIte]
   have : fin acc (e, []) = ([], e) := by simp [fin, he]
   rw [this]
   exact Ev.now _
 | @quot l L r t r2 b q hL h0 hw hr hq hc ih =>
   intro hl acc hb
   have hLs := YT hl hL
   have hR := XB hLs
   have hR2 := hR
   rw [hr] at hR2
   refine UP hs acc hl hL h0 ?_
   have hspw : Ud (XR L) := hw.elim (fun h => .inr (.inr (.inr (.inl h)))) (fun h => .inr (.inr (.inr (.inr h))))
   have h6 : ¬ pos s (XC L) = s.size := by rw [hr]; exact Ut
   have h7 : wrap64 (pos s (XC L) + 1) = pos s r := by rw [hr]; exact YX hs hR2
   have a1 : ¬ (XR L = [92]) := by rcases hw with h | h <;> rw [h] <;> decide
   have a2 : ¬ (XR L = [40]) := by rcases hw with h | h <;> rw [h] <;> decide
   have a3 : ¬ (XR L = [46, 40]) := by rcases hw with h | h <;> rw [h] <;> decide
   obtain ⟨p, hp, hpr⟩ := Ybk s hs hq (Xw hR2) (by have := VI hR2; simp at this ⊢; omega)
   have h1 := JA hq rfl
   have h2 := Va hL h0
   rw [hr] at h2
   simp at h2
   have h3 : acc.length < 4398046511104 := by omega
   have hs2 : r2 <:+ s.data.toList := YdX hq rfl (Xw hR2)
   have ih2 := ih hs2 (acc ++ [⟨if XR L = [34] then 2 else 3, byt t, (s.size : Int) - L.length⟩]) Zm
   simp only [Ye.j2, Xe hLs, (YP hLs).2, Vs, (YP hLs).1, ↓reduceIte, Ur hspw, Option.bind_some, Xn, a1, a2, a3, h6, h7]
   have hp2 : Ev (fun k => Ya.f k s (pos s r)) (byt t, p, 0) := hp
   rw [hpr rfl] at hp2
   refine Ev.bind hp2 ?_
   rw [Je]
   by_cases h4 : XR L = [34]
   ·simp only [h4, ↓reduceIte, h3] at ih2 ⊢; exact ih2
   ·simp only [h4, ↓reduceIte, h3] at ih2 ⊢; exact ih2
 | @word l L q hL h0 hw hq ih =>
   intro hl acc hb
   have hLs := YT hl hL
   have hR := XB hLs
   have h2 := Va hL h0
   have h3 : acc.length < 4398046511104 := by omega
   refine UP hs acc hl hL h0 ?_
   simp only [Ye.j2, Xe hLs, (YP hLs).2, Vs, (YP hLs).1, ↓reduceIte, Ybj, decide_eq_false hw, Option.bind_some, Bool.false_eq_true]
   refine Ev.bind (rsmall_f _ (Ybx hLs hs)) ?_
   simp only [h3, ↓reduceIte]
   rw [Je]
   exact ih hR _ Zm
theorem cuts (s : ByteArray) (hs : s.size ≤ 4096) {q : Int × List S59} (h : CutR (s.size : Int) s.data.toList q) :
 Ev (fun k => YN.f k s) (fin [] q) ∧ Ev (fun k => Ye.f k s) (fin [] q) := by
 have hp : pos s s.data.toList = 0 := by unfold pos; rw [Js]; omega
 have hlen := Js s
 have h1 := cut_ev s hs h (List.suffix_refl _) [] Zm
 have h2 := rcut_ev s hs h (List.suffix_refl _) [] Zm
 rw [hp] at h1 h2
 constructor
 ·simp only [YN.f, show ¬ ((s.size : Int) > 4096) by omega, ↓reduceIte]; exact h1
 ·simp only [Ye.f, show ¬ ((s.size : Int) > 4096) by omega, ↓reduceIte]; exact h2
theorem cut_count {N : Int} {l : List UInt8} {q : Int × List S59} (h : CutR N l q) : q.2.length ≤ l.length := by
 induction h with
 | done _ => simp
 | lineEnd _ _ _ _ => simp
 | line hL h0 hw hu hq ih => have := Xi hu; have := Va hL h0; omega
 | noParen _ _ _ _ => simp
 | paren hL h0 hw hu hq ih => have := Xi hu; have := Va hL h0; omega
 | bare _ _ _ _ _ _ => simp
 | noPrint _ _ _ _ _ => simp
 | longPrint _ _ _ _ _ _ => simp
 | print hL h0 hw hr hu ht hq ih =>
   have := Xi hu; have h2 := Va hL h0; rw [hr] at h2; simp at h2
   unfold consT; split <;> simp <;> omega
 | noQuot _ _ _ _ _ _ => simp
 | quot hL h0 hw hr hq hc ih =>
   have := JA hq rfl; have h2 := Va hL h0; rw [hr] at h2; simp at h2
   unfold consT; split <;> simp <;> omega
 | word hL h0 hw hq ih =>
   have h2 := Va hL h0
   unfold consT; split <;> simp <;> omega
end Go.Proofs.Ytehmhgpogpbjiaa
namespace Go.Proofs.Ytehmhgpogpbjiaa.Fcc
open Go.RowKit Go.Proofs.Ytehmhgpogpbjiaa Go.Proofs.YtehmhgpogpbjiaaW.PrintWords Go.Proofs.YtehmhgpogpbjiaaW.PrintLast Go.Proofs.YtehmhgpogpbjiaaW.PrintMore Go.Proofs.Ytehmhgpogpbjiaa.PFccTokens
noncomputable def cutP (s : ByteArray) : List S59 × Int :=
 if s.size ≤ 4096 then fin [] (Classical.choose (Yeb (s.size : Int) _ s.data.toList (Nat.lt_succ_self _))) else ([], 3)
theorem YdD (s : ByteArray) : Ev (fun k => YN.f k s) (cutP s) ∧ Ev (fun k => Ye.f k s) (cutP s) := by
 unfold cutP
 by_cases h : s.size ≤ 4096
 ·rw [if_pos h]
  exact cuts s h (Classical.choose_spec (Yeb (s.size : Int) _ s.data.toList (Nat.lt_succ_self _)))
 ·rw [if_neg h]
  constructor
  ·simp only [YN.f, show (s.size : Int) > 4096 by omega, ↓reduceIte]
   exact Ev.now _
  ·simp only [Ye.f, show (s.size : Int) > 4096 by omega, ↓reduceIte]
   exact Ev.now _
theorem Yae : CutC 16 cutP := by
 intro s W hs
 obtain ⟨k, h⟩ := (YdD s).1.rounds
 exact YN.calls k s (cutP s).1 (cutP s).2 W h
theorem Jz : CutC 21 cutP := by
 intro s W hs
 obtain ⟨k, h⟩ := (YdD s).2.rounds
 exact Ye.calls k s (cutP s).1 (cutP s).2 W h
theorem cutP_eq {s : ByteArray} {k : Nat} {r : List S59 × Int} (h : YN.f k s = some r) : cutP s = r := by
 obtain ⟨K, hK⟩ := (YdD s).1
 obtain ⟨K2, hK2⟩ := Ev.of (g := fun k => YN.f k s) (YN.mono s) h
 have e1 := hK (max K K2) (Nat.le_max_left _ _)
 have e2 := hK2 (max K K2) (Nat.le_max_right _ _)
 exact Option.some.inj (e1.symm.trans e2)
theorem YdZ (t r : List UInt8) : (limL t r).2.1.length ≤ 255 := by
 unfold limL; split
 ·simp
 ·simp; omega
theorem quot_text {acc l : List UInt8} {e : Int} {t r : List UInt8} (h : UY acc l e t r) : t.length ≤ 255 := by
 induction h with
 | none _ => simp
 | fin _ => exact YdZ _ _
 | blank _ _ => exact YdZ _ _
 | bad _ _ _ => simp
 | noend _ _ => simp
 | nohex _ _ _ => simp
 | hex _ _ _ _ ih => exact ih
theorem byt_size (l : List UInt8) : (byt l).size = l.length := rfl
theorem JS {M : Nat} {x : S59} {q : Int × List S59} (hx : x.f1.size ≤ M) (h : ∀ t ∈ q.2, t.f1.size ≤ M) : ∀ t ∈ (consT x q).2, t.f1.size ≤ M := by
 unfold consT; split
 ·intro t ht
  rcases List.mem_cons.1 ht with rfl | ht
  ·exact hx
  ·exact h t ht
 ·intro t ht; cases ht
theorem cut_texts {N : Int} {l : List UInt8} {q : Int × List S59} {M : Nat} (hM : 255 ≤ M) (h : CutR N l q) : l.length ≤ M → ∀ t ∈ q.2, t.f1.size ≤ M := by
 induction h with
 | done _ => intro _ t ht; cases ht
 | lineEnd _ _ _ _ => intro _ t ht; cases ht
 | line hL h0 hw hu hq ih => intro hl; have := Xi hu; have := Va hL h0; exact ih Z0
 | noParen _ _ _ _ => intro _ t ht; cases ht
 | paren hL h0 hw hu hq ih => intro hl; have := Xi hu; have := Va hL h0; exact ih Z0
 | bare _ _ _ _ _ _ => intro _ t ht; cases ht
 | noPrint _ _ _ _ _ => intro _ t ht; cases ht
 | longPrint _ _ _ _ _ _ => intro _ t ht; cases ht
 | print hL h0 hw hr hu ht hq ih =>
   intro hl
   have := Xi hu; have h2 := Va hL h0; rw [hr] at h2; simp at h2
   exact JS (by rw [byt_size]; omega) (ih Z0)
 | noQuot _ _ _ _ _ _ => intro _ t ht; cases ht
 | quot hL h0 hw hr hq hc ih =>
   intro hl
   have := JA hq rfl; have h2 := Va hL h0; rw [hr] at h2; simp at h2
   exact JS (by have := quot_text hq; rw [byt_size]; omega) (ih Z0)
 | word hL h0 hw hq ih =>
   intro hl
   have h2 := Va hL h0
   have h4 : ∀ X : List UInt8, (XR X).length ≤ X.length := fun X => Nat.le_trans (Nat.le_add_right _ _) (Nat.le_of_eq (Jw X))
   refine JS ?_ (ih Z0)
   rw [byt_size, List.length_map]
   refine Nat.le_trans (h4 _) ?_
   rw [← hL]
   exact Nat.le_trans (Yd9 _) hl
theorem cut_ok : CutOk cutP := by
 constructor
 ·intro s
  unfold cutP
  by_cases h : s.size ≤ 4096
  ·rw [if_pos h]
   have hc := cut_count (Classical.choose_spec (Yeb (s.size : Int) _ s.data.toList (Nat.lt_succ_self _)))
   have hl : s.data.toList.length = s.size := by simp
   replace hc := Nat.le_trans hc (Nat.le_of_eq hl)
   unfold fin; dsimp only; split
   ·simp; omega
   ·simp
  ·rw [if_neg h]; simp
 ·intro s
  unfold cutP
  by_cases h : s.size ≤ 4096
  ·rw [if_pos h]
   have hl : s.data.toList.length = s.size := by simp
   have hc := cut_texts (M := 4096) Z0 (Classical.choose_spec (Yeb (s.size : Int) _ s.data.toList (Nat.lt_succ_self _))) Z0
   unfold fin; dsimp only; split
   ·simpa using hc
   ·simp
  ·rw [if_neg h]; simp
end Go.Proofs.Ytehmhgpogpbjiaa.Fcc
namespace Go.Proofs.Ytehmhgpogpbjiaa.Fcc
open Go.RowKit Go.Proofs.YtehmhgpogpbjiaaW.PrintWords Go.Proofs.YtehmhgpogpbjiaaW.PrintLast Go.Proofs.YtehmhgpogpbjiaaW.PrintMore Go.Proofs.Ytehmhgpogpbjiaa.PFccTokens
set_option maxRecDepth 100000
set_option maxHeartbeats 4000000
theorem Yff : Jn := by
 intro s w
 by_cases h0 : s.toList = ([105, 102] : List UInt8)
 ·have hr : YS s = true := by unfold YS; rw [h0]; decide
  simp only [hr, if_true]
  obtain rfl := Xd h0
  clear hr h0
  go_enter Try.func34, Try.ntmps34
  go_wp2_with fail
  exact Zw
 by_cases h1 : s.toList = ([119, 104, 105, 108, 101] : List UInt8)
 ·have hr : YS s = true := by unfold YS; rw [h1]; decide
  simp only [hr, if_true]
  obtain rfl := Xd h1
  clear hr h1 h0
  go_enter Try.func34, Try.ntmps34
  go_wp2_with fail
  exact Zw
 by_cases h2 : s.toList = ([101, 108, 115, 101] : List UInt8)
 ·have hr : YS s = true := by unfold YS; rw [h2]; decide
  simp only [hr, if_true]
  obtain rfl := Xd h2
  clear hr h2 h0 h1
  go_enter Try.func34, Try.ntmps34
  go_wp2_with fail
  exact Z2K
 by_cases h3 : s.toList = ([116, 104, 101, 110] : List UInt8)
 ·have hr : YS s = true := by unfold YS; rw [h3]; decide
  simp only [hr, if_true]
  obtain rfl := Xd h3
  clear hr h3 h0 h1 h2
  go_enter Try.func34, Try.ntmps34
  go_wp2_with fail
  exact Zw
 by_cases h4 : s.toList = ([98, 101, 103, 105, 110] : List UInt8)
 ·have hr : YS s = true := by unfold YS; rw [h4]; decide
  simp only [hr, if_true]
  obtain rfl := Xd h4
  clear hr h4 h0 h1 h2 h3
  go_enter Try.func34, Try.ntmps34
  go_wp2_with fail
  exact Zw
 by_cases h5 : s.toList = ([97, 103, 97, 105, 110] : List UInt8)
 ·have hr : YS s = true := by unfold YS; rw [h5]; decide
  simp only [hr, if_true]
  obtain rfl := Xd h5
  clear hr h5 h0 h1 h2 h3 h4
  go_enter Try.func34, Try.ntmps34
  go_wp2_with fail
  exact Zw
 by_cases h6 : s.toList = ([117, 110, 116, 105, 108] : List UInt8)
 ·have hr : YS s = true := by unfold YS; rw [h6]; decide
  simp only [hr, if_true]
  obtain rfl := Xd h6
  clear hr h6 h0 h1 h2 h3 h4 h5
  go_enter Try.func34, Try.ntmps34
  go_wp2_with fail
  exact Zw
 by_cases h7 : s.toList = ([114, 101, 112, 101, 97, 116] : List UInt8)
 ·have hr : YS s = true := by unfold YS; rw [h7]; decide
  simp only [hr, if_true]
  obtain rfl := Xd h7
  clear hr h7 h0 h1 h2 h3 h4 h5 h6
  go_enter Try.func34, Try.ntmps34
  go_wp2_with fail
  exact Z2K
 by_cases h8 : s.toList = ([100, 111] : List UInt8)
 ·have hr : YS s = true := by unfold YS; rw [h8]; decide
  simp only [hr, if_true]
  obtain rfl := Xd h8
  clear hr h8 h0 h1 h2 h3 h4 h5 h6 h7
  go_enter Try.func34, Try.ntmps34
  go_wp2_with fail
  exact Zw
 by_cases h9 : s.toList = ([63, 100, 111] : List UInt8)
 ·have hr : YS s = true := by unfold YS; rw [h9]; decide
  simp only [hr, if_true]
  obtain rfl := Xd h9
  clear hr h9 h0 h1 h2 h3 h4 h5 h6 h7 h8
  go_enter Try.func34, Try.ntmps34
  go_wp2_with fail
  exact Zw
 by_cases h10 : s.toList = ([108, 111, 111, 112] : List UInt8)
 ·have hr : YS s = true := by unfold YS; rw [h10]; decide
  simp only [hr, if_true]
  obtain rfl := Xd h10
  clear hr h10 h0 h1 h2 h3 h4 h5 h6 h7 h8 h9
  go_enter Try.func34, Try.ntmps34
  go_wp2_with fail
  exact Zw
 by_cases h11 : s.toList = ([43, 108, 111, 111, 112] : List UInt8)
 ·have hr : YS s = true := by unfold YS; rw [h11]; decide
  simp only [hr, if_true]
  obtain rfl := Xd h11
  clear hr h11 h0 h1 h2 h3 h4 h5 h6 h7 h8 h9 h10
  go_enter Try.func34, Try.ntmps34
  go_wp2_with fail
  exact Zw
 by_cases h12 : s.toList = ([108, 101, 97, 118, 101] : List UInt8)
 ·have hr : YS s = true := by unfold YS; rw [h12]; decide
  simp only [hr, if_true]
  obtain rfl := Xd h12
  clear hr h12 h0 h1 h2 h3 h4 h5 h6 h7 h8 h9 h10 h11
  go_enter Try.func34, Try.ntmps34
  go_wp2_with fail
  exact Zw
 by_cases h13 : s.toList = ([99, 97, 115, 101] : List UInt8)
 ·have hr : YS s = true := by unfold YS; rw [h13]; decide
  simp only [hr, if_true]
  obtain rfl := Xd h13
  clear hr h13 h0 h1 h2 h3 h4 h5 h6 h7 h8 h9 h10 h11 h12
  go_enter Try.func34, Try.ntmps34
  go_wp2_with fail
  exact Zw
 by_cases h14 : s.toList = ([111, 102] : List UInt8)
 ·have hr : YS s = true := by unfold YS; rw [h14]; decide
  simp only [hr, if_true]
  obtain rfl := Xd h14
  clear hr h14 h0 h1 h2 h3 h4 h5 h6 h7 h8 h9 h10 h11 h12 h13
  go_enter Try.func34, Try.ntmps34
  go_wp2_with fail
  exact Zw
 by_cases h15 : s.toList = ([101, 110, 100, 111, 102] : List UInt8)
 ·have hr : YS s = true := by unfold YS; rw [h15]; decide
  simp only [hr, if_true]
  obtain rfl := Xd h15
  clear hr h15 h0 h1 h2 h3 h4 h5 h6 h7 h8 h9 h10 h11 h12 h13 h14
  go_enter Try.func34, Try.ntmps34
  go_wp2_with fail
  exact Zw
 by_cases h16 : s.toList = ([101, 110, 100, 99, 97, 115, 101] : List UInt8)
 ·have hr : YS s = true := by unfold YS; rw [h16]; decide
  simp only [hr, if_true]
  obtain rfl := Xd h16
  clear hr h16 h0 h1 h2 h3 h4 h5 h6 h7 h8 h9 h10 h11 h12 h13 h14 h15
  go_enter Try.func34, Try.ntmps34
  go_wp2_with fail
  exact Zw
 have hr : YS s = false := by
  unfold YS
  simp only [List.mem_cons, List.not_mem_nil, h0, h1, h2, h3, h4, h5, h6, h7, h8, h9, h10, h11, h12, h13, h14, h15, h16, or_self, decide_false]
 simp only [hr, Bool.false_eq_true, if_false]
 have b0 : (s.toList == ([105, 102] : List UInt8)) = false := beq_eq_false_iff_ne.mpr h0
 have b1 : (s.toList == ([119, 104, 105, 108, 101] : List UInt8)) = false := beq_eq_false_iff_ne.mpr h1
 have b2 : (s.toList == ([101, 108, 115, 101] : List UInt8)) = false := beq_eq_false_iff_ne.mpr h2
 have b3 : (s.toList == ([116, 104, 101, 110] : List UInt8)) = false := beq_eq_false_iff_ne.mpr h3
 have b4 : (s.toList == ([98, 101, 103, 105, 110] : List UInt8)) = false := beq_eq_false_iff_ne.mpr h4
 have b5 : (s.toList == ([97, 103, 97, 105, 110] : List UInt8)) = false := beq_eq_false_iff_ne.mpr h5
 have b6 : (s.toList == ([117, 110, 116, 105, 108] : List UInt8)) = false := beq_eq_false_iff_ne.mpr h6
 have b7 : (s.toList == ([114, 101, 112, 101, 97, 116] : List UInt8)) = false := beq_eq_false_iff_ne.mpr h7
 have b8 : (s.toList == ([100, 111] : List UInt8)) = false := beq_eq_false_iff_ne.mpr h8
 have b9 : (s.toList == ([63, 100, 111] : List UInt8)) = false := beq_eq_false_iff_ne.mpr h9
 have b10 : (s.toList == ([108, 111, 111, 112] : List UInt8)) = false := beq_eq_false_iff_ne.mpr h10
 have b11 : (s.toList == ([43, 108, 111, 111, 112] : List UInt8)) = false := beq_eq_false_iff_ne.mpr h11
 have b12 : (s.toList == ([108, 101, 97, 118, 101] : List UInt8)) = false := beq_eq_false_iff_ne.mpr h12
 have b13 : (s.toList == ([99, 97, 115, 101] : List UInt8)) = false := beq_eq_false_iff_ne.mpr h13
 have b14 : (s.toList == ([111, 102] : List UInt8)) = false := beq_eq_false_iff_ne.mpr h14
 have b15 : (s.toList == ([101, 110, 100, 111, 102] : List UInt8)) = false := beq_eq_false_iff_ne.mpr h15
 have b16 : (s.toList == ([101, 110, 100, 99, 97, 115, 101] : List UInt8)) = false := beq_eq_false_iff_ne.mpr h16
 clear hr h0 h1 h2 h3 h4 h5 h6 h7 h8 h9 h10 h11 h12 h13 h14 h15 h16
 go_enter Try.func34, Try.ntmps34
 go_wp2_with fail
 exact bodyPost_ret (v := .slice none 0 0) Zp rfl ⟨_, _, _, rfl, rfl, Below.refl _ _⟩
end Go.Proofs.Ytehmhgpogpbjiaa.Fcc
