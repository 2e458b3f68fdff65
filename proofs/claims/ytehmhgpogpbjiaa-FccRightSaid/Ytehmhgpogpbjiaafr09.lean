import Derived.Test.Ytehmhgpogpbjiaafr08
set_option linter.unusedVariables false
set_option linter.unusedSimpArgs false
set_option maxRecDepth 100000
set_option maxHeartbeats 8000000
namespace Go.Proofs.Ytehmhgpogpbjiaa
open Go.RowKit Go.Proofs.YtehmhgpogpbjiaaW.PrintWords Go.Proofs.YtehmhgpogpbjiaaW.PrintLast Go.Proofs.Ytehmhgpogpbjiaa.PFccTokens
theorem Jm (s : ByteArray) : s.data.toList.length = s.size := by simp
def pos (s : ByteArray) (l : List UInt8) : Int := (s.size : Int) - l.length
theorem Vy {s : ByteArray} {l : List UInt8} (h : l <:+ s.data.toList) : l.length ≤ s.size := by
 have := h.length_le
 rwa [Jm] at this
theorem Xg {s : ByteArray} {l : List UInt8} (h : l <:+ s.data.toList) : 0 ≤ pos s l := by
 have := Vy h; unfold pos; omega
theorem XB {s : ByteArray} {b : UInt8} {r : List UInt8} (h : (b :: r) <:+ s.data.toList) : r <:+ s.data.toList := (List.suffix_cons b r).trans h
theorem VF {s : ByteArray} {w r : List UInt8} (h : (w ++ r) <:+ s.data.toList) : r <:+ s.data.toList := (List.suffix_append w r).trans h
theorem YaI {s : ByteArray} {l : List UInt8} (h : l <:+ s.data.toList) : s.data.toList.drop (pos s l).toNat = l := by
 obtain ⟨p, hp⟩ := h
 have h1 := congrArg List.length hp
 rw [List.length_append, Jm] at h1
 have : (pos s l).toNat = p.length := by unfold pos; omega
 rw [this, ← hp, List.drop_left]
theorem bt_get (s : ByteArray) (i : Nat) : bt s (i : Int) = (s.data.toList.getD i 0).toNat := by
 unfold bt
 split
 ·rename_i h
  have h' : i < s.data.toList.length := by simpa using h
  have : s.data.toList.getD i 0 = s.data.toList[i] := by simp [List.getD_eq_getElem?_getD, List.getElem?_eq_getElem h']
  rw [this]
  rfl
 ·rename_i h
  have h' : s.data.toList.length ≤ i := by simp at h ⊢; exact h
  simp [List.getD_eq_getElem?_getD, List.getElem?_eq_none h']
theorem Vr {s : ByteArray} {b : UInt8} {r : List UInt8} (h : (b :: r) <:+ s.data.toList) : bt s (pos s (b :: r)) = (b.toNat : Int) := by
 have h1 := YaI h
 have h2 := Xg h
 obtain ⟨i, hi⟩ : ∃ i : Nat, pos s (b :: r) = i := ⟨(pos s (b :: r)).toNat, Z0⟩
 rw [hi] at h1 ⊢
 rw [bt_get]
 rw [Int.toNat_natCast] at h1
 have : s.data.toList[i]? = some b := by
  have := congrArg (fun l => l[0]?) h1
  simpa [List.getElem?_drop] using this
 rw [List.getD_eq_getElem?_getD, this]
 rfl
theorem Jt (s : ByteArray) (b : UInt8) (r : List UInt8) : pos s r = pos s (b :: r) + 1 := by unfold pos; simp; omega
theorem pos_app (s : ByteArray) (w r : List UInt8) : pos s r = pos s (w ++ r) + w.length := by unfold pos; simp; omega
theorem Vi (s : ByteArray) (l : List UInt8) : pos s l ≤ s.size := by unfold pos; omega
theorem w64 {n : Int} (h0 : 0 ≤ n) (h1 : n ≤ 9223372036854775807) : wrap64 n = n := IntWalk.wrap64_in _ ⟨Z0, Z0⟩
theorem YX {s : ByteArray} {b : UInt8} {r : List UInt8} (hs : s.size ≤ 4096) (h : (b :: r) <:+ s.data.toList) : wrap64 (pos s (b :: r) + 1) = pos s r := by
 have := Xg h
 have := Vi s (b :: r)
 rw [w64 Z0 Z0, Jt s b r]
theorem Xq {s : ByteArray} {b : UInt8} {r : List UInt8} : pos s (b :: r) < (s.size : Int) := by unfold pos; simp; omega
theorem XX (s : ByteArray) : pos s [] = s.size := by simp [pos]
theorem Ybv {s : ByteArray} {w r : List UInt8} : pos s (w ++ r) ≤ pos s r := by have := pos_app s w r; omega
theorem UL {s : ByteArray} {w r : List UInt8} (h : (w ++ r) <:+ s.data.toList) : s.extract (pos s (w ++ r)).toNat (pos s r).toNat = byt w := by
 have h1 := YaI h
 have h2 := Xg h
 have h3 := pos_app s w r
 have h4 : (s.extract (pos s (w ++ r)).toNat (pos s r).toNat).data.toList = w := by
  rw [ByteArray.data_extract, Array.toList_extract, List.extract_eq_take_drop, h1]
  have : (pos s r).toNat - (pos s (w ++ r)).toNat = w.length := by omega
  rw [this, List.take_left]
 cases hx : s.extract (pos s (w ++ r)).toNat (pos s r).toNat with
 | mk d => rw [hx] at h4; cases d with | mk l => simp at h4; subst h4; rfl
theorem YcN (b : UInt8) : decide ((b.toNat : Int) ≤ 32) = isB b := by
 unfold isB; exact decide_eq_decide.2 Z0
theorem VQ {s : ByteArray} {b : UInt8} {r : List UInt8} (h : (b :: r) <:+ s.data.toList) : YU.f (bt s (pos s (b :: r))) = some (isB b) := by
 rw [Vr h]; unfold YU.f; rw [YcN]
theorem Yb1 (b : UInt8) (r : List UInt8) : XG (b :: r) = if isB b then b :: r else XG r := by
 unfold XG
 rw [List.dropWhile_cons]
 cases isB b <;> rfl
theorem l1_ev (s : ByteArray) (hs : s.size ≤ 4096) (L : List UInt8) : ∀ m w : List UInt8, L = w ++ m → L <:+ s.data.toList →
 Ev (fun k => Yh.l1 k (pos s L) s (pos s m)) (s.extract (pos s L).toNat (pos s (XG m)).toNat, decide (pos s (XG m) > pos s L), s, pos s (XG m))
 | [], w, e, hL => by
   have h0 := Xg hL
   have h1 := Vi s L
   refine Ev.step (f := fun _ => some (s.extract (pos s L).toNat (pos s (XG [])).toNat, decide (pos s (XG []) > pos s L), s, pos s (XG []))) (fun k => ?_) (Ev.now _)
   have : XG [] = [] := rfl
   rw [this, XX]
   show Yh.l1 (k + 1) _ _ _ = _
   unfold Yh.l1
   rw [if_neg Z0, if_pos h0, if_pos h1, if_pos (Int.le_refl _)]
 | b :: m, w, e, hL => by
   have h0 := Xg hL
   have h1 := Vi s L
   have hm : (b :: m) <:+ s.data.toList := by subst e; exact VF hL
   have h2 := Xg hm
   have h3 : pos s L ≤ pos s (b :: m) := by subst e; exact Ybv
   rw [Yb1]
   cases hb : isB b with
   | true =>
     refine Ev.step (f := fun _ => some (s.extract (pos s L).toNat (pos s (b :: m)).toNat, decide (pos s (b :: m) > pos s L), s, pos s (b :: m))) (fun k => ?_) (Ev.now _)
     show Yh.l1 (k + 1) _ _ _ = _
     unfold Yh.l1
     rw [if_pos Xq, if_pos h2, VQ hm, hb]
     simp only [Option.bind_some, if_true]
     rw [if_pos h0, if_pos h3, if_pos (by have := Xq (s := s) (b := b) (r := m); omega)]
   | false =>
     refine Ev.step (f := fun k => Yh.l1 k (pos s L) s (pos s m)) (fun k => ?_) ?_
     ·show Yh.l1 (k + 1) _ _ _ = _
      conv => lhs; unfold Yh.l1
      rw [if_pos Xq, if_pos h2, VQ hm, hb, YX hs hm]
      simp only [Option.bind_some, Bool.false_eq_true, if_false]
     ·exact l1_ev s hs L m (w ++ [b]) (by rw [e]; simp) hL
theorem Yag (s : ByteArray) (hs : s.size ≤ 4096) : ∀ l : List UInt8, l <:+ s.data.toList →
 Ev (fun k => Yh.f k s (pos s l)) (byt (XP (l.dropWhile isB)), decide (l.dropWhile isB ≠ []), s, pos s (XG (l.dropWhile isB)))
 | [], h => by
   have hl := l1_ev s hs [] [] [] rfl h
   have e1 : s.extract (pos s []).toNat (pos s (XG [])).toNat = byt [] := UL (w := []) h
   have e2 : decide (pos s (XG []) > pos s []) = decide (([] : List UInt8) ≠ []) := by simp [XG]
   rw [e1, e2] at hl
   refine Ev.step (f := fun k => Yh.j1 k s (pos s [])) (fun k => ?_) (Ev.step (fun k => ?_) hl)
   ·show Yh.l0 (k + 1) _ _ = _
    conv => lhs; unfold Yh.l0
    rw [if_neg (by rw [XX]; omega)]
   ·show Yh.j1 (k + 1) _ _ = _
    conv => lhs; unfold Yh.j1
 | b :: r, h => by
   have h2 := Xg h
   cases hb : isB b with
   | true =>
     rw [show (b :: r).dropWhile isB = r.dropWhile isB by rw [List.dropWhile_cons, hb]; rfl]
     refine Ev.step (f := fun k => Yh.l0 k s (pos s r)) (fun k => ?_) (Yag s hs r (XB h))
     show Yh.l0 (k + 1) _ _ = _
     conv => lhs; unfold Yh.l0
     rw [if_pos Xq, if_pos h2, VQ h, hb, YX hs h]
     simp only [Option.bind_some, if_true]
   | false =>
     rw [show (b :: r).dropWhile isB = b :: r by rw [List.dropWhile_cons, hb]; rfl]
     have hl := l1_ev s hs (b :: r) (b :: r) [] rfl h
     have e1 : s.extract (pos s (b :: r)).toNat (pos s (XG (b :: r))).toNat = byt (XP (b :: r)) := by
      have := UL (s := s) (w := XP (b :: r)) (r := XG (b :: r)) (by rw [UE]; exact h)
      rwa [UE] at this
     have e2 : decide (pos s (XG (b :: r)) > pos s (b :: r)) = decide (b :: r ≠ []) := by
      have h5 := UT (b :: r)
      have h6 := Yc8 (r := r) hb
      rw [decide_eq_true (by unfold pos; omega), decide_eq_true Z3]
     rw [e1, e2] at hl
     refine Ev.step (f := fun k => Yh.j1 k s (pos s (b :: r))) (fun k => ?_) (Ev.step (fun k => ?_) hl)
     ·show Yh.l0 (k + 1) _ _ = _
      conv => lhs; unfold Yh.l0
      rw [if_pos Xq, if_pos h2, VQ h, hb]
      simp only [Option.bind_some, Bool.false_eq_true, if_false]
     ·show Yh.j1 (k + 1) _ _ = _
      conv => lhs; unfold Yh.j1
theorem Uj (l : List UInt8) : (byt l).data.toList = l := rfl
theorem byt_size (l : List UInt8) : (byt l).size = l.length := by rw [← Jm]; rfl
theorem Xp (l : List UInt8) : (byt l).toList = l := by rw [Lib.toList_data]; rfl
theorem small1_u8 (b : UInt8) : UInt8.ofNat (UH b.toNat).toNat = Uf b := by
 unfold UH Uf
 by_cases h : 65 ≤ b.toNat ∧ b.toNat ≤ 90
 ·rw [if_pos Z0, if_pos h]
  apply UInt8.toNat_inj.1
  rw [UInt8.toNat_ofNat', UInt8.toNat_add]
  show _ = (b.toNat + 32) % 256
  congr 1
 ·rw [if_neg Z0, if_neg h]
  apply UInt8.toNat_inj.1
  simp
theorem small_f (l : List UInt8) (h : l.length ≤ 4096) : VC.f (byt l) = some (byt (l.map Uf)) := by
 unfold VC.f
 rw [byt_size, if_pos Z0]
 congr 1
 unfold Yao
 rw [Uj]
 show (⟨_⟩ : ByteArray) = ⟨_⟩
 congr 1
 show List.toArray (List.map _ (List.map _ l)) = _
 rw [List.map_map]
 congr 1
 apply List.map_congr_left
 intro b _
 exact small1_u8 b
theorem Yan (w : List UInt8) : XW.f (byt w) = some (decide (VX w)) := by
 unfold XW.f
 rw [Xp]
 by_cases h1 : w = [92]
 ·rw [if_pos h1, decide_eq_true (show VX w from Or.inl h1)]
 rw [if_neg h1]
 by_cases h2 : w = [40]
 ·rw [if_pos h2, decide_eq_true (show VX w from Or.inr (Or.inl h2))]
 rw [if_neg h2]
 by_cases h3 : w = [46, 40]
 ·rw [if_pos h3, decide_eq_true (show VX w from Or.inr (Or.inr (Or.inl h3)))]
 rw [if_neg h3]
 by_cases h4 : w = [34]
 ·rw [if_pos h4, decide_eq_true (show VX w from Or.inr (Or.inr (Or.inr (Or.inl h4))))]
 rw [if_neg h4]
 by_cases h5 : w = [46, 34]
 ·rw [if_pos h5, decide_eq_true (show VX w from Or.inr (Or.inr (Or.inr (Or.inr h5))))]
 rw [if_neg h5, decide_eq_false (show ¬ VX w by rintro (h | h | h | h | h) <;> contradiction)]
theorem Ybg {c : UInt8} : ∀ {l : List UInt8}, upL c l = none → Lib.indexByte l c = -1
 | [], _ => rfl
 | b :: l, h => by
   unfold upL at h
   by_cases e : b = c
   ·rw [if_pos e] at h; cases h
   ·rw [if_neg e] at h
    have h2 : upL c l = none := by cases hu : upL c l with | none => rfl | some p => rw [hu] at h; cases h
    unfold Lib.indexByte
    rw [if_neg (by simpa using e), Ybg h2]
    rfl
theorem Ybf {c : UInt8} : ∀ {l t r : List UInt8}, upL c l = some (t, r) → Lib.indexByte l c = t.length
 | [], _, _, h => by cases h
 | b :: l, t, r, h => by
   unfold upL at h
   by_cases e : b = c
   ·rw [if_pos e] at h
    injection h with h
    injection h with h1 h2
    subst h1
    unfold Lib.indexByte
    rw [if_pos (by simpa using e)]
    rfl
   ·rw [if_neg e] at h
    cases hu : upL c l with
    | none => rw [hu] at h; cases h
    | some p =>
      rw [hu] at h
      obtain ⟨p1, p2⟩ := p
      injection h with h
      injection h with h1 h2
      subst h1 h2
      have ih := Ybf hu
      unfold Lib.indexByte
      rw [if_neg (by simpa using e), ih, if_neg Z3]
      simp
theorem strOf1 (n : Int) : strOfNums [n] = byt [UInt8.ofNat n.toNat] := rfl
theorem cut_some {s : ByteArray} {l t r : List UInt8} {c : UInt8} (hs : s.size ≤ 4096) (hl : l <:+ s.data.toList) (hu : upL c l = some (t, r)) :
 XL.f (s.extract (pos s l).toNat s.size) (byt [c]) = some (byt t, byt r, true) := by
 have h1 := (US hu).1
 have e1 : s.extract (pos s l).toNat s.size = byt l := by
  have := UL (s := s) (w := l) (r := []) (by rw [List.append_nil]; exact hl)
  rw [List.append_nil, XX] at this
  exact this
 rw [e1]
 have hlen := Vy hl
 unfold XL.f
 rw [byt_size, if_pos Z0, Uj]
 show some (Ya1 (byt l) (Lib.indexByte (byt l).data.toList c)) = _
 rw [Uj, Ybf hu]
 unfold Ya1
 rw [if_pos Z0, Int.toNat_natCast]
 have e2 : (byt l).extract 0 t.length = byt t := by
  have := UL (s := byt l) (w := t) (r := c :: r) (by rw [Uj, h1]; exact List.suffix_refl _)
  rw [show pos (byt l) (t ++ c :: r) = 0 by unfold pos; rw [byt_size, h1]; omega, show (pos (byt l) (c :: r)).toNat = t.length by unfold pos; rw [byt_size, h1]; simp] at this
  exact this
 have e3 : (byt l).extract (t.length + 1) (byt l).size = byt r := by
  have := UL (s := byt l) (w := r) (r := []) (by rw [Uj, h1, List.append_nil]; exact ⟨t ++ [c], Z3⟩)
  rw [List.append_nil, XX, show (pos (byt l) r).toNat = t.length + 1 by unfold pos; rw [byt_size, h1]; simp; omega] at this
  exact this
 rw [e2, e3]
theorem cut_none {s : ByteArray} {l : List UInt8} {c : UInt8} (hs : s.size ≤ 4096) (hl : l <:+ s.data.toList) (hu : upL c l = none) :
 XL.f (s.extract (pos s l).toNat s.size) (byt [c]) = some (byt l, ⟨#[]⟩, false) := by
 have e1 : s.extract (pos s l).toNat s.size = byt l := by
  have := UL (s := s) (w := l) (r := []) (by rw [List.append_nil]; exact hl)
  rw [List.append_nil, XX] at this
  exact this
 rw [e1]
 have hlen := Vy hl
 unfold XL.f
 rw [byt_size, if_pos Z0, Uj]
 show some (Ya1 (byt l) (Lib.indexByte (byt l).data.toList c)) = _
 rw [Uj, Ybg hu]
 rfl
theorem Yai {s : ByteArray} {l t r : List UInt8} {c : UInt8} (hs : s.size ≤ 4096) (hl : l <:+ s.data.toList) (hu : upL c l = some (t, r)) :
 Yk.f s (pos s l) (c.toNat : Int) = some (byt t, true, s, pos s r) := by
 have h0 := Xg hl
 have h1 := Vi s l
 have h2 := Xd hu
 have h3 := Vy hl
 unfold Yk.f
 rw [if_pos ⟨h0, h1, Z0⟩, strOf1, Int.toNat_natCast]
 have : UInt8.ofNat c.toNat = c := by simp
 rw [this, cut_some hs hl hu]
 simp only [Option.bind_some, if_true]
 rw [byt_size]
 congr 3
 unfold pos
 simp only [Prod.mk.injEq, true_and]
 omega
theorem Yaj {s : ByteArray} {l : List UInt8} {c : UInt8} (hs : s.size ≤ 4096) (hl : l <:+ s.data.toList) (hu : upL c l = none) :
 Yk.f s (pos s l) (c.toNat : Int) = some (byt l, false, s, pos s l) := by
 have h0 := Xg hl
 have h1 := Vi s l
 have h3 := Vy hl
 unfold Yk.f
 rw [if_pos ⟨h0, h1, Z0⟩, strOf1, Int.toNat_natCast]
 have : UInt8.ofNat c.toNat = c := by simp
 rw [this, cut_none hs hl hu]
 simp only [Option.bind_some, Bool.false_eq_true, if_false]
def valO (b : UInt8) : Int × Bool := match hexv b with | some v => ((v : Int), true) | none => (0, false)
theorem value_all : ∀ n : Fin 256, Yq.f 4 (n.val : Int) 16 = some (valO (UInt8.ofNat n.val)) := by decide +kernel
theorem value_ev (b : UInt8) : Ev (fun k => Yq.f k (b.toNat : Int) 16) (valO b) := by
 refine Ev.of (Yq.mono _ _) (k := 4) ?_
 have := value_all ⟨b.toNat, UInt8.toNat_lt b⟩
 simpa using this
def ints (l : List UInt8) : List Int := l.map fun b => (b.toNat : Int)
theorem XY (l : List UInt8) : (ints l).length = l.length := by simp [ints]
theorem Ui (a b : List UInt8) : ints (a ++ b) = ints a ++ ints b := by simp [ints]
theorem Vz (l : List UInt8) : Xl (byt l) = ints l := rfl
theorem Jl (l : List UInt8) : strOfNums (ints l) = byt l := by
 show (⟨List.toArray (List.map _ (List.map _ l))⟩ : ByteArray) = ⟨_⟩
 rw [List.map_map]
 congr 2
 conv => rhs; rw [← List.map_id l]
 apply List.map_congr_left
 intro b _
 simp
theorem or_all : ∀ u v : Fin 16, (Go.bits .or .u32 (((u.val : Int) * 16) % 4294967296) (v.val : Int)) % 256 = (u.val : Int) * 16 + v.val := by decide +kernel
def JJ : Option Nat → List Int
 | none => []
 | some u => [(u : Int)]
theorem hexL_len : ∀ (m : List UInt8) (h : Option Nat) (y : List UInt8), hexL m h = some y → y.length ≤ m.length
 | [], none, y, e => by simp [hexL] at e; subst e; simp
 | [], some _, y, e => by cases e
 | b :: m, h, y, e => by
   unfold hexL at e
   cases hb : isB b with
   | true => rw [hb] at e; have := hexL_len m h y e; simp; omega
   | false =>
     rw [hb] at e
     simp only [Bool.false_eq_true, if_false] at e
     cases hv : hexv b with
     | none => rw [hv] at e; cases e
     | some v =>
       rw [hv] at e
       cases h with
       | none => have := hexL_len m (some v) y e; simp; omega
       | some u =>
         simp only at e
         cases hq : hexL m none with
         | none => rw [hq] at e; cases e
         | some q =>
           rw [hq] at e
           have := hexL_len m none q hq
           injection e with e
           subst e
           simp
           omega
theorem Ut (s : ByteArray) (hs : s.size ≤ 4096) : ∀ (m : List UInt8) (h : Option Nat) (acc : List UInt8), m <:+ s.data.toList → (∀ u, h = some u → u < 16) → acc.length + m.length ≤ 100000 →
 (∀ y, hexL m h = some y → Ev (fun k => Yo.l0 k (ints acc) s (JJ h) (s.size : Int) (pos s m)) (ints (acc ++ y), true)) ∧
 (hexL m h = none → ∃ z, Ev (fun k => Yo.l0 k (ints acc) s (JJ h) (s.size : Int) (pos s m)) (z, false))
 | [], h, acc, hm, hu, hl => by
   have e : ∀ k, Yo.l0 (k + 1) (ints acc) s (JJ h) (s.size : Int) (pos s []) = some (ints acc, ((JJ h).length : Int) == 0) := fun k => by
    conv => lhs; unfold Yo.l0
    rw [if_neg (by rw [XX]; omega)]
   cases h with
   | none =>
     refine ⟨fun y hy => ?_, fun hn => by cases hn⟩
     injection hy with hy
     subst hy
     rw [List.append_nil]
     exact Ev.step e (Ev.now _)
   | some u =>
     exact Z2h
 | b :: m, h, acc, hm, hu, hl => by
   have h2 := Xg hm
   have hl2 : acc.length + m.length ≤ 100000 := by simp at hl; omega
   cases hb : isB b with
   | true =>
     have ih := Ut s hs m h acc (XB hm) hu hl2
     have e : ∀ k, Yo.l0 (k + 1) (ints acc) s (JJ h) (s.size : Int) (pos s (b :: m)) = Yo.l0 k (ints acc) s (JJ h) (s.size : Int) (pos s m) := fun k => by
      conv => lhs; unfold Yo.l0
      rw [if_pos Xq, if_pos h2, if_pos Xq, VQ hm, hb, YX hs hm]
      simp only [Option.bind_some, if_true]
     have e2 : hexL (b :: m) h = hexL m h := by
      conv => lhs; unfold hexL
      rw [hb]; rfl
     rw [e2]
     exact Z2i
   | false =>
     have hv := value_ev b
     cases hh : hexv b with
     | none =>
       have e2 : hexL (b :: m) h = none := by
        conv => lhs; unfold hexL
        rw [hb, hh]
        rfl
       rw [e2]
       refine ⟨fun y hy => (nomatch hy), fun _ => ⟨[], ?_⟩⟩
       have e3 : valO b = (0, false) := by unfold valO; rw [hh]
       rw [e3] at hv
       refine Ev.step (f := fun k => Yo.l0 (k + 1) _ _ _ _ _) (fun k => rfl) ?_
       simp only [Yo.l0, Xq, h2, VQ hm, hb, ↓reduceIte, Option.bind_some, Bool.false_eq_true, YX hs hm]; simp only [Vr hm]
       ·
         refine Ev.bind hv ?_
         simp only [Bool.false_eq_true, if_false]
         exact Ev.now _
     | some v =>
       have e3 : valO b = ((v : Int), true) := by unfold valO; rw [hh]
       rw [e3] at hv
       have hv16 := hexv_lt hh
       cases h with
       | none =>
         have ih := Ut s hs m (some v) acc (XB hm) (fun u e => by injection e; omega) hl2
         have e2 : hexL (b :: m) none = hexL m (some v) := by
          conv => lhs; unfold hexL
          rw [hb, hh]; rfl
         rw [e2]
         have st : ∀ r, Ev (fun k => Yo.l0 k (ints acc) s (JJ (some v)) (s.size : Int) (pos s m)) r → Ev (fun k => Yo.l0 k (ints acc) s (JJ none) (s.size : Int) (pos s (b :: m))) r := by
          intro r hr
          refine Ev.step (f := fun k => Yo.l0 (k + 1) _ _ _ _ _) (fun k => rfl) ?_
          simp only [Yo.l0, Xq, h2, VQ hm, hb, ↓reduceIte, Option.bind_some, Bool.false_eq_true, YX hs hm]; simp only [Vr hm]
          ·
            refine Ev.bind hv ?_
            simpa [JJ] using hr
         exact Z2j
       | some u =>
         have hu16 := hu u rfl
         have hw : (Go.bits .or .u32 (((u : Int) * 16) % 4294967296) (v : Int)) % 256 = (u : Int) * 16 + v := or_all ⟨u, hu16⟩ ⟨v, hv16⟩
         have hw2 : ((UInt8.ofNat (u * 16 + v)).toNat : Int) = (u : Int) * 16 + v := by simp; omega
         have ih := Ut s hs m none (acc ++ [UInt8.ofNat (u * 16 + v)]) (XB hm) (fun u e => nomatch e) (by simp; simp at hl; omega)
         have e2 : hexL (b :: m) (some u) = (hexL m none).map fun r => UInt8.ofNat (u * 16 + v) :: r := by
          conv => lhs; unfold hexL
          rw [hb, hh]; rfl
         rw [e2]
         have st : ∀ r, Ev (fun k => Yo.l0 k (ints (acc ++ [UInt8.ofNat (u * 16 + v)])) s (JJ none) (s.size : Int) (pos s m)) r → Ev (fun k => Yo.l0 k (ints acc) s (JJ (some u)) (s.size : Int) (pos s (b :: m))) r := by
          intro r hr
          refine Ev.step (f := fun k => Yo.l0 (k + 1) _ _ _ _ _) (fun k => rfl) ?_
          simp only [Yo.l0, Xq, h2, VQ hm, hb, ↓reduceIte, Option.bind_some, Bool.false_eq_true, YX hs hm]; simp only [Vr hm]
          ·
            refine Ev.bind hv ?_
            have h9 : (ints acc).length < 140737488355328 := by rw [XY]; omega
            have e5 : rd [(u : Int), (v : Int)] 0 = u := rfl
            have e6 : rd [(u : Int), (v : Int)] 1 = v := rfl
            have e7 : ints (acc ++ [UInt8.ofNat (u * 16 + v)]) = ints acc ++ [(u : Int) * 16 + v] := by rw [← hw2]; simp [ints]
            rw [e7] at hr
            simp only [JJ, List.cons_append, List.nil_append, List.length_cons, List.length_nil, Option.bind_some, e5, e6, hw, h9, if_true]
            simpa [JJ] using hr
         refine ⟨fun y hy => ?_, fun hn => ?_⟩
         ·cases hq : hexL m none with
          | none => rw [hq] at hy; cases hy
          | some q =>
            rw [hq] at hy
            injection hy with hy
            subst hy
            have := st _ (ih.1 q hq)
            rwa [show acc ++ [UInt8.ofNat (u * 16 + v)] ++ q = acc ++ UInt8.ofNat (u * 16 + v) :: q by simp] at this
         ·cases hq : hexL m none with
          | none => obtain ⟨z, hz⟩ := ih.2 hq; exact ⟨z, st _ hz⟩
          | some q => rw [hq] at hn; cases hn
end Go.Proofs.Ytehmhgpogpbjiaa
namespace Go.Proofs.Ytehmhgpogpbjiaa.PFccTokens
open Go.RowKit Go.Proofs.YtehmhgpogpbjiaaW.PrintWords Go.Proofs.YtehmhgpogpbjiaaW.PrintLast Go.Proofs.YtehmhgpogpbjiaaW.PrintMore
attribute [local go_sem] Vx Vv VV VU Ve Vd Vw Vu
def YR.l0 : Nat → List S59 → ByteArray → Int → Option (List S59 × Int)
 | 0, _, _, _ => none
 | k + 1, l, s, at_ => (Yh.f k s at_).bind fun r => if r.2.1 = true then ((VC.f r.1).bind fun t => (XW.f r.1).bind fun sp =>
  if sp = true then ((Yt.f k r.2.2.1 r.2.2.2 r.1).bind fun b => if b.2.2.1 = 0 then (if b.1 = 0 then YR.l0 k l b.2.2.2.1 b.2.2.2.2 else if l.length < 4398046511104 then YR.l0 k (l ++ [⟨b.1, b.2.1, wrap64 (r.2.2.2 - (r.1.size : Int))⟩]) b.2.2.2.1 b.2.2.2.2 else none) else some ([], b.2.2.1))
  else if l.length < 4398046511104 then YR.l0 k (l ++ [⟨1, t, wrap64 (r.2.2.2 - (r.1.size : Int))⟩]) r.2.2.1 r.2.2.2 else none)
  else some (l, 0)
def YR.f (k : Nat) (a0 : ByteArray) : Option (List S59 × Int) := if (a0.size : Int) > 4096 then some ([], 3) else YR.l0 k [] a0 0
theorem YR.mono_l : ∀ k y0 y1 y2, LeO (YR.l0 k y0 y1 y2) (YR.l0 (k + 1) y0 y1 y2)
 | 0, _, _, _ => fun r h => by simp [YR.l0] at h
 | k + 1, y0, y1, y2 => by
  have ih0 := YR.mono_l k
  unfold YR.l0
  have ih7 := @Yh.mono; have ih6 := @Yt.mono; exact XI
theorem YR.mono : ∀ a0 k, LeO (YR.f k a0) (YR.f (k + 1) a0) := by
 intro a0 k
 unfold YR.f
 exact LeO.ite (LeO.refl _) (YR.mono_l _ _ _ _)
theorem YR.calls (k : Nat) (a0 : ByteArray) (r1 : List (S59)) (r2 : Int) (w : World) (h : YR.f k a0 = some (r1, r2)) :
 Calls Try.prog 16 #[.string a0] w fun e w' => ∃ v0_ : Value, e = .returned (.tuple #[v0_, .int .i64 r2]) ∧ Kd.R k59 59 w' w.heap.size (fun _ => True) v0_ r1 ∧ Below w.heap.size w w' := by
 unfold YR.f at h
 by_cases c0 : (a0.size : Int) > 4096
 ·rw [if_pos c0] at h
  injection h with h
  injection h with e1 e2
  subst e1 e2
  have c1 : decide (4096 < (a0.size : Int)) = true := decide_eq_true c0
  have c2 : decide (4096 < a0.size) = true := decide_eq_true Z0
  go_enter Try.func16, Try.ntmps16
  go_wp2_with fail
  exact bodyPost_ret (v := .tuple #[.slice none 0 0, .int .i64 3]) Z1E rfl ⟨_, rfl, Kd.R_nil _ _ _ _ _, Below.refl _ _⟩
 rw [if_neg c0] at h
 have c1 : decide (4096 < (a0.size : Int)) = false := decide_eq_false c0
 have c2 : decide (4096 < a0.size) = false := decide_eq_false Z0
 have H := Aside0.mk h
 clear h c0
 go_enter Try.func16, Try.ntmps16
 go_wp2_with fail
 go_loopg [4] k (fun gg v4 wr => ∃ (l : List S59) (s : ByteArray) (at_ : Int), Aside0 (YR.l0 gg l s at_ = some (r1, r2)) ∧ Aside0 (gg ≤ k) ∧ Aside0 (Kd.R k59 59 wr w.heap.size (fun _ => True) v4 l) ∧ Aside0 (IsS88 w wr w.heap.size s at_) ∧ Aside0 (Below w.heap.size w wr))
 case atStart => exact ⟨[], a0, 0, H, ⟨Nat.le_refl _⟩, ⟨Kd.R_nil _ _ _ _ _⟩, ⟨IsS88.new w w a0 0 (Below.refl _ _)⟩, ⟨Yc (Below.refl _ _) _⟩⟩
 case round =>
  clear H c1 c2
  obtain ⟨l, s, at_, HA, HK1, HO, HI, HB⟩ := hrel
  cases gk with
  | zero => exact absurd HA.out (by simp [YR.l0])
  | succ k1 =>
  have H := HA.out
  clear HA
  simp only [YR.l0] at H
  replace H := bE H; obtain ⟨⟨t1, t2, t3, t4⟩, A1, H⟩ := H; simp only at H
  have H' := Aside0.mk H
  clear H
  go_wp2_with (go_at_call 30; refine (Yh.calls k1 w.heap.size s at_ t1 t2 t3 t4 w _ HI.out HB.out A1.out).mono ?_; rintro e w1 ⟨rfl, hi, hb, hk⟩; have n0_ := Aside0.mk (Kd.R_mono (Kd.R_keep (Kd.R_types HO.out HI.out.1 Z1) hk (fun _ h => h.2)) (fun _ h => h.1)); clear HO HI HB hk; have HO := n0_; clear n0_; have HI := Aside0.mk hi; have HB := Aside0.mk hb; clear hi hb; cases t2)
  ·have H := H'.out
   rw [if_neg Z1] at H
   injection H with H
   injection H with e1 e2
   subst e1 e2
   clear H'
   obtain ⟨A, c, rfl, hc, hC⟩ := Kd.R_reads HO.out
   go_wp2_with fail
   exact bodyPost_ret (v := .tuple #[.slice A l.length c, .int .i64 0]) Z1E rfl ⟨_, rfl, HO.out, HB.out⟩
  ·have H := H'.out
   rw [if_pos trivial] at H
   clear H'
   replace H := bE H; obtain ⟨t, A2, H⟩ := H
   replace H := bE H; obtain ⟨sp, A3, H⟩ := H
   have H' := Aside0.mk H
   clear H
   go_upto_region 8 with (fail)
   go_cut [8] (fun s8 wc => ∃ p, s8 = .pointer (some ⟨p, 0, none⟩) ∧ Aside0 (wc.heap[p]? = some (.cells #[.int .i64 1, .string t, .int .i64 (wrap64 (t4 - (t1.size : Int)))] 59 (0, 0))) ∧ Aside0 (Kd.R k59 59 wc w.heap.size (fun k => k ≠ p) u4 l) ∧ Aside0 (IsS88 w wc w.heap.size t3 t4) ∧ Aside0 (Below w.heap.size w wc) ∧ Aside0 (w.heap.size ≤ p))
   case first =>
    refine Yam (n := 12) (S := fun w' => w'.cell? ⟨w.heap.size, 1, none⟩ = some (.int .i64 t4)) (ds := [11]) #[false, false, false, false, false, false, false, false, false, false, false, false] Z2 rfl rfl ((Ya HI.out.1 1).trans rfl) (fun hHeld => ?_)
    refine Jj (rfl : rtab .any (Yaw Try.f16 8) = rtab .any (Yaw Try.f16 8)) (fun HT_ => ?_)
    have HI9 : IsS88 w w1.drew w.heap.size t3 t4 := HI.out
    have HO9 : Kd.R k59 59 w1.drew w.heap.size (fun _ => True) u4 l := Kd.R_drew HO.out
    have HB9 : Below w.heap.size w w1.drew := VA HB.out
    clear HI HO HB
    have HI := Aside0.mk HI9
    have HO := Aside0.mk HO9
    have HB := Aside0.mk HB9
    clear HI9 HO9 HB9
    generalize w1.drew = w9 at HI HO HB hHeld ⊢
    refine Xr (i := 0) (N := some 24) (v := ?_) (a' := ?_) #[true, false, false, false, false, false, false, false, false, false, false, false] rfl rfl (any_of HT_.out Z2) (fun _ _ _ h => h) (Or.inl ⟨Z7, ?_⟩) ?_ ?_
    rotate_left
    ·intro w'
     go_simp
     with_reducible rfl
    rotate_left
    ·simp only [Act.put, List.setIfInBounds_toArray, List.set_cons_zero, List.set_cons_succ, YH, YJ]
     rfl
    refine Xr (i := 2) (N := some 26) (v := ?_) (a' := ?_) #[true, false, true, false, false, false, false, false, false, false, false, false] rfl rfl (any_of HT_.out Z2) (fun _ _ _ h => h) (Or.inl ⟨Z7, ?_⟩) ?_ ?_
    rotate_left
    ·intro w'
     go_simp
     with_reducible rfl
    rotate_left
    ·simp only [Act.put, List.setIfInBounds_toArray, List.set_cons_zero, List.set_cons_succ, YH, YJ]
     rfl
    refine Xr (i := 3) (N := some 27) (v := ?_) (a' := ?_) #[true, false, true, true, false, false, false, false, false, false, false, false] rfl rfl (any_of HT_.out Z2) (fun _ _ _ h => h) (Or.inl ⟨Z7, ?_⟩) ?_ ?_
    rotate_left
    ·intro w'
     go_simp
     with_reducible rfl
    rotate_left
    ·simp only [Act.put, List.setIfInBounds_toArray, List.set_cons_zero, List.set_cons_succ, YH, YJ]
     rfl
    refine Xr (i := 4) (N := some 28) (v := ?_) (a' := ?_) #[true, false, true, true, true, false, false, false, false, false, false, false] rfl rfl (any_of HT_.out Z2) (fun _ _ _ h => h) (Or.inl ⟨Z7, ?_⟩) ?_ ?_
    rotate_left
    ·intro w'
     go_simp
     with_reducible rfl
    rotate_left
    ·simp only [Act.put, List.setIfInBounds_toArray, List.set_cons_zero, List.set_cons_succ, YH, YJ]
     rfl
    refine Xr (i := 6) (N := some 30) (v := ?_) (a' := ?_) #[true, false, true, true, true, false, true, false, false, false, false, false] rfl rfl (any_of HT_.out Z2) (fun _ _ _ h => h) (Or.inl ⟨Z7, ?_⟩) ?_ ?_
    rotate_left
    ·intro w'
     go_simp
     with_reducible rfl
    rotate_left
    ·simp only [Act.put, List.setIfInBounds_toArray, List.set_cons_zero, List.set_cons_succ, YH, YJ]
     rfl
    refine Xr (i := 7) (N := some 31) (v := ?_) (a' := ?_) #[true, false, true, true, true, false, true, true, false, false, false, false] rfl rfl (any_of HT_.out Z2) (fun _ _ _ h => h) (Or.inl ⟨Z7, ?_⟩) ?_ ?_
    rotate_left
    ·intro w'
     go_simp
     with_reducible rfl
    rotate_left
    ·simp only [Act.put, List.setIfInBounds_toArray, List.set_cons_zero, List.set_cons_succ, YH, YJ]
     rfl
    refine take_ (i := 5) (N := some 29) (v := ?_) (a' := ?_) #[true, false, true, true, true, true, true, true, false, false, false, false] rfl rfl (take_of HT_.out Z2) (fun _ _ _ h => h) (Or.inl ⟨Z7, ?_⟩) hHeld ?_ ?_
    rotate_left
    ·rintro w' hS; go_split_ands
     go_simp
     with_reducible rfl
    rotate_left
    ·simp only [Act.put, List.setIfInBounds_toArray, List.set_cons_zero, List.set_cons_succ, YH, YJ]
     rfl
    refine Xr (i := 8) (N := some 32) (v := ?_) (a' := ?_) #[true, false, true, true, true, true, true, true, true, false, false, false] rfl rfl (any_of HT_.out Z2) (fun _ _ _ h => h) (Or.inl ⟨Z7, ?_⟩) ?_ ?_
    rotate_left
    ·intro w'
     go_simp
     with_reducible rfl
    rotate_left
    ·simp only [Act.put, List.setIfInBounds_toArray, List.set_cons_zero, List.set_cons_succ, YH, YJ]
     rfl
    refine two_ (i := 1) (j := 10) (Ni := some 25) (Nj := some 8) #[true, true, true, true, true, true, true, true, true, false, false, false] #[true, false, true, true, true, true, true, true, true, false, true, false] rfl rfl rfl rfl (two_of HT_.out Z2) Z1 Z1 (fun K hK => ?_) (fun K hK => ?_)
    ·refine goes_ Try.func31 Z2 rfl #[.string t1] Z7 rfl rfl Z1z ?_
     with_reducible refine (VC.calls _ t _ A2.out).mono ?_
     rintro e w3 ⟨rfl, hb⟩
     refine ⟨_, rfl, ?_⟩
     have n0_ := Aside0.mk (HI.out.below hb)
     have n1_ := Aside0.mk (Kd.R_below HO.out hb)
     have n2_ := Aside0.mk (YN HB.out hb)
     clear HI HO HB
     have HI := n0_
     have HO := n1_
     have HB := n2_
     clear n0_ n1_ n2_
     clear hb hHeld
     refine hK.out _ _ ((Ya HI.out.1 1).trans rfl) (fun hHeld => ?_)
     clear hK K
     refine Jd (a' := ?_) ?_ ?_
     rotate_left
     ·show Act.put _ (some 25) _ = _
      simp only [Act.put, List.setIfInBounds_toArray, List.set_cons_zero, List.set_cons_succ, YH, YJ]
      rfl
     refine Xr (i := 9) (N := some 33) (v := ?_) (a' := ?_) #[true, true, true, true, true, true, true, true, true, true, false, false] rfl rfl (any_of HT_.out Z2) (fun _ _ _ h => h) (Or.inl ⟨Z7, ?_⟩) ?_ ?_
     rotate_left
     ·intro w'
      go_simp
      with_reducible rfl
     rotate_left
     ·simp only [Act.put, List.setIfInBounds_toArray, List.set_cons_zero, List.set_cons_succ, YH, YJ]
      rfl
     refine one_ (i := 10) (N := some 8) #[true, true, true, true, true, true, true, true, true, true, true, false] rfl rfl (VM HT_.out Z2) Z1 (fun K hK => ?_)
     refine JR (w1 := ?_) (v := ?_) Z7 rfl ?_ ?_
     rotate_left 2
     ·go_simp
      constructor
      ·rfl
      ·rfl
     have n0_ := Aside0.mk (HI.out.alloc (.cells #[.int .i64 0, .string ⟨#[]⟩, .int .i64 0] 59))
     have n1_ := Aside0.mk (Kd.R_mono (ok' := fun k => k ≠ w3.heap.size) (Kd.R_alloc (Kd.R_bound HO.out) (.cells #[.int .i64 0, .string ⟨#[]⟩, .int .i64 0] 59)) (fun k h => Nat.ne_of_lt h.2.2.1))
     have n2_ := Aside0.mk (YK HB.out)
     have n3_ := Aside0.mk (Yc HB.out (.cells #[.int .i64 0, .string ⟨#[]⟩, .int .i64 0] 59))
     have n4_ := Aside0.mk (Xa w3 (.cells #[.int .i64 0, .string ⟨#[]⟩, .int .i64 0] 59))
     clear HI HO HB
     have HI := n0_
     have HO := n1_
     have HG := n2_
     have HB := n3_
     have HP := n4_
     clear n0_ n1_ n2_ n3_ n4_
     clear hHeld
     refine hK.out _ _ ((Ya HI.out.1 1).trans rfl) (fun hHeld => ?_)
     clear hK K
     refine Jd (a' := ?_) ?_ ?_
     rotate_left
     ·show Act.put _ (some 8) _ = _
      simp only [Act.put, List.setIfInBounds_toArray, List.set_cons_zero, List.set_cons_succ, YH, YJ]
      rfl
     generalize hp_ : w3.heap.size = p at HO HG HP ⊢
     generalize w3.alloc (.cells #[.int .i64 0, .string ⟨#[]⟩, .int .i64 0] 59) = w5 at HI HO HB HP hHeld ⊢
     refine YcM (i := 11) (N := none) #[true, true, true, true, true, true, true, true, true, true, true, true] rfl rfl (VM HT_.out Z2) Z1 (fun K hK => ?_)
     have p0 : w5.cell? ⟨p, 0, none⟩ = some (.int .i64 0) := (Ya HP.out 0).trans rfl
     have f0 := Yf HP.out 0
     have HP1 := Aside0.mk (YM HP.out 0 (.int .i64 1) rfl)
     have p1 : (w5.setCell ⟨p, 0, none⟩ (.int .i64 1)).cell? ⟨p, 1, none⟩ = some (.string ⟨#[]⟩) := (Ya HP1.out 1).trans rfl
     have f1 := Yf HP1.out 1
     have HP2 := Aside0.mk (YM HP1.out 1 (.string t) rfl)
     have p2 : ((w5.setCell ⟨p, 0, none⟩ (.int .i64 1)).setCell ⟨p, 1, none⟩ (.string t)).cell? ⟨p, 2, none⟩ = some (.int .i64 0) := (Ya HP2.out 2).trans rfl
     have f2 := Yf HP2.out 2
     have HP3 := Aside0.mk (YM HP2.out 2 (.int .i64 (wrap64 (t4 - (t1.size : Int)))) rfl)
     go_simp
     refine hK.out _ _ ?_
     clear hK K
     refine Ycm (UM HT_.out Z2) ?_
     have hne : w.heap.size ≠ p := IsS88.ne_blk HI.out HP.out Z1
     have HI3 := Aside0.mk (((HI.out.far (p := ⟨p, 0, none⟩) hne (.int .i64 1)).far (p := ⟨p, 1, none⟩) hne (.string t)).far (p := ⟨p, 2, none⟩) hne (.int .i64 (wrap64 (t4 - (t1.size : Int)))))
     have HO3 := Aside0.mk (Kd.R_far (p := ⟨p, 2, none⟩) (Kd.R_far (p := ⟨p, 1, none⟩) (Kd.R_far (p := ⟨p, 0, none⟩) HO.out (fun _ h => h) (.int .i64 1)) (fun _ h => h) (.string t)) (fun _ h => h) (.int .i64 (wrap64 (t4 - (t1.size : Int)))))
     have HB3 := Aside0.mk (below_set (below_set (below_set HB.out HG.out (j := 0) (v := .int .i64 1)) HG.out (j := 1) (v := .string t)) HG.out (j := 2) (v := .int .i64 (wrap64 (t4 - (t1.size : Int)))))
     clear p0 p1 p2 f0 f1 f2 hHeld HI HO HB HP HP1 HP2 HT_ hne
     go_wp2_with fail
     go_meet
     case rel => exact ⟨p, rfl, HP3, HO3, HI3, HB3, HG⟩
    ·refine JR (w1 := ?_) (v := ?_) Z7 rfl ?_ ?_
     rotate_left 2
     ·go_simp
      constructor
      ·rfl
      ·rfl
     have n0_ := Aside0.mk (HI.out.alloc (.cells #[.int .i64 0, .string ⟨#[]⟩, .int .i64 0] 59))
     have n1_ := Aside0.mk (Kd.R_mono (ok' := fun k => k ≠ w9.heap.size) (Kd.R_alloc (Kd.R_bound HO.out) (.cells #[.int .i64 0, .string ⟨#[]⟩, .int .i64 0] 59)) (fun k h => Nat.ne_of_lt h.2.2.1))
     have n2_ := Aside0.mk (YK HB.out)
     have n3_ := Aside0.mk (Yc HB.out (.cells #[.int .i64 0, .string ⟨#[]⟩, .int .i64 0] 59))
     have n4_ := Aside0.mk (Xa w9 (.cells #[.int .i64 0, .string ⟨#[]⟩, .int .i64 0] 59))
     clear HI HO HB
     have HI := n0_
     have HO := n1_
     have HG := n2_
     have HB := n3_
     have HP := n4_
     clear n0_ n1_ n2_ n3_ n4_
     clear hHeld
     refine hK.out _ _ ((Ya HI.out.1 1).trans rfl) (fun hHeld => ?_)
     clear hK K
     refine Jd (a' := ?_) ?_ ?_
     rotate_left
     ·show Act.put _ (some 8) _ = _
      simp only [Act.put, List.setIfInBounds_toArray, List.set_cons_zero, List.set_cons_succ, YH, YJ]
      rfl
     refine one_ (i := 1) (N := some 25) #[true, true, true, true, true, true, true, true, true, false, true, false] rfl rfl (VM HT_.out Z2) Z1 (fun K hK => ?_)
     refine goes_ Try.func31 Z2 rfl #[.string t1] Z7 rfl rfl Z1z ?_
     with_reducible refine (VC.calls _ t _ A2.out).mono ?_
     rintro e w5 ⟨rfl, hb⟩
     refine ⟨_, rfl, ?_⟩
     have n0_ := Aside0.mk (HI.out.below hb)
     have n1_ := Aside0.mk (Kd.R_below HO.out hb)
     have n2_ := Aside0.mk (YN HB.out hb)
     have n3_ := Aside0.mk (YQ HP.out hb)
     clear HI HO HB HP
     have HI := n0_
     have HO := n1_
     have HB := n2_
     have HP := n3_
     clear n0_ n1_ n2_ n3_
     clear hb hHeld
     refine hK.out _ _ ((Ya HI.out.1 1).trans rfl) (fun hHeld => ?_)
     clear hK K
     refine Jd (a' := ?_) ?_ ?_
     rotate_left
     ·show Act.put _ (some 25) _ = _
      simp only [Act.put, List.setIfInBounds_toArray, List.set_cons_zero, List.set_cons_succ, YH, YJ]
      rfl
     refine Xr (i := 9) (N := some 33) (v := ?_) (a' := ?_) #[true, true, true, true, true, true, true, true, true, true, true, false] rfl rfl (any_of HT_.out Z2) (fun _ _ _ h => h) (Or.inl ⟨Z7, ?_⟩) ?_ ?_
     rotate_left
     ·intro w'
      go_simp
      with_reducible rfl
     rotate_left
     ·simp only [Act.put, List.setIfInBounds_toArray, List.set_cons_zero, List.set_cons_succ, YH, YJ]
      rfl
     generalize hp_ : w9.heap.size = p at HO HG HP ⊢
     refine YcM (i := 11) (N := none) #[true, true, true, true, true, true, true, true, true, true, true, true] rfl rfl (VM HT_.out Z2) Z1 (fun K hK => ?_)
     have p0 : w5.cell? ⟨p, 0, none⟩ = some (.int .i64 0) := (Ya HP.out 0).trans rfl
     have f0 := Yf HP.out 0
     have HP1 := Aside0.mk (YM HP.out 0 (.int .i64 1) rfl)
     have p1 : (w5.setCell ⟨p, 0, none⟩ (.int .i64 1)).cell? ⟨p, 1, none⟩ = some (.string ⟨#[]⟩) := (Ya HP1.out 1).trans rfl
     have f1 := Yf HP1.out 1
     have HP2 := Aside0.mk (YM HP1.out 1 (.string t) rfl)
     have p2 : ((w5.setCell ⟨p, 0, none⟩ (.int .i64 1)).setCell ⟨p, 1, none⟩ (.string t)).cell? ⟨p, 2, none⟩ = some (.int .i64 0) := (Ya HP2.out 2).trans rfl
     have f2 := Yf HP2.out 2
     have HP3 := Aside0.mk (YM HP2.out 2 (.int .i64 (wrap64 (t4 - (t1.size : Int)))) rfl)
     go_simp
     refine hK.out _ _ ?_
     clear hK K
     refine Ycm (UM HT_.out Z2) ?_
     have hne : w.heap.size ≠ p := IsS88.ne_blk HI.out HP.out Z1
     have HI3 := Aside0.mk (((HI.out.far (p := ⟨p, 0, none⟩) hne (.int .i64 1)).far (p := ⟨p, 1, none⟩) hne (.string t)).far (p := ⟨p, 2, none⟩) hne (.int .i64 (wrap64 (t4 - (t1.size : Int)))))
     have HO3 := Aside0.mk (Kd.R_far (p := ⟨p, 2, none⟩) (Kd.R_far (p := ⟨p, 1, none⟩) (Kd.R_far (p := ⟨p, 0, none⟩) HO.out (fun _ h => h) (.int .i64 1)) (fun _ h => h) (.string t)) (fun _ h => h) (.int .i64 (wrap64 (t4 - (t1.size : Int)))))
     have HB3 := Aside0.mk (below_set (below_set (below_set HB.out HG.out (j := 0) (v := .int .i64 1)) HG.out (j := 1) (v := .string t)) HG.out (j := 2) (v := .int .i64 (wrap64 (t4 - (t1.size : Int)))))
     clear p0 p1 p2 f0 f1 f2 hHeld HI HO HB HP HP1 HP2 HT_ hne
     go_wp2_with fail
     go_meet
     case rel => exact ⟨p, rfl, HP3, HO3, HI3, HB3, HG⟩
   case rest =>
    clear HO HI HB
    obtain ⟨p, rfl, HP, HO, HI, HB, HG⟩ := hcut
    go_wp2_with fail
    refine (XW.calls t1 sp _ A3.out).mono ?_
    rintro e w2 ⟨rfl, hd⟩
    have hb := hd.below
    have n0_ := Aside0.mk (YQ HP.out hb)
    have n1_ := Aside0.mk (Kd.R_below HO.out hb)
    have n2_ := Aside0.mk (HI.out.below hb)
    have n3_ := Aside0.mk (YN HB.out hb)
    clear HP HO HI HB hb hd
    have HP := n0_
    have HO := n1_
    have HI := n2_
    have HB := n3_
    clear n0_ n1_ n2_ n3_
    cases sp
    ·have H := H'.out
     rw [if_neg Z1] at H
     by_cases c3 : l.length < 4398046511104
     case neg => rw [if_neg c3] at H; cases H
     rw [if_pos c3] at H
     have LM := Aside0.mk c3
     have H2 := Aside0.mk H
     clear H H' c3
     have HO1 := Aside0.mk (Kd.R_mono (ok' := fun _ => True) HO.out (fun _ _ => trivial))
     clear HO
     have p0 : w2.cell? ⟨p, 0, none⟩ = some (.int .i64 1) := (Ya HP.out 0).trans rfl
     have p1 : w2.cell? ⟨p, 1, none⟩ = some (.string t) := (Ya HP.out 1).trans rfl
     have p2 : w2.cell? ⟨p, 2, none⟩ = some (.int .i64 (wrap64 (t4 - (t1.size : Int)))) := (Ya HP.out 2).trans rfl
     have HBX := HB
     go_wp2_with (at_builtin; refine Kd.R_append k59 (w0 := w) w.heap.size rfl (.tmp 51) (.tmp 53) 48 59 (.agg #[(.int .i64 0), (.string ⟨#[]⟩), (.int .i64 0)]) 32 rfl Try.underlying48 YaC rfl Z1 Z1 u4 l ⟨1, t, wrap64 (t4 - (t1.size : Int))⟩ [.int .i64 1, .string t, .int .i64 (wrap64 (t4 - (t1.size : Int)))] (fun _ => True) (fun _ => False) rfl rfl ?aP (fun _ hk => hk.elim) ?aF ?aO ?aB ?aS ?aL ?_; (case aP => exact JG _ _ _ _); (case aF => exact fun _ _ => trivial); (case aO => exact HO1.out); (case aB => exact HBX.out); (case aS => exact HBX.out.size); (case aL => exact (Zo LM.out)); intro v5 w5 ho hb hg hat; have HI9 := Aside0.mk (HI.out.grown hg (IsS88.own_ne HI.out HO1.out Z1)); have HO9 := Aside0.mk ho; have HB9 := Aside0.mk hb; clear ho hb hg hat)
     go_roundg k1
     case measure => omega
     case rel => exact ⟨_, t3, t4, H2, ⟨(Zo HK1.out)⟩, HO9, HI9, HB9⟩
    ·have H := H'.out
     rw [if_pos rfl] at H
     replace H := bE H; obtain ⟨⟨b1, b2, b3, b4, b5⟩, A4, H⟩ := H; simp only at H
     have H2 := Aside0.mk H
     clear H H'
     have HNE := Aside0.mk (IsS88.ne_blk HI.out HP.out Z1)
     go_wp2_with fail
     refine (Yt.calls k1 w.heap.size t3 t4 t1 b1 b2 b3 b4 b5 w _ HI.out HB.out A4.out).mono ?_
     rintro e w3 ⟨rfl, hi, hb, hk⟩
     have n0_ := Aside0.mk (Yw.blk hk HP.out HNE.out.symm Z3)
     have n1_ := Aside0.mk (Kd.R_mono (ok' := fun k => k ≠ p) (Kd.R_keep (Kd.R_types HO.out HI.out.1 Z1) hk (fun _ h => h.2)) (fun _ h => h.1))
     clear HP HO HI HB hk
     have HP := n0_
     have HO := n1_
     have HI := Aside0.mk hi
     have HB := Aside0.mk hb
     clear n0_ n1_ hi hb
     have p0 : w3.cell? ⟨p, 0, none⟩ = some (.int .i64 1) := (Ya HP.out 0).trans rfl
     have f0 := Yf HP.out 0
     have HP1 := Aside0.mk (YM HP.out 0 (.int .i64 b1) rfl)
     have p1 : (w3.setCell ⟨p, 0, none⟩ (.int .i64 b1)).cell? ⟨p, 1, none⟩ = some (.string t) := (Ya HP1.out 1).trans rfl
     have f1 := Yf HP1.out 1
     have HP2 := Aside0.mk (YM HP1.out 1 (.string b2) rfl)
     by_cases z3 : b3 = 0
     ·subst z3
      have H := H2.out
      rw [if_pos rfl] at H
      have HI3 := Aside0.mk ((HI.out.far (p := ⟨p, 0, none⟩) HNE.out (.int .i64 b1)).far (p := ⟨p, 1, none⟩) HNE.out (.string b2))
      have HO3 := Aside0.mk (Kd.R_far (p := ⟨p, 1, none⟩) (Kd.R_far (p := ⟨p, 0, none⟩) HO.out (fun _ h => h) (.int .i64 b1)) (fun _ h => h) (.string b2))
      have HB3 := Aside0.mk (below_set (below_set HB.out HG.out (j := 0) (v := .int .i64 b1)) HG.out (j := 1) (v := .string b2))
      clear HI HO HB HP H2
      have q0 : ((w3.setCell ⟨p, 0, none⟩ (.int .i64 b1)).setCell ⟨p, 1, none⟩ (.string b2)).cell? ⟨p, 0, none⟩ = some (.int .i64 b1) := (Ya HP2.out 0).trans rfl
      have q1 : ((w3.setCell ⟨p, 0, none⟩ (.int .i64 b1)).setCell ⟨p, 1, none⟩ (.string b2)).cell? ⟨p, 1, none⟩ = some (.string b2) := (Ya HP2.out 1).trans rfl
      have q2 : ((w3.setCell ⟨p, 0, none⟩ (.int .i64 b1)).setCell ⟨p, 1, none⟩ (.string b2)).cell? ⟨p, 2, none⟩ = some (.int .i64 (wrap64 (t4 - (t1.size : Int)))) := (Ya HP2.out 2).trans rfl
      go_upto_region 14 with (fail)
      generalize ((w3.setCell ⟨p, 0, none⟩ (.int .i64 b1)).setCell ⟨p, 1, none⟩ (.string b2)) = w4 at HI3 HO3 HB3 q0 q1 q2 HP2 ⊢
      clear p0 p1 f0 f1 HP1
      by_cases z1 : b1 = 0
      ·subst z1
       rw [if_pos rfl] at H
       have H2 := Aside0.mk H
       clear H
       go_wp2_with fail
       go_roundg k1
       case measure => omega
       case rel => exact ⟨l, b4, b5, H2, ⟨(Zo HK1.out)⟩, ⟨Kd.R_mono HO3.out (fun _ _ => trivial)⟩, HI3, HB3⟩
      ·rw [if_neg z1] at H
       have z2 : (b1 != 0) = true := bne_iff_ne.mpr z1
       by_cases c3 : l.length < 4398046511104
       case neg => rw [if_neg c3] at H; cases H
       rw [if_pos c3] at H
       have LM := Aside0.mk c3
       have H2 := Aside0.mk H
       clear H c3 z1
       have HO1 := Aside0.mk (Kd.R_mono (ok' := fun _ => True) HO3.out (fun _ _ => trivial))
       clear HO3
       have HBX := HB3
       go_wp2_with (at_builtin; refine Kd.R_append k59 (w0 := w) w.heap.size rfl (.tmp 51) (.tmp 53) 48 59 (.agg #[(.int .i64 0), (.string ⟨#[]⟩), (.int .i64 0)]) 32 rfl Try.underlying48 YaC rfl Z1 Z1 u4 l ⟨b1, b2, wrap64 (t4 - (t1.size : Int))⟩ [.int .i64 b1, .string b2, .int .i64 (wrap64 (t4 - (t1.size : Int)))] (fun _ => True) (fun _ => False) rfl rfl ?aP (fun _ hk => hk.elim) ?aF ?aO ?aB ?aS ?aL ?_; (case aP => exact JG _ _ _ _); (case aF => exact fun _ _ => trivial); (case aO => exact HO1.out); (case aB => exact HBX.out); (case aS => exact HBX.out.size); (case aL => exact (Zo LM.out)); intro v5 w5 ho hb hg hat; have HI9 := Aside0.mk (HI3.out.grown hg (IsS88.own_ne HI3.out HO1.out Z1)); have HO9 := Aside0.mk ho; have HB9 := Aside0.mk hb; clear ho hb hg hat)
       go_roundg k1
       case measure => omega
       case rel => exact ⟨_, b4, b5, H2, ⟨(Zo HK1.out)⟩, HO9, HI9, HB9⟩
     ·have H := H2.out
      rw [if_neg z3] at H
      injection H with H
      injection H with e1 e2
      subst e1 e2
      have z4 : (b3 != 0) = true := bne_iff_ne.mpr z3
      clear H2
      go_wp2_with fail
      exact bodyPost_ret (v := .tuple #[.slice none 0 0, .int .i64 b3]) Z1E rfl ⟨_, rfl, Kd.R_nil _ _ _ _ _, below_set (below_set HB.out HG.out) HG.out⟩
end Go.Proofs.Ytehmhgpogpbjiaa.PFccTokens
