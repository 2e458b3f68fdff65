/- scan: the program's inner functions answer as the lists say. -/
import Derived.Test.YtnnhpbghimjhiaaSpecT
import Derived.Test.YtnnhpbghimjhiaaQScanTx4
namespace Go.Proofs.Ytnnhpbghimjhiaa
open Go.RowKit Go.Proofs.YtnnhpbghimjhiaaW.PrintWords Go.Proofs.YtnnhpbghimjhiaaW.PrintLast Go.Proofs.Ytnnhpbghimjhiaa.QScanT
set_option linter.unusedVariables false
set_option linter.unusedSimpArgs false

theorem size_len (s : ByteArray) : s.data.toList.length = s.size := by simp
/-- Where a text's end l begins. -/
def pos (s : ByteArray) (l : List UInt8) : Int := (s.size : Int) - l.length
theorem sfx_len {s : ByteArray} {l : List UInt8} (h : l <:+ s.data.toList) : l.length ≤ s.size := by
  have := h.length_le
  rwa [size_len] at this
theorem pos_ge {s : ByteArray} {l : List UInt8} (h : l <:+ s.data.toList) : 0 ≤ pos s l := by
  have := sfx_len h; unfold pos; omega
theorem sfx_tl {s : ByteArray} {b : UInt8} {r : List UInt8} (h : (b :: r) <:+ s.data.toList) : r <:+ s.data.toList := (List.suffix_cons b r).trans h
theorem sfx_app {s : ByteArray} {w r : List UInt8} (h : (w ++ r) <:+ s.data.toList) : r <:+ s.data.toList := (List.suffix_append w r).trans h
theorem drop_of_sfx {s : ByteArray} {l : List UInt8} (h : l <:+ s.data.toList) : s.data.toList.drop (pos s l).toNat = l := by
  obtain ⟨p, hp⟩ := h
  have h1 := congrArg List.length hp
  rw [List.length_append, size_len] at h1
  have : (pos s l).toNat = p.length := by unfold pos; omega
  rw [this, ← hp, List.drop_left]
theorem bt_get (s : ByteArray) (i : Nat) : bt s (i : Int) = (s.data.toList.getD i 0).toNat := by
  unfold bt
  split
  · rename_i h
    have h' : i < s.data.toList.length := by simpa using h
    have : s.data.toList.getD i 0 = s.data.toList[i] := by simp [List.getD_eq_getElem?_getD, List.getElem?_eq_getElem h']
    rw [this]
    rfl
  · rename_i h
    have h' : s.data.toList.length ≤ i := by simp at h ⊢; exact h
    simp [List.getD_eq_getElem?_getD, List.getElem?_eq_none h']
theorem bt_pos {s : ByteArray} {b : UInt8} {r : List UInt8} (h : (b :: r) <:+ s.data.toList) : bt s (pos s (b :: r)) = (b.toNat : Int) := by
  have h1 := drop_of_sfx h
  have h2 := pos_ge h
  obtain ⟨i, hi⟩ : ∃ i : Nat, pos s (b :: r) = i := ⟨(pos s (b :: r)).toNat, by omega⟩
  rw [hi] at h1 ⊢
  rw [bt_get]
  rw [Int.toNat_natCast] at h1
  have : s.data.toList[i]? = some b := by
    have := congrArg (fun l => l[0]?) h1
    simpa [List.getElem?_drop] using this
  rw [List.getD_eq_getElem?_getD, this]
  rfl
theorem pos_cons (s : ByteArray) (b : UInt8) (r : List UInt8) : pos s r = pos s (b :: r) + 1 := by unfold pos; simp; omega
theorem pos_app (s : ByteArray) (w r : List UInt8) : pos s r = pos s (w ++ r) + w.length := by unfold pos; simp; omega
theorem pos_le (s : ByteArray) (l : List UInt8) : pos s l ≤ s.size := by unfold pos; omega
theorem w64 {n : Int} (h0 : 0 ≤ n) (h1 : n ≤ 9223372036854775807) : wrap64 n = n := IntWalk.wrap64_in _ ⟨by omega, by omega⟩
theorem pos_next {s : ByteArray} {b : UInt8} {r : List UInt8} (hs : s.size ≤ 4096) (h : (b :: r) <:+ s.data.toList) : wrap64 (pos s (b :: r) + 1) = pos s r := by
  have := pos_ge h
  have := pos_le s (b :: r)
  rw [w64 (by omega) (by omega), pos_cons s b r]
theorem pos_lt {s : ByteArray} {b : UInt8} {r : List UInt8} : pos s (b :: r) < (s.size : Int) := by unfold pos; simp; omega
theorem pos_nil (s : ByteArray) : pos s [] = s.size := by simp [pos]
theorem pos_mono {s : ByteArray} {w r : List UInt8} : pos s (w ++ r) ≤ pos s r := by have := pos_app s w r; omega
theorem ext_pos {s : ByteArray} {w r : List UInt8} (h : (w ++ r) <:+ s.data.toList) : s.extract (pos s (w ++ r)).toNat (pos s r).toNat = byt w := by
  have h1 := drop_of_sfx h
  have h2 := pos_ge h
  have h3 := pos_app s w r
  have h4 : (s.extract (pos s (w ++ r)).toNat (pos s r).toNat).data.toList = w := by
    rw [ByteArray.data_extract, Array.toList_extract, List.extract_eq_take_drop, h1]
    have : (pos s r).toNat - (pos s (w ++ r)).toNat = w.length := by omega
    rw [this, List.take_left]
  cases hx : s.extract (pos s (w ++ r)).toNat (pos s r).toNat with
  | mk d => rw [hx] at h4; cases d with | mk l => simp at h4; subst h4; rfl
theorem isB_iff (b : UInt8) : decide ((b.toNat : Int) ≤ 32) = isB b := by
  unfold isB; exact decide_eq_decide.2 (by omega)
theorem blank_f {s : ByteArray} {b : UInt8} {r : List UInt8} (h : (b :: r) <:+ s.data.toList) : scan_blank.f (bt s (pos s (b :: r))) = some (isB b) := by
  rw [bt_pos h]; unfold scan_blank.f; rw [isB_iff]
theorem rest_cons (b : UInt8) (r : List UInt8) : restL (b :: r) = if isB b then b :: r else restL r := by
  unfold restL
  rw [List.dropWhile_cons]
  cases isB b <;> rfl
theorem l1_ev (s : ByteArray) (hs : s.size ≤ 4096) (L : List UInt8) : ∀ m w : List UInt8, L = w ++ m → L <:+ s.data.toList →
    Ev (fun k => scan_cutter_word.l1 k (pos s L) s (pos s m)) (s.extract (pos s L).toNat (pos s (restL m)).toNat, decide (pos s (restL m) > pos s L), s, pos s (restL m))
  | [], w, e, hL => by
    have h0 := pos_ge hL
    have h1 := pos_le s L
    refine Ev.step (f := fun _ => some (s.extract (pos s L).toNat (pos s (restL [])).toNat, decide (pos s (restL []) > pos s L), s, pos s (restL []))) (fun k => ?_) (Ev.now _)
    have : restL [] = [] := rfl
    rw [this, pos_nil]
    show scan_cutter_word.l1 (k + 1) _ _ _ = _
    unfold scan_cutter_word.l1
    rw [if_neg (by omega), if_pos h0, if_pos h1, if_pos (Int.le_refl _)]
  | b :: m, w, e, hL => by
    have h0 := pos_ge hL
    have h1 := pos_le s L
    have hm : (b :: m) <:+ s.data.toList := by subst e; exact sfx_app hL
    have h2 := pos_ge hm
    have h3 : pos s L ≤ pos s (b :: m) := by subst e; exact pos_mono
    rw [rest_cons]
    cases hb : isB b with
    | true =>
      refine Ev.step (f := fun _ => some (s.extract (pos s L).toNat (pos s (b :: m)).toNat, decide (pos s (b :: m) > pos s L), s, pos s (b :: m))) (fun k => ?_) (Ev.now _)
      show scan_cutter_word.l1 (k + 1) _ _ _ = _
      unfold scan_cutter_word.l1
      rw [if_pos pos_lt, if_pos h2, blank_f hm, hb]
      simp only [Option.bind_some, if_true]
      rw [if_pos h0, if_pos h3, if_pos (by have := pos_lt (s := s) (b := b) (r := m); omega)]
    | false =>
      refine Ev.step (f := fun k => scan_cutter_word.l1 k (pos s L) s (pos s m)) (fun k => ?_) ?_
      · show scan_cutter_word.l1 (k + 1) _ _ _ = _
        conv => lhs; unfold scan_cutter_word.l1
        rw [if_pos pos_lt, if_pos h2, blank_f hm, hb, pos_next hs hm]
        simp only [Option.bind_some, Bool.false_eq_true, if_false]
      · exact l1_ev s hs L m (w ++ [b]) (by rw [e]; simp) hL
theorem word_ev (s : ByteArray) (hs : s.size ≤ 4096) : ∀ l : List UInt8, l <:+ s.data.toList →
    Ev (fun k => scan_cutter_word.f k s (pos s l)) (byt (wordL (l.dropWhile isB)), decide (l.dropWhile isB ≠ []), s, pos s (restL (l.dropWhile isB)))
  | [], h => by
    have hl := l1_ev s hs [] [] [] rfl h
    have e1 : s.extract (pos s []).toNat (pos s (restL [])).toNat = byt [] := ext_pos (w := []) h
    have e2 : decide (pos s (restL []) > pos s []) = decide (([] : List UInt8) ≠ []) := by simp [restL]
    rw [e1, e2] at hl
    refine Ev.step (f := fun k => scan_cutter_word.j1 k s (pos s [])) (fun k => ?_) (Ev.step (fun k => ?_) hl)
    · show scan_cutter_word.l0 (k + 1) _ _ = _
      conv => lhs; unfold scan_cutter_word.l0
      rw [if_neg (by rw [pos_nil]; omega)]
    · show scan_cutter_word.j1 (k + 1) _ _ = _
      conv => lhs; unfold scan_cutter_word.j1
  | b :: r, h => by
    have h2 := pos_ge h
    cases hb : isB b with
    | true =>
      rw [show (b :: r).dropWhile isB = r.dropWhile isB by rw [List.dropWhile_cons, hb]; rfl]
      refine Ev.step (f := fun k => scan_cutter_word.l0 k s (pos s r)) (fun k => ?_) (word_ev s hs r (sfx_tl h))
      show scan_cutter_word.l0 (k + 1) _ _ = _
      conv => lhs; unfold scan_cutter_word.l0
      rw [if_pos pos_lt, if_pos h2, blank_f h, hb, pos_next hs h]
      simp only [Option.bind_some, if_true]
    | false =>
      rw [show (b :: r).dropWhile isB = b :: r by rw [List.dropWhile_cons, hb]; rfl]
      have hl := l1_ev s hs (b :: r) (b :: r) [] rfl h
      have e1 : s.extract (pos s (b :: r)).toNat (pos s (restL (b :: r))).toNat = byt (wordL (b :: r)) := by
        have := ext_pos (s := s) (w := wordL (b :: r)) (r := restL (b :: r)) (by rw [word_rest]; exact h)
        rwa [word_rest] at this
      have e2 : decide (pos s (restL (b :: r)) > pos s (b :: r)) = decide (b :: r ≠ []) := by
        have h5 := rest_len (b :: r)
        have h6 := word_pos (r := r) hb
        rw [decide_eq_true (by unfold pos; omega), decide_eq_true (by simp)]
      rw [e1, e2] at hl
      refine Ev.step (f := fun k => scan_cutter_word.j1 k s (pos s (b :: r))) (fun k => ?_) (Ev.step (fun k => ?_) hl)
      · show scan_cutter_word.l0 (k + 1) _ _ = _
        conv => lhs; unfold scan_cutter_word.l0
        rw [if_pos pos_lt, if_pos h2, blank_f h, hb]
        simp only [Option.bind_some, Bool.false_eq_true, if_false]
      · show scan_cutter_word.j1 (k + 1) _ _ = _
        conv => lhs; unfold scan_cutter_word.j1

/-! ### small, special words, one byte ahead, hexadecimal digits, quoted texts -/
theorem byt_data (l : List UInt8) : (byt l).data.toList = l := rfl
theorem byt_size (l : List UInt8) : (byt l).size = l.length := by rw [← size_len]; rfl
theorem byt_toList (l : List UInt8) : (byt l).toList = l := by rw [Lib.toList_data]; rfl
theorem small1_u8 (b : UInt8) : UInt8.ofNat (small1 b.toNat).toNat = small8 b := by
  unfold small1 small8
  by_cases h : 65 ≤ b.toNat ∧ b.toNat ≤ 90
  · rw [if_pos (by omega), if_pos h]
    apply UInt8.toNat_inj.1
    rw [UInt8.toNat_ofNat', UInt8.toNat_add]
    show _ = (b.toNat + 32) % 256
    congr 1
  · rw [if_neg (by omega), if_neg h]
    apply UInt8.toNat_inj.1
    simp
theorem small_f (l : List UInt8) (h : l.length ≤ 4096) : scan_small.f (byt l) = some (byt (l.map small8)) := by
  unfold scan_small.f
  rw [byt_size, if_pos (by omega)]
  congr 1
  unfold smalls
  rw [byt_data]
  show (⟨_⟩ : ByteArray) = ⟨_⟩
  congr 1
  show List.toArray (List.map _ (List.map _ l)) = _
  rw [List.map_map]
  congr 1
  apply List.map_congr_left
  intro b _
  exact small1_u8 b
theorem special_f (w : List UInt8) : scan_isSpecial.f (byt w) = some (decide (specW w)) := by
  unfold scan_isSpecial.f
  rw [byt_toList]
  by_cases h1 : w = [92]
  · rw [if_pos h1, decide_eq_true (show specW w from Or.inl h1)]
  rw [if_neg h1]
  by_cases h2 : w = [40]
  · rw [if_pos h2, decide_eq_true (show specW w from Or.inr (Or.inl h2))]
  rw [if_neg h2]
  by_cases h3 : w = [46, 40]
  · rw [if_pos h3, decide_eq_true (show specW w from Or.inr (Or.inr (Or.inl h3)))]
  rw [if_neg h3]
  by_cases h4 : w = [34]
  · rw [if_pos h4, decide_eq_true (show specW w from Or.inr (Or.inr (Or.inr (Or.inl h4))))]
  rw [if_neg h4]
  by_cases h5 : w = [46, 34]
  · rw [if_pos h5, decide_eq_true (show specW w from Or.inr (Or.inr (Or.inr (Or.inr h5))))]
  rw [if_neg h5, decide_eq_false (show ¬ specW w by rintro (h | h | h | h | h) <;> contradiction)]
theorem index_none {c : UInt8} : ∀ {l : List UInt8}, upL c l = none → Lib.indexByte l c = -1
  | [], _ => rfl
  | b :: l, h => by
    unfold upL at h
    by_cases e : b = c
    · rw [if_pos e] at h; cases h
    · rw [if_neg e] at h
      have h2 : upL c l = none := by cases hu : upL c l with | none => rfl | some p => rw [hu] at h; cases h
      unfold Lib.indexByte
      rw [if_neg (by simpa using e), index_none h2]
      rfl
theorem index_some {c : UInt8} : ∀ {l t r : List UInt8}, upL c l = some (t, r) → Lib.indexByte l c = t.length
  | [], _, _, h => by cases h
  | b :: l, t, r, h => by
    unfold upL at h
    by_cases e : b = c
    · rw [if_pos e] at h
      injection h with h
      injection h with h1 h2
      subst h1
      unfold Lib.indexByte
      rw [if_pos (by simpa using e)]
      rfl
    · rw [if_neg e] at h
      cases hu : upL c l with
      | none => rw [hu] at h; cases h
      | some p =>
        rw [hu] at h
        obtain ⟨p1, p2⟩ := p
        injection h with h
        injection h with h1 h2
        subst h1 h2
        have ih := index_some hu
        unfold Lib.indexByte
        rw [if_neg (by simpa using e), ih, if_neg (by simp)]
        simp
theorem strOf1 (n : Int) : strOfNums [n] = byt [UInt8.ofNat n.toNat] := rfl
theorem cut_some {s : ByteArray} {l t r : List UInt8} {c : UInt8} (hs : s.size ≤ 4096) (hl : l <:+ s.data.toList) (hu : upL c l = some (t, r)) :
    strings_Cut.f (s.extract (pos s l).toNat s.size) (byt [c]) = some (byt t, byt r, true) := by
  have h1 := (upL_some hu).1
  have e1 : s.extract (pos s l).toNat s.size = byt l := by
    have := ext_pos (s := s) (w := l) (r := []) (by rw [List.append_nil]; exact hl)
    rw [List.append_nil, pos_nil] at this
    exact this
  rw [e1]
  have hlen := sfx_len hl
  unfold strings_Cut.f
  rw [byt_size, if_pos (by omega), byt_data]
  show some (cutAt (byt l) (Lib.indexByte (byt l).data.toList c)) = _
  rw [byt_data, index_some hu]
  unfold cutAt
  rw [if_pos (by omega), Int.toNat_natCast]
  have e2 : (byt l).extract 0 t.length = byt t := by
    have := ext_pos (s := byt l) (w := t) (r := c :: r) (by rw [byt_data, h1]; exact List.suffix_refl _)
    rw [show pos (byt l) (t ++ c :: r) = 0 by unfold pos; rw [byt_size, h1]; omega, show (pos (byt l) (c :: r)).toNat = t.length by unfold pos; rw [byt_size, h1]; simp] at this
    exact this
  have e3 : (byt l).extract (t.length + 1) (byt l).size = byt r := by
    have := ext_pos (s := byt l) (w := r) (r := []) (by rw [byt_data, h1, List.append_nil]; exact ⟨t ++ [c], by simp⟩)
    rw [List.append_nil, pos_nil, show (pos (byt l) r).toNat = t.length + 1 by unfold pos; rw [byt_size, h1]; simp; omega] at this
    exact this
  rw [e2, e3]
theorem cut_none {s : ByteArray} {l : List UInt8} {c : UInt8} (hs : s.size ≤ 4096) (hl : l <:+ s.data.toList) (hu : upL c l = none) :
    strings_Cut.f (s.extract (pos s l).toNat s.size) (byt [c]) = some (byt l, ⟨#[]⟩, false) := by
  have e1 : s.extract (pos s l).toNat s.size = byt l := by
    have := ext_pos (s := s) (w := l) (r := []) (by rw [List.append_nil]; exact hl)
    rw [List.append_nil, pos_nil] at this
    exact this
  rw [e1]
  have hlen := sfx_len hl
  unfold strings_Cut.f
  rw [byt_size, if_pos (by omega), byt_data]
  show some (cutAt (byt l) (Lib.indexByte (byt l).data.toList c)) = _
  rw [byt_data, index_none hu]
  rfl
theorem upto_some {s : ByteArray} {l t r : List UInt8} {c : UInt8} (hs : s.size ≤ 4096) (hl : l <:+ s.data.toList) (hu : upL c l = some (t, r)) :
    scan_cutter_upto.f s (pos s l) (c.toNat : Int) = some (byt t, true, s, pos s r) := by
  have h0 := pos_ge hl
  have h1 := pos_le s l
  have h2 := upL_len hu
  have h3 := sfx_len hl
  unfold scan_cutter_upto.f
  rw [if_pos ⟨h0, h1, by omega⟩, strOf1, Int.toNat_natCast]
  have : UInt8.ofNat c.toNat = c := by simp
  rw [this, cut_some hs hl hu]
  simp only [Option.bind_some, if_true]
  rw [byt_size]
  congr 3
  unfold pos
  simp only [Prod.mk.injEq, true_and]
  omega
theorem upto_none {s : ByteArray} {l : List UInt8} {c : UInt8} (hs : s.size ≤ 4096) (hl : l <:+ s.data.toList) (hu : upL c l = none) :
    scan_cutter_upto.f s (pos s l) (c.toNat : Int) = some (byt l, false, s, pos s l) := by
  have h0 := pos_ge hl
  have h1 := pos_le s l
  have h3 := sfx_len hl
  unfold scan_cutter_upto.f
  rw [if_pos ⟨h0, h1, by omega⟩, strOf1, Int.toNat_natCast]
  have : UInt8.ofNat c.toNat = c := by simp
  rw [this, cut_none hs hl hu]
  simp only [Option.bind_some, Bool.false_eq_true, if_false]
def valO (b : UInt8) : Int × Bool := match hexv b with | some v => ((v : Int), true) | none => (0, false)
theorem value_all : ∀ n : Fin 256, digit_Value.f 4 (n.val : Int) 16 = some (valO (UInt8.ofNat n.val)) := by decide +kernel
theorem value_ev (b : UInt8) : Ev (fun k => digit_Value.f k (b.toNat : Int) 16) (valO b) := by
  refine Ev.of (digit_Value.mono _ _) (k := 4) ?_
  have := value_all ⟨b.toNat, UInt8.toNat_lt b⟩
  simpa using this

def ints (l : List UInt8) : List Int := l.map fun b => (b.toNat : Int)
theorem ints_len (l : List UInt8) : (ints l).length = l.length := by simp [ints]
theorem ints_app (a b : List UInt8) : ints (a ++ b) = ints a ++ ints b := by simp [ints]
theorem bytesOf_byt (l : List UInt8) : bytesOf (byt l) = ints l := rfl
theorem str_ints (l : List UInt8) : strOfNums (ints l) = byt l := by
  show (⟨List.toArray (List.map _ (List.map _ l))⟩ : ByteArray) = ⟨_⟩
  rw [List.map_map]
  congr 2
  conv => rhs; rw [← List.map_id l]
  apply List.map_congr_left
  intro b _
  simp
theorem or_all : ∀ u v : Fin 16, (Go.bits .or .u32 (((u.val : Int) * 16) % 4294967296) (v.val : Int)) % 256 = (u.val : Int) * 16 + v.val := by decide +kernel
def halfI : Option Nat → List Int
  | none => []
  | some u => [(u : Int)]
theorem hexL_len : ∀ (m : List UInt8) (h : Option Nat) (y : List UInt8), hexL m h = some y → y.length ≤ m.length
  | [], none, y, e => by simp [hexL] at e; subst e; simp
  | [], some _, y, e => by cases e
  | b :: m, h, y, e => by
    unfold hexL at e
    cases hb : isB b with
    | true => rw [hb] at e; have := hexL_len m h y e; simp; omega
    | false =>
      rw [hb] at e
      simp only [Bool.false_eq_true, if_false] at e
      cases hv : hexv b with
      | none => rw [hv] at e; cases e
      | some v =>
        rw [hv] at e
        cases h with
        | none => have := hexL_len m (some v) y e; simp; omega
        | some u =>
          simp only at e
          cases hq : hexL m none with
          | none => rw [hq] at e; cases e
          | some q =>
            rw [hq] at e
            have := hexL_len m none q hq
            injection e with e
            subst e
            simp
            omega
theorem bytesOf_ev (s : ByteArray) (hs : s.size ≤ 4096) : ∀ (m : List UInt8) (h : Option Nat) (acc : List UInt8), m <:+ s.data.toList → (∀ u, h = some u → u < 16) → acc.length + m.length ≤ 100000 →
    (∀ y, hexL m h = some y → Ev (fun k => scan_bytesOf.l0 k (ints acc) s (halfI h) (s.size : Int) (pos s m)) (ints (acc ++ y), true)) ∧
    (hexL m h = none → ∃ z, Ev (fun k => scan_bytesOf.l0 k (ints acc) s (halfI h) (s.size : Int) (pos s m)) (z, false))
  | [], h, acc, hm, hu, hl => by
    have e : ∀ k, scan_bytesOf.l0 (k + 1) (ints acc) s (halfI h) (s.size : Int) (pos s []) = some (ints acc, ((halfI h).length : Int) == 0) := fun k => by
      conv => lhs; unfold scan_bytesOf.l0
      rw [if_neg (by rw [pos_nil]; omega)]
    cases h with
    | none =>
      refine ⟨fun y hy => ?_, fun hn => by cases hn⟩
      injection hy with hy
      subst hy
      rw [List.append_nil]
      exact Ev.step e (Ev.now _)
    | some u =>
      exact ⟨fun y hy => (nomatch hy), fun _ => ⟨_, Ev.step e (Ev.now _)⟩⟩
  | b :: m, h, acc, hm, hu, hl => by
    have h2 := pos_ge hm
    have hl2 : acc.length + m.length ≤ 100000 := by simp at hl; omega
    cases hb : isB b with
    | true =>
      have ih := bytesOf_ev s hs m h acc (sfx_tl hm) hu hl2
      have e : ∀ k, scan_bytesOf.l0 (k + 1) (ints acc) s (halfI h) (s.size : Int) (pos s (b :: m)) = scan_bytesOf.l0 k (ints acc) s (halfI h) (s.size : Int) (pos s m) := fun k => by
        conv => lhs; unfold scan_bytesOf.l0
        rw [if_pos pos_lt, if_pos h2, if_pos pos_lt, blank_f hm, hb, pos_next hs hm]
        simp only [Option.bind_some, if_true]
      have e2 : hexL (b :: m) h = hexL m h := by
        conv => lhs; unfold hexL
        rw [hb]; rfl
      rw [e2]
      exact ⟨fun y hy => Ev.step e (ih.1 y hy), fun hn => by obtain ⟨z, hz⟩ := ih.2 hn; exact ⟨z, Ev.step e hz⟩⟩
    | false =>
      have hv := value_ev b
      cases hh : hexv b with
      | none =>
        have e2 : hexL (b :: m) h = none := by
          conv => lhs; unfold hexL
          rw [hb, hh]
          rfl
        rw [e2]
        refine ⟨fun y hy => (nomatch hy), fun _ => ⟨[], ?_⟩⟩
        have e3 : valO b = (0, false) := by unfold valO; rw [hh]
        rw [e3] at hv
        refine Ev.step (f := fun k => scan_bytesOf.l0 (k + 1) _ _ _ _ _) (fun k => rfl) ?_
        simp only [scan_bytesOf.l0, pos_lt, h2, blank_f hm, hb, ↓reduceIte, Option.bind_some, Bool.false_eq_true, pos_next hs hm]; simp only [bt_pos hm]
        ·
          refine Ev.bind hv ?_
          simp only [Bool.false_eq_true, if_false]
          exact Ev.now _
      | some v =>
        have e3 : valO b = ((v : Int), true) := by unfold valO; rw [hh]
        rw [e3] at hv
        have hv16 := hexv_lt hh
        cases h with
        | none =>
          have ih := bytesOf_ev s hs m (some v) acc (sfx_tl hm) (fun u e => by injection e; omega) hl2
          have e2 : hexL (b :: m) none = hexL m (some v) := by
            conv => lhs; unfold hexL
            rw [hb, hh]; rfl
          rw [e2]
          have st : ∀ r, Ev (fun k => scan_bytesOf.l0 k (ints acc) s (halfI (some v)) (s.size : Int) (pos s m)) r → Ev (fun k => scan_bytesOf.l0 k (ints acc) s (halfI none) (s.size : Int) (pos s (b :: m))) r := by
            intro r hr
            refine Ev.step (f := fun k => scan_bytesOf.l0 (k + 1) _ _ _ _ _) (fun k => rfl) ?_
            simp only [scan_bytesOf.l0, pos_lt, h2, blank_f hm, hb, ↓reduceIte, Option.bind_some, Bool.false_eq_true, pos_next hs hm]; simp only [bt_pos hm]
            ·
              refine Ev.bind hv ?_
              simpa [halfI] using hr
          exact ⟨fun y hy => st _ (ih.1 y hy), fun hn => by obtain ⟨z, hz⟩ := ih.2 hn; exact ⟨z, st _ hz⟩⟩
        | some u =>
          have hu16 := hu u rfl
          have hw : (Go.bits .or .u32 (((u : Int) * 16) % 4294967296) (v : Int)) % 256 = (u : Int) * 16 + v := or_all ⟨u, hu16⟩ ⟨v, hv16⟩
          have hw2 : ((UInt8.ofNat (u * 16 + v)).toNat : Int) = (u : Int) * 16 + v := by simp; omega
          have ih := bytesOf_ev s hs m none (acc ++ [UInt8.ofNat (u * 16 + v)]) (sfx_tl hm) (fun u e => nomatch e) (by simp; simp at hl; omega)
          have e2 : hexL (b :: m) (some u) = (hexL m none).map fun r => UInt8.ofNat (u * 16 + v) :: r := by
            conv => lhs; unfold hexL
            rw [hb, hh]; rfl
          rw [e2]
          have st : ∀ r, Ev (fun k => scan_bytesOf.l0 k (ints (acc ++ [UInt8.ofNat (u * 16 + v)])) s (halfI none) (s.size : Int) (pos s m)) r → Ev (fun k => scan_bytesOf.l0 k (ints acc) s (halfI (some u)) (s.size : Int) (pos s (b :: m))) r := by
            intro r hr
            refine Ev.step (f := fun k => scan_bytesOf.l0 (k + 1) _ _ _ _ _) (fun k => rfl) ?_
            simp only [scan_bytesOf.l0, pos_lt, h2, blank_f hm, hb, ↓reduceIte, Option.bind_some, Bool.false_eq_true, pos_next hs hm]; simp only [bt_pos hm]
            ·
              refine Ev.bind hv ?_
              have h9 : (ints acc).length < 140737488355328 := by rw [ints_len]; omega
              have e5 : rd [(u : Int), (v : Int)] 0 = u := rfl
              have e6 : rd [(u : Int), (v : Int)] 1 = v := rfl
              have e7 : ints (acc ++ [UInt8.ofNat (u * 16 + v)]) = ints acc ++ [(u : Int) * 16 + v] := by rw [← hw2]; simp [ints]
              rw [e7] at hr
              simp only [halfI, List.cons_append, List.nil_append, List.length_cons, List.length_nil, Option.bind_some, e5, e6, hw, h9, if_true]
              simpa [halfI] using hr
          refine ⟨fun y hy => ?_, fun hn => ?_⟩
          · cases hq : hexL m none with
            | none => rw [hq] at hy; cases hy
            | some q =>
              rw [hq] at hy
              injection hy with hy
              subst hy
              have := st _ (ih.1 q hq)
              rwa [show acc ++ [UInt8.ofNat (u * 16 + v)] ++ q = acc ++ UInt8.ofNat (u * 16 + v) :: q by simp] at this
          · cases hq : hexL m none with
            | none => obtain ⟨z, hz⟩ := ih.2 hq; exact ⟨z, st _ hz⟩
            | some q => rw [hq] at hn; cases hn
end Go.Proofs.Ytnnhpbghimjhiaa
