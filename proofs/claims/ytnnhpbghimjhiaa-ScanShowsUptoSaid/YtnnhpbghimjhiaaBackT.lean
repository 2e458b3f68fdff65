/- scan.Show: what is shown of tokens, over lists of bytes; cut again it gives the same tokens. -/
import Derived.Test.YtnnhpbghimjhiaaCutPT
import Derived.Test.YtnnhpbghimjhiaaQScanTx6
namespace Go.Proofs.Ytnnhpbghimjhiaa
open Go.RowKit Go.Proofs.YtnnhpbghimjhiaaW.PrintWords Go.Proofs.YtnnhpbghimjhiaaW.PrintLast Go.Proofs.Ytnnhpbghimjhiaa.QScanT
set_option linter.unusedVariables false
set_option linter.unusedSimpArgs false
/-! ### words of any text -/
theorem pos_nextG {s : ByteArray} {b : UInt8} {r : List UInt8} (hs : s.size ≤ 4611686018427387904) (h : (b :: r) <:+ s.data.toList) : wrap64 (pos s (b :: r) + 1) = pos s r := by
  have := pos_ge h
  have := pos_le s (b :: r)
  rw [w64 (by omega) (by omega), pos_cons s b r]
theorem l1_evG (s : ByteArray) (hs : s.size ≤ 4611686018427387904) (L : List UInt8) : ∀ m w : List UInt8, L = w ++ m → L <:+ s.data.toList →
    Ev (fun k => scan_cutter_word.l1 k (pos s L) s (pos s m)) (s.extract (pos s L).toNat (pos s (restL m)).toNat, decide (pos s (restL m) > pos s L), s, pos s (restL m))
  | [], w, e, hL => by
    have h0 := pos_ge hL
    have h1 := pos_le s L
    refine Ev.step (f := fun k => scan_cutter_word.l1 (k + 1) _ _ _) (fun k => rfl) ?_
    have : restL [] = [] := rfl
    simp only [scan_cutter_word.l1, this, pos_nil, Int.lt_irrefl, ↓reduceIte, h0, h1, Int.le_refl]
    exact Ev.now _
  | b :: m, w, e, hL => by
    have h0 := pos_ge hL
    have h1 := pos_le s L
    have hm : (b :: m) <:+ s.data.toList := by subst e; exact sfx_app hL
    have h2 := pos_ge hm
    have h3 : pos s L ≤ pos s (b :: m) := by subst e; exact pos_mono
    rw [rest_cons]
    refine Ev.step (f := fun k => scan_cutter_word.l1 (k + 1) _ _ _) (fun k => rfl) ?_
    cases hb : isB b with
    | true =>
      simp only [scan_cutter_word.l1, pos_lt, h2, ↓reduceIte, blank_f hm, hb, Option.bind_some, h0, h3, pos_le]
      exact Ev.now _
    | false =>
      simp only [scan_cutter_word.l1, pos_lt, h2, ↓reduceIte, blank_f hm, hb, Option.bind_some, Bool.false_eq_true, pos_nextG hs hm]
      exact l1_evG s hs L m (w ++ [b]) (by rw [e]; simp) hL
theorem word_evG (s : ByteArray) (hs : s.size ≤ 4611686018427387904) : ∀ l : List UInt8, l <:+ s.data.toList →
    Ev (fun k => scan_cutter_word.f k s (pos s l)) (byt (wordL (l.dropWhile isB)), decide (l.dropWhile isB ≠ []), s, pos s (restL (l.dropWhile isB)))
  | [], h => by
    have hl := l1_evG s hs [] [] [] rfl h
    have e1 : s.extract (pos s []).toNat (pos s (restL [])).toNat = byt [] := ext_pos (w := []) h
    have e2 : decide (pos s (restL []) > pos s []) = decide (([] : List UInt8) ≠ []) := by simp [restL]
    rw [e1, e2] at hl
    refine Ev.step (f := fun k => scan_cutter_word.l0 (k + 1) _ _) (fun k => rfl) ?_
    simp only [scan_cutter_word.l0, pos_nil, Int.lt_irrefl, ↓reduceIte]
    rw [← pos_nil]
    refine Ev.step (f := fun k => scan_cutter_word.j1 (k + 1) _ _) (fun k => rfl) ?_
    simp only [scan_cutter_word.j1]
    exact hl
  | b :: r, h => by
    have h2 := pos_ge h
    refine Ev.step (f := fun k => scan_cutter_word.l0 (k + 1) _ _) (fun k => rfl) ?_
    cases hb : isB b with
    | true =>
      rw [show (b :: r).dropWhile isB = r.dropWhile isB by rw [List.dropWhile_cons, hb]; rfl]
      simp only [scan_cutter_word.l0, pos_lt, h2, ↓reduceIte, blank_f h, hb, Option.bind_some, pos_nextG hs h]
      exact word_evG s hs r (sfx_tl h)
    | false =>
      rw [show (b :: r).dropWhile isB = b :: r by rw [List.dropWhile_cons, hb]; rfl]
      have hl := l1_evG s hs (b :: r) (b :: r) [] rfl h
      have e1 : s.extract (pos s (b :: r)).toNat (pos s (restL (b :: r))).toNat = byt (wordL (b :: r)) := by
        have := ext_pos (s := s) (w := wordL (b :: r)) (r := restL (b :: r)) (by rw [word_rest]; exact h)
        rwa [word_rest] at this
      have e2 : decide (pos s (restL (b :: r)) > pos s (b :: r)) = decide (b :: r ≠ []) := by
        have h5 := rest_len (b :: r)
        have h6 := word_pos (r := r) hb
        rw [decide_eq_true (by unfold pos; omega), decide_eq_true (by simp)]
      rw [e1, e2] at hl
      simp only [scan_cutter_word.l0, pos_lt, h2, ↓reduceIte, blank_f h, hb, Option.bind_some, Bool.false_eq_true]
      refine Ev.step (f := fun k => scan_cutter_word.j1 (k + 1) _ _) (fun k => rfl) ?_
      simp only [scan_cutter_word.j1]
      exact hl
theorem small_fG (l : List UInt8) (h : l.length ≤ 4611686018427387904) : scan_small.f (byt l) = some (byt (l.map small8)) := by
  unfold scan_small.f
  rw [byt_size, if_pos (by omega)]
  congr 1
  unfold smalls
  rw [byt_data]
  show (⟨_⟩ : ByteArray) = ⟨_⟩
  congr 1
  show List.toArray (List.map _ (List.map _ l)) = _
  rw [List.map_map]
  congr 1
  apply List.map_congr_left
  intro b _
  exact small1_u8 b
/-! ### tokens that can come of a text -/
def wordOk (t : List UInt8) : Prop := t ≠ [] ∧ (∀ b ∈ t, isB b = false) ∧ t.map small8 = t ∧ ¬ specW t
instance (t : List UInt8) : Decidable (wordOk t) := by unfold wordOk; infer_instance
def rightP (x : S30) : Bool := if x.f0 = 2 ∨ x.f0 = 3 then decide (x.f1.size ≤ 255) else if x.f0 = 1 then decide (wordOk x.f1.data.toList) else false
theorem byt_self (s : ByteArray) : byt s.data.toList = s := rfl
theorem toList_eq (s : ByteArray) : s.toList = s.data.toList := Lib.toList_data s
theorem word_all {t : List UInt8} (h : ∀ b ∈ t, isB b = false) : wordL t = t ∧ restL t = [] ∧ t.dropWhile isB = t := by
  induction t with
  | nil => exact ⟨rfl, rfl, rfl⟩
  | cons b t ih =>
    have hb := h b (by simp)
    obtain ⟨h1, h2, _⟩ := ih (fun c hc => h c (by simp [hc]))
    refine ⟨?_, ?_, ?_⟩
    · unfold wordL at h1 ⊢; rw [List.takeWhile_cons, hb]; simp [h1]
    · unfold restL at h2 ⊢; rw [List.dropWhile_cons, hb]; simpa using h2
    · rw [List.dropWhile_cons, hb]; rfl
theorem mem_word {t : List UInt8} : ∀ b ∈ wordL t, isB b = false := by
  induction t with
  | nil => intro b hb; cases hb
  | cons c t ih =>
    intro b hb
    unfold wordL at hb ih
    rw [List.takeWhile_cons] at hb
    cases hc : isB c with
    | true => rw [hc] at hb; cases hb
    | false =>
      rw [hc] at hb
      rcases List.mem_cons.1 hb with rfl | hb
      · exact hc
      · exact ih b hb
theorem right_ev (x : S30) (hx : x.f1.size ≤ 4611686018427387904) : Ev (fun k => scan_right.f k x.f0 x.f1 x.f2) (rightP x) := by
  unfold rightP scan_right.f
  by_cases h2 : x.f0 = 2 ∨ x.f0 = 3
  · simp only [h2, ↓reduceIte]; exact Ev.now _
  simp only [h2, ↓reduceIte]
  by_cases h1 : x.f0 = 1
  case neg => simp only [h1, ↓reduceIte]; exact Ev.now _
  simp only [h1, ↓reduceIte]
  obtain ⟨t, ht⟩ : ∃ t, x.f1.data.toList = t := ⟨_, rfl⟩
  have hp : pos x.f1 t = 0 := by unfold pos; rw [← ht, size_len]; omega
  have hw := word_evG x.f1 hx t (by rw [ht]; exact List.suffix_refl _)
  rw [hp] at hw
  refine Ev.bind hw ?_
  simp only [toList_eq, ht, byt_data]
  have hlen : t.length = x.f1.size := by rw [← ht, size_len]
  by_cases c1 : wordL (t.dropWhile isB) = []
  · simp only [c1, ↓reduceIte]
    have : ¬ wordOk t := by
      rintro ⟨a, b, _, _⟩
      obtain ⟨e1, _, e3⟩ := word_all b
      rw [e3, e1] at c1
      exact a c1
    rw [decide_eq_false this]
    exact Ev.now _
  simp only [c1, ↓reduceIte]
  by_cases c2 : wordL (t.dropWhile isB) = t
  case neg =>
    simp only [c2, ↓reduceIte]
    have : ¬ wordOk t := by
      rintro ⟨a, b, _, _⟩
      obtain ⟨e1, _, e3⟩ := word_all b
      rw [e3, e1] at c2
      exact c2 rfl
    rw [decide_eq_false this]
    exact Ev.now _
  have hb : ∀ b ∈ t, isB b = false := by rw [← c2]; exact mem_word
  simp only [c2, ↓reduceIte, small_fG t (by omega), Option.bind_some, byt_data]
  rw [c2] at c1
  by_cases c3 : t.map small8 = t
  case neg =>
    simp only [c3, ↓reduceIte]
    rw [decide_eq_false (show ¬ wordOk t from fun h => c3 h.2.2.1)]
    exact Ev.now _
  simp only [c3, ↓reduceIte, special_f, Option.bind_some]
  have : (!decide (specW t)) = decide (wordOk t) := by
    by_cases c4 : specW t
    · rw [decide_eq_true c4, decide_eq_false (show ¬ wordOk t from fun h => h.2.2.2 c4)]; rfl
    · rw [decide_eq_false c4, decide_eq_true (show wordOk t from ⟨c1, hb, c3, c4⟩)]; rfl
  rw [this]
  exact Ev.now _
theorem small_small (b : UInt8) : small8 (small8 b) = small8 b ∧ (isB b = false → isB (small8 b) = false) ∧ ((small8 b = 92 ∨ small8 b = 40 ∨ small8 b = 46 ∨ small8 b = 34) → small8 b = b) := by
  have key : ∀ n : Fin 256, small8 (small8 (UInt8.ofNat n.val)) = small8 (UInt8.ofNat n.val) ∧ (isB (UInt8.ofNat n.val) = false → isB (small8 (UInt8.ofNat n.val)) = false) ∧ ((small8 (UInt8.ofNat n.val) = 92 ∨ small8 (UInt8.ofNat n.val) = 40 ∨ small8 (UInt8.ofNat n.val) = 46 ∨ small8 (UInt8.ofNat n.val) = 34) → small8 (UInt8.ofNat n.val) = UInt8.ofNat n.val) := by decide +kernel
  have := key ⟨b.toNat, UInt8.toNat_lt b⟩
  simpa using this
theorem spec_small {w : List UInt8} (h : specW (w.map small8)) : specW w := by
  have e1 : ∀ c : UInt8, (c = 92 ∨ c = 40 ∨ c = 46 ∨ c = 34) → ∀ b, small8 b = c → b = c := by
    intro c hc b hb
    have := (small_small b).2.2 (by rw [hb]; exact hc)
    rw [← this, hb]
  unfold specW at h ⊢
  rcases h with h | h | h | h | h
  · cases w with
    | nil => cases h
    | cons a w => cases w with
      | nil => simp at h; rw [e1 92 (.inl rfl) a h]; simp
      | cons b w => simp at h
  · cases w with
    | nil => cases h
    | cons a w => cases w with
      | nil => simp at h; rw [e1 40 (.inr (.inl rfl)) a h]; simp
      | cons b w => simp at h
  · cases w with
    | nil => cases h
    | cons a w => cases w with
      | nil => simp at h
      | cons b w => cases w with
        | nil => simp at h; rw [e1 46 (.inr (.inr (.inl rfl))) a h.1, e1 40 (.inr (.inl rfl)) b h.2]; simp
        | cons c w => simp at h
  · cases w with
    | nil => cases h
    | cons a w => cases w with
      | nil => simp at h; rw [e1 34 (.inr (.inr (.inr rfl))) a h]; simp
      | cons b w => simp at h
  · cases w with
    | nil => cases h
    | cons a w => cases w with
      | nil => simp at h
      | cons b w => cases w with
        | nil => simp at h; rw [e1 46 (.inr (.inr (.inl rfl))) a h.1, e1 34 (.inr (.inr (.inr rfl))) b h.2]; simp
        | cons c w => simp at h
theorem lim_ok {t r : List UInt8} (h : (limL t r).1 = 0) : (limL t r).2.1.length ≤ 255 := by
  unfold limL at h ⊢
  by_cases c : t.length > 255
  · rw [if_pos c] at h; cases h
  · rw [if_neg c]; show t.length ≤ 255; omega
theorem quot_short {acc l : List UInt8} {e : Int} {t r : List UInt8} (h : QuotR acc l e t r) (he : e = 0) : t.length ≤ 255 := by
  induction h with
  | none _ => cases he
  | fin h => exact lim_ok he
  | blank h _ => exact lim_ok he
  | bad _ _ _ => cases he
  | noend _ _ => cases he
  | nohex _ _ _ => cases he
  | hex h1 h2 _ _ ih => exact ih he
theorem consT_mem {x y : S30} {q : Int × List S30} (h : y ∈ (consT x q).2) : y = x ∨ y ∈ q.2 := by
  unfold consT at h
  split at h
  · exact List.mem_cons.1 h
  · cases h
theorem cut_right {N : Int} {l : List UInt8} {q : Int × List S30} (h : CutR N l q) : ∀ x ∈ q.2, rightP x = true := by
  induction h with
  | done _ => intro x hx; cases hx
  | lineEnd _ _ _ _ => intro x hx; cases hx
  | line _ _ _ _ _ ih => exact ih
  | noParen _ _ _ _ => intro x hx; cases hx
  | paren _ _ _ _ _ ih => exact ih
  | bare _ _ _ _ _ _ => intro x hx; cases hx
  | noPrint _ _ _ _ _ => intro x hx; cases hx
  | longPrint _ _ _ _ _ _ => intro x hx; cases hx
  | print hL h0 hw hr hu ht hq ih =>
    intro x hx
    rcases consT_mem hx with rfl | hx
    · unfold rightP
      rw [if_pos (.inr rfl)]
      exact decide_eq_true (by rw [byt_size]; exact ht)
    · exact ih x hx
  | noQuot _ _ _ _ _ _ => intro x hx; cases hx
  | @quot l L r t r2 b q hL h0 hw hr hq hc ih =>
    intro x hx
    rcases consT_mem hx with rfl | hx
    · unfold rightP
      have : (if wordL L = [34] then (2 : Int) else 3) = 2 ∨ (if wordL L = [34] then (2 : Int) else 3) = 3 := by split; exact .inl rfl; exact .inr rfl
      rw [if_pos this]
      exact decide_eq_true (by rw [byt_size]; exact quot_short hq rfl)
    · exact ih x hx
  | @word l L q hL h0 hw hq ih =>
    intro x hx
    rcases consT_mem hx with rfl | hx
    · unfold rightP
      rw [if_neg (show ¬ ((1:Int)=2 ∨ (1:Int)=3) by decide), if_pos rfl]
      refine decide_eq_true ⟨?_, ?_, ?_, ?_⟩
      · rw [byt_data]
        cases L with
        | nil => exact absurd rfl h0
        | cons b r =>
          have := word_pos (r := r) (drop_head hL)
          intro e
          rw [List.map_eq_nil_iff] at e
          rw [e] at this
          simp at this
      · rw [byt_data]
        intro b hb
        obtain ⟨c, hc, rfl⟩ := List.mem_map.1 hb
        exact (small_small c).2.1 (mem_word c hc)
      · rw [byt_data, List.map_map]
        apply List.map_congr_left
        intro b _
        exact (small_small b).1
      · rw [byt_data]
        exact fun h => hw (spec_small h)
    · exact ih x hx
/-! ### what is shown -/
def partS (x : S30) : List UInt8 := if x.f0 = 1 then x.f1.data.toList else partL x
def showS : List S30 → List UInt8
  | [] => []
  | [x] => partS x
  | x :: y :: l => partS x ++ 32 :: showS (y :: l)
def atL (N : Int) : List S30 → List S30
  | [] => []
  | x :: l => ⟨x.f0, x.f1, N - (showS (x :: l)).length⟩ :: atL N l
theorem showS_cons (x : S30) (l : List S30) : ∃ rest, showS (x :: l) = partS x ++ rest ∧ ((l = [] ∧ rest = []) ∨ (l ≠ [] ∧ rest = 32 :: showS l)) := by
  cases l with
  | nil => exact ⟨[], by simp [showS], .inl ⟨rfl, rfl⟩⟩
  | cons y l => exact ⟨32 :: showS (y :: l), rfl, .inr ⟨by simp, rfl⟩⟩
theorem hex_all : ∀ n : Fin 256, hexv (hexd (n.val / 16)) = some (n.val / 16) ∧ hexv (hexd (n.val % 16)) = some (n.val % 16) ∧ isB (hexd (n.val / 16)) = false ∧ isB (hexd (n.val % 16)) = false ∧ hexd (n.val / 16) ≠ 41 ∧ hexd (n.val % 16) ≠ 41 := by decide +kernel
theorem hex_ok (c : UInt8) : hexL [hexd (c.toNat / 16), hexd (c.toNat % 16)] none = some [c] ∧ (41 : UInt8) ∉ [hexd (c.toNat / 16), hexd (c.toNat % 16)] := by
  obtain ⟨h1, h2, h3, h4, h5, h6⟩ := hex_all ⟨c.toNat, UInt8.toNat_lt c⟩
  simp only at h1 h2 h3 h4 h5 h6
  constructor
  · simp only [hexL, h1, h2, h3, h4, Bool.false_eq_true, ↓reduceIte, Option.map_some]
    have : c.toNat / 16 * 16 + c.toNat % 16 = c.toNat := by omega
    rw [this]
    simp
  · simp [Ne.symm h5, Ne.symm h6]
/-- A quoted text is read back. -/
theorem quot_back {rest : List UInt8} (hr : rest = [] ∨ ∃ b r, rest = b :: r ∧ isB b = true) : ∀ (t p acc : List UInt8), (34 : UInt8) ∉ p → (acc ++ p ++ t).length ≤ 255 → QuotR acc (p ++ t.flatMap showB ++ 34 :: rest) 0 (acc ++ p ++ t) rest
  | [], p, acc, hp, hl => by
    rw [List.flatMap_nil, List.append_nil, List.append_nil]
    rw [List.append_nil] at hl
    have hu : upL 34 (p ++ 34 :: rest) = some (p, rest) := upL_of hp
    have hlim : limL (acc ++ p) [] = (0, acc ++ p, []) := by unfold limL; rw [if_neg (by omega)]
    rcases hr with rfl | ⟨b, r, rfl, hb⟩
    · have := QuotR.fin (acc := acc) hu
      rw [hlim] at this
      exact this
    · have := QuotR.blank (acc := acc) hu hb
      rw [hlim] at this
      exact this
  | c :: t, p, acc, hp, hl => by
    rw [List.flatMap_cons]
    by_cases hc : c.toNat = 34 ∨ c.toNat < 32 ∨ 126 < c.toNat
    · have hs : showB c = [34, 40, hexd (c.toNat / 16), hexd (c.toNat % 16), 41] := by unfold showB; rw [if_pos hc]
      obtain ⟨h1, h2⟩ := hex_ok c
      rw [hs]
      have ih := quot_back hr t [] (acc ++ p ++ [c]) (by simp) (by simp at hl ⊢; omega)
      have e1 : p ++ ([34, 40, hexd (c.toNat / 16), hexd (c.toNat % 16), 41] ++ t.flatMap showB) ++ 34 :: rest = p ++ 34 :: (40 :: ([hexd (c.toNat / 16), hexd (c.toNat % 16)] ++ 41 :: (t.flatMap showB ++ 34 :: rest))) := by simp
      rw [e1]
      rw [List.append_nil, List.nil_append] at ih
      have e2 : acc ++ p ++ [c] ++ t = acc ++ p ++ c :: t := by simp
      rw [e2] at ih
      exact .hex (upL_of hp) (upL_of h2) h1 ih
    · have hs : showB c = [c] := by unfold showB; rw [if_neg hc]
      rw [hs]
      have h34 : c ≠ 34 := fun e => hc (.inl (by rw [e]; rfl))
      have ih := quot_back hr t (p ++ [c]) acc (by simp [hp, Ne.symm h34]) (by simp at hl ⊢; omega)
      have e1 : p ++ ([c] ++ t.flatMap showB) ++ 34 :: rest = p ++ [c] ++ t.flatMap showB ++ 34 :: rest := by simp
      have e2 : acc ++ (p ++ [c]) ++ t = acc ++ p ++ c :: t := by simp
      rw [e1, ← e2]
      exact ih
theorem cut_of_drop {N : Int} {l l' : List UInt8} {q : Int × List S30} (h : CutR N l' q) : l.dropWhile isB = l'.dropWhile isB → CutR N l q := by
  intro e
  cases h with
  | done h => exact .done (e.trans h)
  | lineEnd h a b c => exact .lineEnd (e.trans h) a b c
  | line h a b c d => exact .line (e.trans h) a b c d
  | noParen h a b c => exact .noParen (e.trans h) a b c
  | paren h a b c d => exact .paren (e.trans h) a b c d
  | bare h a b c d f => exact .bare (e.trans h) a b c d f
  | noPrint h a b c d => exact .noPrint (e.trans h) a b c d
  | longPrint h a b c d f => exact .longPrint (e.trans h) a b c d f
  | print h a b c d f g => exact .print (e.trans h) a b c d f g
  | noQuot h a b c d f => exact .noQuot (e.trans h) a b c d f
  | quot h a b c d f => exact .quot (e.trans h) a b c d f
  | word h a b c => exact .word (e.trans h) a b c
theorem take_word {w rest : List UInt8} (hw : ∀ b ∈ w, isB b = false) (hr : rest = [] ∨ ∃ b r, rest = b :: r ∧ isB b = true) : wordL (w ++ rest) = w ∧ restL (w ++ rest) = rest := by
  induction w with
  | nil =>
    rcases hr with rfl | ⟨b, r, rfl, hb⟩
    · exact ⟨rfl, rfl⟩
    · unfold wordL restL
      rw [List.nil_append, List.takeWhile_cons, List.dropWhile_cons, hb]
      exact ⟨rfl, rfl⟩
  | cons c w ih =>
    have hc := hw c (by simp)
    obtain ⟨h1, h2⟩ := ih (fun b hb => hw b (by simp [hb]))
    constructor
    · unfold wordL at h1 ⊢; rw [List.cons_append, List.takeWhile_cons, hc]; simp [h1]
    · unfold restL at h2 ⊢; rw [List.cons_append, List.dropWhile_cons, hc]; simpa using h2
theorem drop_word {w rest : List UInt8} (h0 : w ≠ []) (hw : ∀ b ∈ w, isB b = false) : (w ++ rest).dropWhile isB = w ++ rest := by
  cases w with
  | nil => exact absurd rfl h0
  | cons c w => rw [List.cons_append, List.dropWhile_cons, hw c (by simp)]; rfl
theorem back {N : Int} : ∀ l : List S30, (∀ x ∈ l, rightP x = true) → CutR N (showS l) (0, atL N l)
  | [], _ => .done rfl
  | x :: l, hl => by
    have ih := back (N := N) l (fun y hy => hl y (by simp [hy]))
    have hx := hl x (by simp)
    obtain ⟨rest, hs, hrest⟩ := showS_cons x l
    have hr : rest = [] ∨ ∃ b r, rest = b :: r ∧ isB b = true := by
      rcases hrest with ⟨_, h⟩ | ⟨_, h⟩
      · exact .inl h
      · exact .inr ⟨32, _, h, rfl⟩
    have hq : CutR N rest (0, atL N l) := by
      rcases hrest with ⟨rfl, rfl⟩ | ⟨_, rfl⟩
      · exact .done rfl
      · exact cut_of_drop ih rfl
    have hcons : ∀ y : S30, y = ⟨x.f0, x.f1, N - (showS (x :: l)).length⟩ → consT y (0, atL N l) = (0, atL N (x :: l)) := by
      intro y hy; subst hy; rfl
    unfold rightP at hx
    by_cases h1 : x.f0 = 1
    · rw [if_neg (by omega), if_pos h1] at hx
      obtain ⟨a, b, c, d⟩ := of_decide_eq_true hx
      have hp : partS x = x.f1.data.toList := by unfold partS; rw [if_pos h1]
      rw [hp] at hs
      obtain ⟨w1, w2⟩ := take_word b hr
      have := CutR.word (N := N) (l := x.f1.data.toList ++ rest) (drop_word a b) (by intro e; exact a (List.append_eq_nil_iff.1 e).1) (by rw [w1]; exact d) (by rw [w2]; exact hq)
      rw [w1, c, ← hs, byt_self] at this
      rw [hcons ⟨1, x.f1, _⟩ (by rw [h1])] at this
      exact this
    · have h23 : x.f0 = 2 ∨ x.f0 = 3 := by
        by_cases h : x.f0 = 2 ∨ x.f0 = 3
        · exact h
        · rw [if_neg h, if_neg h1] at hx; cases hx
      rw [if_pos h23] at hx
      have hlen : x.f1.size ≤ 255 := of_decide_eq_true hx
      have hp : partS x = partL x := by unfold partS; rw [if_neg h1]
      obtain ⟨pre, hpre, hpw⟩ : ∃ w, preL x.f0 ++ [34, 32] = w ++ [32] ∧ (w = [34] ∨ w = [46, 34]) := by
        unfold preL
        by_cases h3 : x.f0 = 3
        · rw [if_pos h3]; exact ⟨[46, 34], rfl, .inr rfl⟩
        · rw [if_neg h3]; exact ⟨[34], rfl, .inl rfl⟩
      have hkind : (if pre = [34] then (2 : Int) else 3) = x.f0 := by
        unfold preL at hpre
        by_cases h3 : x.f0 = 3
        · rw [if_pos h3] at hpre
          have : pre = [46, 34] := (List.append_cancel_right (show pre ++ [32] = [46,34] ++ [32] from hpre.symm))
          rw [this, if_neg (by decide), h3]
        · rw [if_neg h3] at hpre
          have : pre = [34] := (List.append_cancel_right (show pre ++ [32] = [34] ++ [32] from hpre.symm))
          rw [this, if_pos rfl]
          rcases h23 with h | h
          · exact h.symm
          · exact absurd h h3
      have hs2 : showS (x :: l) = pre ++ (32 :: (x.f1.data.toList.flatMap showB ++ 34 :: rest)) := by
        rw [hs, hp]
        unfold partL
        rw [hpre]
        simp
      have hpb : ∀ b ∈ pre, isB b = false := by rcases hpw with rfl | rfl <;> decide
      have hp0 : pre ≠ [] := by rcases hpw with rfl | rfl <;> decide
      obtain ⟨w1, w2⟩ := take_word (rest := 32 :: (x.f1.data.toList.flatMap showB ++ 34 :: rest)) hpb (.inr ⟨32, _, rfl, rfl⟩)
      have hqb := quot_back hr x.f1.data.toList [] [] (by simp) (by simpa using hlen)
      rw [List.nil_append, List.nil_append, List.nil_append] at hqb
      have := CutR.quot (N := N) (l := showS (x :: l)) (L := showS (x :: l)) (by rw [hs2]; exact drop_word hp0 hpb) (by rw [hs2]; intro e; exact hp0 (List.append_eq_nil_iff.1 e).1) (by rw [hs2, w1]; exact hpw) (by rw [hs2, w2]) hqb hq
      have w3 : wordL (showS (x :: l)) = pre := by rw [hs2]; exact w1
      rw [w3, hkind, byt_self, hcons _ rfl] at this
      exact this
end Go.Proofs.Ytnnhpbghimjhiaa
