/- ScanShows: tokens are shown as a source text as the reference shows them. For tokens of bulk at most 1048576. -/
import Derived.Test.YtnnhpbghimjhiaaShowT
import Derived.Test.YtnnhpbghimjhiaaQScanTx9
namespace Go.Proofs.Ytnnhpbghimjhiaa.PureShows
open Go.RowKit Go.Proofs.YtnnhpbghimjhiaaW.PrintWords Go.Proofs.YtnnhpbghimjhiaaW.PrintLast Go.Proofs.YtnnhpbghimjhiaaW.PrintMore Go.Proofs.Ytnnhpbghimjhiaa.QScanT
set_option linter.unusedVariables false
set_option linter.unusedSimpArgs false
theorem alive_ev : Ev (fun k => tinderlaw06_alive.f k) true := by
  refine Ev.of tinderlaw06_alive.mono (k := 60) ?_
  decide +kernel
/-! ### the reference's small functions -/
theorem rblank_f {s : ByteArray} {b : UInt8} {r : List UInt8} (h : (b :: r) <:+ s.data.toList) : tinderref06_blank.f s (pos s (b :: r)) = some (isB b) := by
  unfold tinderref06_blank.f
  rw [if_pos (pos_ge h), if_pos pos_lt, if_pos (pos_ge h), bt_pos h, isB_iff]
theorem rspecial_f (w : List UInt8) : tinderref06_Special.f (byt w) = some (decide (specW w)) := by
  have := special_f w
  unfold scan_isSpecial.f at this
  unfold tinderref06_Special.f
  rw [← this]
  by_cases h : (byt w).toList = [46, 34]
  · simp [h]
  · simp [h]
    have h2 : ((byt w).toList == [46, 34]) = false := by simpa using h
    rw [h2]
theorem rsmall1 (b : UInt8) : tinderref02_Small.f (b.toNat : Int) = some (((small8 b).toNat : Nat) : Int) := by
  have key : ∀ n : Fin 256, tinderref02_Small.f (n.val : Int) = some (((small8 (UInt8.ofNat n.val)).toNat : Nat) : Int) := by decide +kernel
  have := key ⟨b.toNat, UInt8.toNat_lt b⟩
  simpa using this
theorem rsmall_ev (s : ByteArray) (hs : s.size ≤ 1048576) : ∀ (m acc : List UInt8), m <:+ s.data.toList → acc.length + m.length ≤ 1048576 →
    Ev (fun k => tinderref06_small.l0 k s (ints acc) (pos s m)) (byt (acc ++ m.map small8))
  | [], acc, hm, hb => by
    refine Ev.step (f := fun k => tinderref06_small.l0 (k + 1) _ _ _) (fun k => rfl) ?_
    simp only [tinderref06_small.l0, pos_nil, Int.lt_irrefl, ↓reduceIte, str_ints, List.map_nil, List.append_nil]
    exact Ev.now _
  | b :: m, acc, hm, hb => by
    have h1 : (ints acc).length < 140737488355328 := by rw [ints_len]; simp at hb; omega
    refine Ev.step (f := fun k => tinderref06_small.l0 (k + 1) _ _ _) (fun k => rfl) ?_
    simp only [tinderref06_small.l0, pos_lt, pos_ge hm, ↓reduceIte, bt_pos hm, rsmall1, Option.bind_some, h1, pos_nextG (show s.size ≤ 4611686018427387904 by omega) hm]
    have ih := rsmall_ev s hs m (acc ++ [small8 b]) (sfx_tl hm) (by simp at hb ⊢; omega)
    have e1 : ints (acc ++ [small8 b]) = ints acc ++ [((small8 b).toNat : Int)] := by simp [ints]
    rw [e1] at ih
    have e2 : acc ++ [small8 b] ++ m.map small8 = acc ++ (b :: m).map small8 := by simp
    rw [e2] at ih
    exact ih
theorem rsmall_f (w : List UInt8) (h : w.length ≤ 1048576) : Ev (fun k => tinderref06_small.f k (byt w)) (byt (w.map small8)) := by
  have := rsmall_ev (byt w) (by rw [byt_size]; exact h) w [] (by rw [byt_data]; exact List.suffix_refl _) (by simp; omega)
  have hp : pos (byt w) w = 0 := by unfold pos; rw [byt_size]; omega
  rw [hp] at this
  exact this
/-! ### which tokens are right -/
theorem gl0_ev (s : ByteArray) (hs : s.size ≤ 1048576) (f0 f2 : Int) : ∀ m : List UInt8, m <:+ s.data.toList → Ev (fun k => tinderref06_Good.l0 k (pos s m) f0 s f2) (decide (∀ b ∈ m, isB b = false))
  | [], hm => by
    refine Ev.step (f := fun k => tinderref06_Good.l0 (k + 1) _ _ _ _) (fun k => rfl) ?_
    simp only [tinderref06_Good.l0, pos_nil, Int.lt_irrefl, ↓reduceIte]
    exact Ev.now _
  | b :: m, hm => by
    refine Ev.step (f := fun k => tinderref06_Good.l0 (k + 1) _ _ _ _) (fun k => rfl) ?_
    simp only [tinderref06_Good.l0, pos_lt, ↓reduceIte, rblank_f hm, Option.bind_some]
    cases hb : isB b with
    | true =>
      rw [decide_eq_false (by intro h; have := h b (by simp); rw [hb] at this; cases this)]
      simp only [↓reduceIte]
      exact Ev.now _
    | false =>
      have ih := gl0_ev s hs f0 f2 m (sfx_tl hm)
      have e : decide (∀ c ∈ b :: m, isB c = false) = decide (∀ c ∈ m, isB c = false) := decide_eq_decide.2 (by simp [hb])
      rw [e]
      simp only [Bool.false_eq_true, ↓reduceIte, pos_nextG (show s.size ≤ 4611686018427387904 by omega) hm]
      exact ih
theorem gj1_true (f0 : Int) (s : ByteArray) (f2 : Int) : Ev (fun k => tinderref06_Good.j1 k true f0 s f2) false := by
  refine Ev.step (f := fun k => tinderref06_Good.j1 (k + 1) _ _ _ _) (fun k => rfl) ?_
  simp only [tinderref06_Good.j1, ↓reduceIte]
  exact Ev.now _
theorem good_ev (x : S30) (hx : x.f1.size ≤ 1048576) : Ev (fun k => tinderref06_Good.f k x.f0 x.f1 x.f2) (rightP x) := by
  have e255 : decide ((x.f1.size : Int) ≤ 255) = decide (x.f1.size ≤ 255) := decide_eq_decide.2 (by omega)
  have hj : Ev (fun k => tinderref06_Good.j0 k true x.f0 x.f1 x.f2) (decide (x.f1.size ≤ 255)) := by
    refine Ev.step (f := fun k => tinderref06_Good.j0 (k + 1) _ _ _ _) (fun k => rfl) ?_
    simp only [tinderref06_Good.j0, ↓reduceIte, e255]
    exact Ev.now _
  unfold tinderref06_Good.f rightP
  by_cases h2 : x.f0 = 2
  · rw [if_pos (show x.f0 = 2 ∨ x.f0 = 3 from .inl h2)]
    simp only [h2, ↓reduceIte] at hj ⊢
    exact hj
  by_cases h3 : x.f0 = 3
  · rw [if_pos (show x.f0 = 2 ∨ x.f0 = 3 from .inr h3)]
    simp only [h3, show ¬ ((3 : Int) = 2) by decide, ↓reduceIte, beq_self_eq_true] at hj ⊢
    exact hj
  rw [if_neg (show ¬ (x.f0 = 2 ∨ x.f0 = 3) by omega)]
  have hb3 : (x.f0 == 3) = false := by simpa using h3
  simp only [h2, ↓reduceIte, hb3]
  refine Ev.step (f := fun k => tinderref06_Good.j0 (k + 1) _ _ _ _) (fun k => rfl) ?_
  simp only [tinderref06_Good.j0, Bool.false_eq_true, ↓reduceIte]
  by_cases h1 : x.f0 = 1
  case neg => simp only [h1, ↓reduceIte]; exact gj1_true _ _ _
  simp only [h1, ↓reduceIte]
  obtain ⟨t, ht⟩ : ∃ t, x.f1.data.toList = t := ⟨_, rfl⟩
  have hbt : x.f1 = byt t := by rw [← ht]; exact (byt_self _).symm
  have hlen : t.length ≤ 1048576 := by rw [← ht, size_len]; exact hx
  rw [hbt] at hx ⊢
  rw [byt_data]
  simp only [byt_toList]
  by_cases c1 : t = []
  · rw [decide_eq_false (fun h : wordOk t => h.1 c1)]
    simp only [c1, ↓reduceIte]
    exact gj1_true _ _ _
  simp only [c1, ↓reduceIte, rspecial_f, Option.bind_some]
  by_cases c2 : specW t
  · rw [decide_eq_false (fun h : wordOk t => h.2.2.2 c2)]
    simp only [decide_eq_true c2, ↓reduceIte]
    exact gj1_true _ _ _
  simp only [decide_eq_false c2, Bool.false_eq_true, ↓reduceIte]
  refine Ev.bind (rsmall_f t hlen) ?_
  simp only [byt_toList]
  by_cases c3 : t.map small8 = t
  case neg =>
    rw [decide_eq_false (fun h : wordOk t => c3 h.2.2.1)]
    have : (t.map small8 != t) = true := by simpa using c3
    simp only [this]
    exact gj1_true _ _ _
  have : (t.map small8 != t) = false := by simpa using c3
  simp only [this]
  refine Ev.step (f := fun k => tinderref06_Good.j1 (k + 1) _ _ _ _) (fun k => rfl) ?_
  simp only [tinderref06_Good.j1, Bool.false_eq_true, ↓reduceIte]
  have hl := gl0_ev (byt t) hx 1 x.f2 t (by rw [byt_data]; exact List.suffix_refl _)
  have hp : pos (byt t) t = 0 := by unfold pos; rw [byt_size]; omega
  rw [hp] at hl
  have e : decide (wordOk t) = decide (∀ b ∈ t, isB b = false) := decide_eq_decide.2 ⟨fun h => h.2.1, fun h => ⟨c1, h, c3, c2⟩⟩
  rw [e]
  exact hl
/-! ### what the reference shows -/
theorem hexI : ∀ n : Fin 16, bt (⟨#[48, 49, 50, 51, 52, 53, 54, 55, 56, 57, 97, 98, 99, 100, 101, 102]⟩ : ByteArray) (n.val : Int) = ((hexd n.val).toNat : Int) := by decide +kernel
theorem divI : ∀ n : Fin 256, Int.tdiv (n.val : Int) 16 % 256 = ((n.val / 16 : Nat) : Int) ∧ Int.tmod (n.val : Int) 16 = ((n.val % 16 : Nat) : Int) := by decide +kernel
theorem hex_lit (b : UInt8) : ([34, 40, bt (⟨#[48, 49, 50, 51, 52, 53, 54, 55, 56, 57, 97, 98, 99, 100, 101, 102]⟩ : ByteArray) (Int.tdiv (b.toNat : Int) 16 % 256), bt (⟨#[48, 49, 50, 51, 52, 53, 54, 55, 56, 57, 97, 98, 99, 100, 101, 102]⟩ : ByteArray) (Int.tmod (b.toNat : Int) 16), 41] : List Int) = ints [34, 40, hexd (b.toNat / 16), hexd (b.toNat % 16), 41] ∧
    0 ≤ Int.tdiv (b.toNat : Int) 16 % 256 ∧ Int.tdiv (b.toNat : Int) 16 % 256 < 16 ∧ 0 ≤ Int.tmod (b.toNat : Int) 16 ∧ Int.tmod (b.toNat : Int) 16 < 16 := by
  have hb := UInt8.toNat_lt b
  obtain ⟨h1, h2⟩ := divI ⟨b.toNat, hb⟩
  simp only at h1 h2
  have h3 := hexI ⟨b.toNat / 16, by omega⟩
  have h4 := hexI ⟨b.toNat % 16, by omega⟩
  simp only at h3 h4
  rw [h1, h2, h3, h4]
  exact ⟨rfl, by omega, by omega, by omega, by omega⟩
section
variable (l : List S30)
theorem rl1_ev (s : ByteArray) (hs : s.size ≤ 1048576) (i : Int) (R : ByteArray × Int) : ∀ (m a : List UInt8), m <:+ s.data.toList → a.length + 5 * m.length + 1 ≤ 140737488355327 →
    Ev (fun k => tinderref06_Show.l0 k l (ints (a ++ m.flatMap showB ++ [34])) (wrap64 (i + 1))) R → Ev (fun k => tinderref06_Show.l1 k l (ints a) i s (pos s m)) R
  | [], a, hm, hb, h => by
    have h1 : (ints a).length < 140737488355328 := by rw [ints_len]; simp at hb; omega
    refine Ev.step (f := fun k => tinderref06_Show.l1 (k + 1) _ _ _ _ _) (fun k => rfl) ?_
    simp only [tinderref06_Show.l1, pos_nil, Int.lt_irrefl, ↓reduceIte, h1]
    have e : ints (a ++ ([] : List UInt8).flatMap showB ++ [34]) = ints a ++ [34] := by simp [ints]
    rw [e] at h
    exact h
  | b :: m, a, hm, hb, h => by
    simp only [List.length_cons] at hb
    obtain ⟨hl, d1, d2, d3, d4⟩ := hex_lit b
    have hlen : (ints a).length + (ints [34, 40, hexd (b.toNat / 16), hexd (b.toNat % 16), 41]).length < 140737488355328 := by rw [ints_len, ints_len]; simp; omega
    have hlen1 : (ints a).length < 140737488355328 := by rw [ints_len]; omega
    refine Ev.step (f := fun k => tinderref06_Show.l1 (k + 1) _ _ _ _ _) (fun k => rfl) ?_
    simp only [tinderref06_Show.l1, pos_lt, pos_ge hm, ↓reduceIte, bt_pos hm, d1, d2, d3, d4, hl, Option.bind_some, hlen, hlen1, pos_nextG (show s.size ≤ 4611686018427387904 by omega) hm]
    rw [List.flatMap_cons] at h
    by_cases hc : b.toNat = 34 ∨ b.toNat < 32 ∨ 126 < b.toNat
    · have hsb : showB b = [34, 40, hexd (b.toNat / 16), hexd (b.toNat % 16), 41] := by unfold showB; rw [if_pos hc]
      rw [hsb] at h
      have ih := rl1_ev s hs i R m (a ++ [34, 40, hexd (b.toNat / 16), hexd (b.toNat % 16), 41]) (sfx_tl hm) (by simp; omega) (by simpa [List.append_assoc] using h)
      rw [ints_app] at ih
      by_cases c1 : (b.toNat : Int) = 34
      · simp only [c1, ↓reduceIte]; exact ih
      simp only [c1, ↓reduceIte]
      by_cases c2 : (b.toNat : Int) < 32
      · simp only [c2, ↓reduceIte]; exact ih
      simp only [c2, ↓reduceIte]
      have c3 : (b.toNat : Int) > 126 := by omega
      simp only [c3, ↓reduceIte]
      exact ih
    · have hsb : showB b = [b] := by unfold showB; rw [if_neg hc]
      rw [hsb] at h
      have ih := rl1_ev s hs i R m (a ++ [b]) (sfx_tl hm) (by simp; omega) (by simpa [List.append_assoc] using h)
      have e : ints (a ++ [b]) = ints a ++ [(b.toNat : Int)] := by simp [ints]
      rw [e] at ih
      simp only [show ¬ ((b.toNat : Int) = 34) by omega, show ¬ ((b.toNat : Int) < 32) by omega, show ¬ ((b.toNat : Int) > 126) by omega, ↓reduceIte]
      exact ih
theorem rj1_ev (i : Nat) (hi : i < l.length) (hs : (rd_T30 l i).f1.size ≤ 1048576) (R : ByteArray × Int) (a : List UInt8) (hb : a.length + 5 * (rd_T30 l i).f1.size + 4 ≤ 140737488355327)
    (h : Ev (fun k => tinderref06_Show.l0 k l (ints (a ++ partS (rd_T30 l i))) (wrap64 ((i : Int) + 1))) R) : Ev (fun k => tinderref06_Show.j1 k l (ints a) (i : Int)) R := by
  generalize hx : rd_T30 l i = x at hs hb h
  refine Ev.step (f := fun k => tinderref06_Show.j1 (k + 1) _ _ _) (fun k => rfl) ?_
  have hlen : (ints a).length + x.f1.size < 140737488355328 := by rw [ints_len]; omega
  have hlen1 : (ints a).length < 140737488355328 := by rw [ints_len]; omega
  simp only [tinderref06_Show.j1, show (0 : Int) ≤ (i : Int) by omega, show (i : Int) < (l.length : Int) by omega, ↓reduceIte, hx, hlen, hlen1]
  by_cases h1 : x.f0 = 1
  · simp only [h1, ↓reduceIte]
    have e : ints (a ++ partS x) = ints a ++ bytesOf x.f1 := by rw [ints_app]; unfold partS; rw [if_pos h1]; rfl
    rw [e] at h
    exact h
  simp only [h1, ↓reduceIte]
  have hj2 : ∀ a2 : List UInt8, a2.length ≤ a.length + 1 → a2 ++ [34, 32] ++ x.f1.data.toList.flatMap showB ++ [34] = a ++ partS x → Ev (fun k => tinderref06_Show.j2 k l (ints a2) (i : Int) x.f1) R := by
    intro a2 h2 he
    refine Ev.step (f := fun k => tinderref06_Show.j2 (k + 1) _ _ _ _) (fun k => rfl) ?_
    have hl2 : (ints a2).length + ([34, 32] : List Int).length < 140737488355328 := by rw [ints_len]; simp; omega
    simp only [tinderref06_Show.j2, Option.bind_some, hl2, ↓reduceIte]
    have hp : pos x.f1 x.f1.data.toList = 0 := by unfold pos; rw [size_len]; omega
    have := rl1_ev l x.f1 hs (i : Int) R x.f1.data.toList (a2 ++ [34, 32]) (List.suffix_refl _) (by simp only [List.length_append, List.length_cons, List.length_nil, size_len]; omega) (by rw [he]; exact h)
    rw [hp, ints_app] at this
    exact this
  by_cases h3 : x.f0 = 3
  · simp only [h3, ↓reduceIte]
    have := hj2 (a ++ [46]) (by simp) (by unfold partS partL preL; rw [if_neg h1, if_pos h3]; simp)
    rw [ints_app] at this
    exact this
  · simp only [h3, ↓reduceIte]
    exact hj2 a (by omega) (by unfold partS partL preL; rw [if_neg h1, if_neg h3]; simp)
/-- What stands behind the first i tokens. -/
def rest (i : Nat) : List UInt8 := if i = 0 then showS l else Lib.joinTail [32] ((l.drop i).map partS)
theorem rest_step (i : Nat) (hi : i < l.length) : (if i > 0 then [32] else []) ++ partS (rd_T30 l i) ++ rest l (i + 1) = rest l i := by
  have e : l.drop i = rd_T30 l i :: l.drop (i + 1) := by
    rw [List.drop_eq_getElem_cons hi]
    unfold rd_T30
    simp [List.getD_eq_getElem?_getD, List.getElem?_eq_getElem hi]
  unfold rest
  rw [if_neg (show ¬ (i + 1 = 0) by omega)]
  by_cases h0 : i = 0
  · subst h0
    rw [if_neg (by omega), if_pos rfl]
    rw [List.drop_zero] at e
    have e2 := join_show l
    rw [e, List.map_cons, Lib.join_cons] at e2
    conv => rhs; rw [e]
    rw [← e2]
    simp
  · rw [if_pos (by omega), if_neg h0, e]
    simp [Lib.joinTail]
theorem rl0_ev (hn : l.length ≤ 1048576) (hs : ∀ x ∈ l, x.f1.size ≤ 1048576) (hr : ∀ x ∈ l, rightP x = true) : ∀ (n i : Nat) (a : List UInt8), i + n = l.length → a.length + n * 5242885 ≤ 140737488350000 →
    Ev (fun k => tinderref06_Show.l0 k l (ints a) (i : Int)) (byt (a ++ rest l i), 0) := by
  intro n
  induction n with
  | zero =>
    intro i a hi ha
    refine Ev.step (f := fun k => tinderref06_Show.l0 (k + 1) _ _ _) (fun k => rfl) ?_
    simp only [tinderref06_Show.l0, show ¬ ((i : Int) < (l.length : Int)) by omega, ↓reduceIte, str_ints]
    have : rest l i = [] := by
      unfold rest
      have e : l.drop i = [] := List.drop_eq_nil_iff.2 (by omega)
      by_cases h0 : i = 0
      · subst h0; rw [List.drop_zero] at e; rw [if_pos rfl, e]; rfl
      · rw [if_neg h0, e]; rfl
    rw [this, List.append_nil]
    exact Ev.now _
  | succ n ih =>
    intro i a hi ha
    have hil : i < l.length := by omega
    have hmem : rd_T30 l i ∈ l := by
      unfold rd_T30
      simp [List.getD_eq_getElem?_getD, List.getElem?_eq_getElem hil]
    have hsz := hs _ hmem
    have hg := good_ev (rd_T30 l i) hsz
    rw [hr _ hmem] at hg
    refine Ev.step (f := fun k => tinderref06_Show.l0 (k + 1) _ _ _) (fun k => rfl) ?_
    have hlen1 : (ints a).length < 140737488355328 := by rw [ints_len]; omega
    simp only [tinderref06_Show.l0, show (i : Int) < (l.length : Int) by omega, show (0 : Int) ≤ (i : Int) by omega, ↓reduceIte, hlen1]
    refine Ev.bind hg ?_
    simp only [↓reduceIte]
    have hst := rest_step l i hil
    have hw : wrap64 ((i : Int) + 1) = ((i + 1 : Nat) : Int) := by rw [w64 (by omega) (by omega)]; omega
    have hpl := part_len (rd_T30 l i) 1048576 hsz
    rw [Nat.succ_mul] at ha
    by_cases h0 : i > 0
    · rw [if_pos h0] at hst
      simp only [show (i : Int) > 0 by omega, ↓reduceIte]
      have hj := rj1_ev l i hil hsz (byt (a ++ rest l i), 0) (a ++ [32]) (by simp; omega) (by
        have := ih (i + 1) (a ++ [32] ++ partS (rd_T30 l i)) (by omega) (by simp; omega)
        rw [hw]
        have e : a ++ [32] ++ partS (rd_T30 l i) ++ rest l (i + 1) = a ++ rest l i := by rw [← hst]; simp
        rw [e] at this
        exact this)
      rw [ints_app] at hj
      exact hj
    · rw [if_neg h0] at hst
      simp only [show ¬ ((i : Int) > 0) by omega, ↓reduceIte]
      exact rj1_ev l i hil hsz (byt (a ++ rest l i), 0) a (by omega) (by
        have := ih (i + 1) (a ++ partS (rd_T30 l i)) (by omega) (by simp; omega)
        rw [hw]
        have e : a ++ partS (rd_T30 l i) ++ rest l (i + 1) = a ++ rest l i := by rw [← hst]; simp
        rw [e] at this
        exact this)
theorem rl0_bad (hn : l.length ≤ 1048576) (hs : ∀ x ∈ l, x.f1.size ≤ 1048576) : ∀ (n i : Nat) (a : List UInt8), i + n = l.length → a.length + n * 5242885 ≤ 140737488350000 → (∃ j, i ≤ j ∧ j < l.length ∧ rightP (rd_T30 l j) = false) →
    Ev (fun k => tinderref06_Show.l0 k l (ints a) (i : Int)) (byt [], 1) := by
  intro n
  induction n with
  | zero => intro i a hi ha ⟨j, h1, h2, _⟩; omega
  | succ n ih =>
    intro i a hi ha ⟨j, hj1, hj2, hj3⟩
    have hil : i < l.length := by omega
    have hmem : rd_T30 l i ∈ l := by
      unfold rd_T30
      simp [List.getD_eq_getElem?_getD, List.getElem?_eq_getElem hil]
    have hsz := hs _ hmem
    have hg := good_ev (rd_T30 l i) hsz
    refine Ev.step (f := fun k => tinderref06_Show.l0 (k + 1) _ _ _) (fun k => rfl) ?_
    have hlen1 : (ints a).length < 140737488355328 := by rw [ints_len]; omega
    simp only [tinderref06_Show.l0, show (i : Int) < (l.length : Int) by omega, show (0 : Int) ≤ (i : Int) by omega, ↓reduceIte, hlen1]
    refine Ev.bind hg ?_
    cases hr : rightP (rd_T30 l i) with
    | false => simp only [Bool.false_eq_true, ↓reduceIte]; exact Ev.now _
    | true =>
      simp only [↓reduceIte]
      have hne : i ≠ j := by intro e; subst e; rw [hr] at hj3; cases hj3
      have hw : wrap64 ((i : Int) + 1) = ((i + 1 : Nat) : Int) := by rw [w64 (by omega) (by omega)]; omega
      have hpl := part_len (rd_T30 l i) 1048576 hsz
      rw [Nat.succ_mul] at ha
      by_cases h0 : i > 0
      · simp only [show (i : Int) > 0 by omega, ↓reduceIte]
        have hj := rj1_ev l i hil hsz (byt [], 1) (a ++ [32]) (by simp; omega) (by
          have := ih (i + 1) (a ++ [32] ++ partS (rd_T30 l i)) (by omega) (by simp; omega) ⟨j, by omega, hj2, hj3⟩
          rw [hw]
          exact this)
        rw [ints_app] at hj
        exact hj
      · simp only [show ¬ ((i : Int) > 0) by omega, ↓reduceIte]
        exact rj1_ev l i hil hsz (byt [], 1) a (by omega) (by
          have := ih (i + 1) (a ++ partS (rd_T30 l i)) (by omega) (by simp; omega) ⟨j, by omega, hj2, hj3⟩
          rw [hw]
          exact this)
end
theorem ScanShows (l : List S30) (hs : ∀ x ∈ l, x.f1.size ≤ 1048576) (hn : l.length ≤ 1048576) : ∃ k, tinderlaw06_ScanShows.f k l = some true := by
  refine Ev.rounds (g := fun k => tinderlaw06_ScanShows.f k l) ?_
  unfold tinderlaw06_ScanShows.f
  refine Ev.bind alive_ev ?_
  simp only [↓reduceIte]
  have hz : ([] : List UInt8).length + l.length * 5242885 ≤ 140737488350000 := by
    have : l.length * 5242885 ≤ 1048576 * 5242885 := Nat.mul_le_mul_right _ hn
    simp; omega
  by_cases hr : ∀ x ∈ l, rightP x = true
  case neg =>
    have hb : ∃ x ∈ l, rightP x = false := by
      simp only [Classical.not_forall] at hr
      obtain ⟨x, hx, h⟩ := hr
      exact ⟨x, hx, by simpa using h⟩
    refine Ev.bind (show_bad l hb hs hn) ?_
    obtain ⟨x, hx, hxr⟩ := hb
    obtain ⟨j, hj⟩ := List.mem_iff_getElem?.1 hx
    have hjl : j < l.length := by
      by_cases h : j < l.length
      · exact h
      · rw [List.getElem?_eq_none (by omega)] at hj; cases hj
    have h2 := rl0_bad l hn hs l.length 0 [] (by omega) hz ⟨j, by omega, hjl, by unfold rd_T30; simp [List.getD_eq_getElem?_getD, hj, hxr]⟩
    refine Ev.bind (show Ev (fun k => tinderref06_Show.f k l) (byt [], 1) from h2) ?_
    simp only [↓reduceIte, beq_self_eq_true]
    exact Ev.now _
  refine Ev.bind (show_ev l hr hs hn) ?_
  have h2 := rl0_ev l hn hs hr l.length 0 [] (by omega) hz
  have e : ([] : List UInt8) ++ rest l 0 = showS l := rfl
  rw [e] at h2
  refine Ev.bind (show Ev (fun k => tinderref06_Show.f k l) (byt (showS l), 0) from h2) ?_
  simp only [↓reduceIte, beq_self_eq_true]
  exact Ev.now _
end Go.Proofs.Ytnnhpbghimjhiaa.PureShows
