/- scan.Cut: the reference's tokens are those that the lists say. -/
import Derived.Test.YtnnhpbghimjhiaaCutP
import Derived.Test.YtnnhpbghimjhiaaQScanx8
namespace Go.Proofs.Ytnnhpbghimjhiaa
open Go.RowKit Go.Proofs.YtnnhpbghimjhiaaW.PrintWords Go.Proofs.YtnnhpbghimjhiaaW.PrintLast Go.Proofs.YtnnhpbghimjhiaaW.PrintMore Go.Proofs.Ytnnhpbghimjhiaa.QScan
set_option linter.unusedVariables false
set_option linter.unusedSimpArgs false
theorem mn_left {a b : Int} (h : a ≤ b) : mn a b = a := by unfold mn; omega
def nextP (s : ByteArray) (c : UInt8) (l : List UInt8) : Int := match upL c l with | some (t, r) => pos s (c :: r) | none => s.size
theorem next_ev (s : ByteArray) (hs : s.size ≤ 4096) (c : UInt8) : ∀ l : List UInt8, l <:+ s.data.toList → Ev (fun k => tinderref06_next.f k s (pos s l) (c.toNat : Int)) (nextP s c l)
  | [], hl => by
    refine Ev.step (f := fun k => tinderref06_next.l0 (k + 1) _ _ _) (fun k => rfl) ?_
    simp only [tinderref06_next.l0, pos_nil, Int.lt_irrefl, ↓reduceIte, mn_left (Int.le_refl _)]
    exact Ev.now _
  | b :: r, hl => by
    refine Ev.step (f := fun k => tinderref06_next.l0 (k + 1) _ _ _) (fun k => rfl) ?_
    simp only [tinderref06_next.l0, pos_lt, pos_ge hl, ↓reduceIte, bt_pos hl, pos_next hs hl]
    by_cases e : b = c
    · subst e
      have h1 : nextP s b (b :: r) = pos s (b :: r) := by unfold nextP upL; rw [if_pos rfl]
      simp only [↓reduceIte, h1, mn_left (pos_le s (b :: r))]
      exact Ev.now _
    · have h1 : ¬ (((b.toNat : Nat) : Int) = (c.toNat : Int)) := fun h => e (UInt8.toNat_inj.1 (by omega))
      simp only [h1, ↓reduceIte]
      have h2 : nextP s c (b :: r) = nextP s c r := by
        unfold nextP
        conv => lhs; unfold upL
        rw [if_neg e]
        cases upL c r with
        | none => rfl
        | some p => rfl
      rw [h2]
      exact next_ev s hs c r (sfx_tl hl)
theorem nextP_some {s : ByteArray} {c : UInt8} {l t r : List UInt8} (h : upL c l = some (t, r)) : nextP s c l = pos s (c :: r) := by unfold nextP; rw [h]
theorem nextP_none {s : ByteArray} {c : UInt8} {l : List UInt8} (h : upL c l = none) : nextP s c l = s.size := by unfold nextP; rw [h]
theorem rblank_f {s : ByteArray} {b : UInt8} {r : List UInt8} (h : (b :: r) <:+ s.data.toList) : tinderref06_blank.f s (pos s (b :: r)) = some (isB b) := by
  unfold tinderref06_blank.f
  rw [if_pos (pos_ge h), if_pos pos_lt, if_pos (pos_ge h), bt_pos h, isB_iff]
theorem rspecial_f (w : List UInt8) : tinderref06_Special.f (byt w) = some (decide (specW w)) := by
  have := special_f w
  unfold scan_isSpecial.f at this
  unfold tinderref06_Special.f
  rw [← this]
  by_cases h : (byt w).toList = [46, 34]
  · simp [h]
  · simp [h]
    have h2 : ((byt w).toList == [46, 34]) = false := by simpa using h
    rw [h2]
theorem rsmall1 (b : UInt8) : tinderref02_Small.f (b.toNat : Int) = some (((small8 b).toNat : Nat) : Int) := by
  have key : ∀ n : Fin 256, tinderref02_Small.f (n.val : Int) = some (((small8 (UInt8.ofNat n.val)).toNat : Nat) : Int) := by decide +kernel
  have := key ⟨b.toNat, UInt8.toNat_lt b⟩
  simpa using this
theorem rsmall_ev (s : ByteArray) (hs : s.size ≤ 4096) : ∀ (m acc : List UInt8), m <:+ s.data.toList → acc.length + m.length ≤ 100000 →
    Ev (fun k => tinderref06_small.l0 k s (ints acc) (pos s m)) (byt (acc ++ m.map small8))
  | [], acc, hm, hb => by
    refine Ev.step (f := fun k => tinderref06_small.l0 (k + 1) _ _ _) (fun k => rfl) ?_
    simp only [tinderref06_small.l0, pos_nil, Int.lt_irrefl, ↓reduceIte, str_ints, List.map_nil, List.append_nil]
    exact Ev.now _
  | b :: m, acc, hm, hb => by
    have h1 : (ints acc).length < 140737488355328 := by rw [ints_len]; simp at hb; omega
    refine Ev.step (f := fun k => tinderref06_small.l0 (k + 1) _ _ _) (fun k => rfl) ?_
    simp only [tinderref06_small.l0, pos_lt, pos_ge hm, ↓reduceIte, bt_pos hm, rsmall1, Option.bind_some, h1, pos_next hs hm]
    have ih := rsmall_ev s hs m (acc ++ [small8 b]) (sfx_tl hm) (by simp at hb ⊢; omega)
    have e1 : ints (acc ++ [small8 b]) = ints acc ++ [((small8 b).toNat : Int)] := by simp [ints]
    rw [e1] at ih
    have e2 : acc ++ [small8 b] ++ m.map small8 = acc ++ (b :: m).map small8 := by simp
    rw [e2] at ih
    exact ih
theorem rsmall_f (w : List UInt8) (h : w.length ≤ 4096) : Ev (fun k => tinderref06_small.f k (byt w)) (byt (w.map small8)) := by
  have := rsmall_ev (byt w) (by rw [byt_size]; exact h) w [] (by rw [byt_data]; exact List.suffix_refl _) (by simp; omega)
  have hp : pos (byt w) w = 0 := by unfold pos; rw [byt_size]; omega
  rw [hp] at this
  exact this
theorem rvalue_all : ∀ n : Fin 256, tinderref02_Value.f 20 (n.val : Int) 16 = some (valO (UInt8.ofNat n.val)) := by decide +kernel
theorem rvalue_ev (b : UInt8) : Ev (fun k => tinderref02_Value.f k (b.toNat : Int) 16) (valO b) := by
  refine Ev.of (tinderref02_Value.mono _ _) (k := 20) ?_
  have := rvalue_all ⟨b.toNat, UInt8.toNat_lt b⟩
  simpa using this
def oddB : Option Nat → Bool
  | none => false
  | some _ => true
theorem digits_ev (s : ByteArray) (hs : s.size ≤ 4096) : ∀ (m : List UInt8) (h : Option Nat) (n : Int) (acc : List UInt8), m <:+ s.data.toList → (∀ u, h = some u → u < 16 ∧ n = u) → acc.length + m.length ≤ 100000 →
    (∀ y, hexL m h = some y → Ev (fun k => tinderref06_digits.l0 k s (ints acc) n (oddB h) (pos s m)) (ints (acc ++ y), true)) ∧
    (hexL m h = none → ∃ z, Ev (fun k => tinderref06_digits.l0 k s (ints acc) n (oddB h) (pos s m)) (z, false))
  | [], h, n, acc, hm, hu, hl => by
    have e : ∀ k, tinderref06_digits.l0 (k + 1) s (ints acc) n (oddB h) (pos s []) = some (ints acc, !oddB h) := fun k => by
      simp only [tinderref06_digits.l0, pos_nil, Int.lt_irrefl, ↓reduceIte]
    cases h with
    | none =>
      refine ⟨fun y hy => ?_, fun hn => by cases hn⟩
      injection hy with hy
      subst hy
      rw [List.append_nil]
      exact Ev.step e (Ev.now _)
    | some u => exact ⟨fun y hy => (nomatch hy), fun _ => ⟨_, Ev.step e (Ev.now _)⟩⟩
  | b :: m, h, n, acc, hm, hu, hl => by
    have hl2 : acc.length + m.length ≤ 100000 := by simp at hl; omega
    have hble : decide (((b.toNat : Nat) : Int) ≤ 32) = isB b := isB_iff b
    cases hb : isB b with
    | true =>
      rw [hb] at hble
      have hb2 := of_decide_eq_true hble
      have ih := digits_ev s hs m h n acc (sfx_tl hm) hu hl2
      have e : ∀ k, tinderref06_digits.l0 (k + 1) s (ints acc) n (oddB h) (pos s (b :: m)) = tinderref06_digits.l0 k s (ints acc) n (oddB h) (pos s m) := fun k => by
        simp only [tinderref06_digits.l0, pos_lt, pos_ge hm, ↓reduceIte, bt_pos hm, hb2, pos_next hs hm]
      have e2 : hexL (b :: m) h = hexL m h := by
        conv => lhs; unfold hexL
        rw [hb]; rfl
      rw [e2]
      exact ⟨fun y hy => Ev.step e (ih.1 y hy), fun hn => by obtain ⟨z, hz⟩ := ih.2 hn; exact ⟨z, Ev.step e hz⟩⟩
    | false =>
      rw [hb] at hble
      have hb2 := of_decide_eq_false hble
      have hv := rvalue_ev b
      cases hh : hexv b with
      | none =>
        have e2 : hexL (b :: m) h = none := by
          conv => lhs; unfold hexL
          rw [hb, hh]
          rfl
        rw [e2]
        refine ⟨fun y hy => (nomatch hy), fun _ => ⟨[], ?_⟩⟩
        have e3 : valO b = (0, false) := by unfold valO; rw [hh]
        rw [e3] at hv
        refine Ev.step (f := fun k => tinderref06_digits.l0 (k + 1) _ _ _ _ _) (fun k => rfl) ?_
        simp only [tinderref06_digits.l0, pos_lt, pos_ge hm, ↓reduceIte, bt_pos hm, hb2, pos_next hs hm]
        refine Ev.bind hv ?_
        simp only [Bool.false_eq_true, ↓reduceIte]
        exact Ev.now _
      | some v =>
        have e3 : valO b = ((v : Int), true) := by unfold valO; rw [hh]
        rw [e3] at hv
        have hv16 := hexv_lt hh
        cases h with
        | none =>
          have ih := digits_ev s hs m (some v) v acc (sfx_tl hm) (fun u e => by injection e with e; subst e; exact ⟨hv16, rfl⟩) hl2
          have e2 : hexL (b :: m) none = hexL m (some v) := by
            conv => lhs; unfold hexL
            rw [hb, hh]; rfl
          rw [e2]
          have st : ∀ r, Ev (fun k => tinderref06_digits.l0 k s (ints acc) v (oddB (some v)) (pos s m)) r → Ev (fun k => tinderref06_digits.l0 k s (ints acc) n (oddB none) (pos s (b :: m))) r := by
            intro r hr
            refine Ev.step (f := fun k => tinderref06_digits.l0 (k + 1) _ _ _ _ _) (fun k => rfl) ?_
            simp only [tinderref06_digits.l0, pos_lt, pos_ge hm, ↓reduceIte, bt_pos hm, hb2, pos_next hs hm]
            refine Ev.bind hv ?_
            simpa [oddB] using hr
          exact ⟨fun y hy => st _ (ih.1 y hy), fun hn => by obtain ⟨z, hz⟩ := ih.2 hn; exact ⟨z, st _ hz⟩⟩
        | some u =>
          obtain ⟨hu16, rfl⟩ := hu u rfl
          have hw : ((((u : Int) * 16) % 4294967296 + v) % 4294967296) % 256 = (u : Int) * 16 + v := by omega
          have hw2 : ((UInt8.ofNat (u * 16 + v)).toNat : Int) = (u : Int) * 16 + v := by simp; omega
          have ih := digits_ev s hs m none v (acc ++ [UInt8.ofNat (u * 16 + v)]) (sfx_tl hm) (fun u e => nomatch e) (by simp; simp at hl; omega)
          have e2 : hexL (b :: m) (some u) = (hexL m none).map fun r => UInt8.ofNat (u * 16 + v) :: r := by
            conv => lhs; unfold hexL
            rw [hb, hh]; rfl
          rw [e2]
          have st : ∀ r, Ev (fun k => tinderref06_digits.l0 k s (ints (acc ++ [UInt8.ofNat (u * 16 + v)])) v (oddB none) (pos s m)) r → Ev (fun k => tinderref06_digits.l0 k s (ints acc) u (oddB (some u)) (pos s (b :: m))) r := by
            intro r hr
            refine Ev.step (f := fun k => tinderref06_digits.l0 (k + 1) _ _ _ _ _) (fun k => rfl) ?_
            simp only [tinderref06_digits.l0, pos_lt, pos_ge hm, ↓reduceIte, bt_pos hm, hb2, pos_next hs hm]
            refine Ev.bind hv ?_
            have h9 : (ints acc).length < 140737488355328 := by rw [ints_len]; omega
            have e7 : ints (acc ++ [UInt8.ofNat (u * 16 + v)]) = ints acc ++ [(u : Int) * 16 + v] := by rw [← hw2]; simp [ints]
            rw [e7] at hr
            simp only [oddB, ↓reduceIte, h9, hw, Bool.not_true]
            exact hr
          refine ⟨fun y hy => ?_, fun hn => ?_⟩
          · cases hq : hexL m none with
            | none => rw [hq] at hy; cases hy
            | some q =>
              rw [hq] at hy
              injection hy with hy
              subst hy
              have := st _ (ih.1 q hq)
              rwa [show acc ++ [UInt8.ofNat (u * 16 + v)] ++ q = acc ++ UInt8.ofNat (u * 16 + v) :: q by simp] at this
          · cases hq : hexL m none with
            | none => obtain ⟨z, hz⟩ := ih.2 hq; exact ⟨z, st _ hz⟩
            | some q => rw [hq] at hn; cases hn

theorem digits_f (x : List UInt8) (h : x.length ≤ 4096) :
    (∀ y, hexL x none = some y → Ev (fun k => tinderref06_digits.f k (byt x)) (ints y, true)) ∧ (hexL x none = none → ∃ z, Ev (fun k => tinderref06_digits.f k (byt x)) (z, false)) := by
  have := digits_ev (byt x) (by rw [byt_size]; exact h) x none 0 [] (by rw [byt_data]; exact List.suffix_refl _) (fun u e => nomatch e) (by simp; omega)
  have hp : pos (byt x) x = 0 := by unfold pos; rw [byt_size]; omega
  rw [hp] at this
  exact this
theorem next34 {s : ByteArray} (hs : s.size ≤ 4096) {l : List UInt8} (hl : l <:+ s.data.toList) : Ev (fun k => tinderref06_next.f k s (pos s l) 34) (nextP s 34 l) := next_ev s hs 34 l hl
theorem next41 {s : ByteArray} (hs : s.size ≤ 4096) {l : List UInt8} (hl : l <:+ s.data.toList) : Ev (fun k => tinderref06_next.f k s (pos s l) 41) (nextP s 41 l) := next_ev s hs 41 l hl
theorem next10 {s : ByteArray} (hs : s.size ≤ 4096) {l : List UInt8} (hl : l <:+ s.data.toList) : Ev (fun k => tinderref06_next.f k s (pos s l) 10) (nextP s 10 l) := next_ev s hs 10 l hl
theorem up_sfx {s : ByteArray} {c : UInt8} {l t r : List UInt8} (hl : l <:+ s.data.toList) (hu : upL c l = some (t, r)) : (t ++ c :: r) <:+ s.data.toList := by rw [← (upL_some hu).1]; exact hl
theorem up_pos {s : ByteArray} {c : UInt8} {l t r : List UInt8} (hu : upL c l = some (t, r)) : pos s l = pos s (t ++ c :: r) := by rw [← (upL_some hu).1]
theorem ext_up {s : ByteArray} {c : UInt8} {l t r : List UInt8} (hl : l <:+ s.data.toList) (hu : upL c l = some (t, r)) : s.extract (pos s l).toNat (pos s (c :: r)).toNat = byt t := by
  rw [up_pos hu]; exact ext_pos (up_sfx hl hu)
theorem up_le {s : ByteArray} {c : UInt8} {l t r : List UInt8} (hu : upL c l = some (t, r)) : pos s l ≤ pos s (c :: r) := by rw [up_pos hu]; exact pos_mono
theorem lim_len (x r : List UInt8) : (255 < x.length → limL x r = (3, [], r)) ∧ (¬ 255 < x.length → limL x r = (0, x, r)) := by
  unfold limL
  exact ⟨fun h => by rw [if_pos (by omega)], fun h => by rw [if_neg (by omega)]⟩
/-- The reference's quoted, behind the text's end. -/
theorem q_head (s : ByteArray) (hs : s.size ≤ 4096) {acc l t r : List UInt8} (hl : l <:+ s.data.toList) (hb : acc.length + l.length ≤ 100000) (hu : upL 34 l = some (t, r)) {R : ByteArray × Int × Int}
    (h : Ev (fun k => if pos s r < (s.size : Int) then (if 0 ≤ pos s r then tinderref06_quoted.j1 k s (ints (acc ++ t)) (pos s (34 :: r)) (bt s (pos s r) == 40) else none) else tinderref06_quoted.j1 k s (ints (acc ++ t)) (pos s (34 :: r)) false) R) :
    Ev (fun k => tinderref06_quoted.l0 k s (pos s l) (ints acc)) R := by
  have h34 : (34 :: r) <:+ s.data.toList := sfx_app (up_sfx hl hu)
  have hlen := upL_len hu
  have h1 : (ints acc).length + (byt t).size < 140737488355328 := by rw [ints_len, byt_size]; omega
  refine Ev.step (f := fun k => tinderref06_quoted.l0 (k + 1) _ _ _) (fun k => rfl) ?_
  simp only [tinderref06_quoted.l0]
  refine Ev.bind (next34 hs hl) ?_
  simp only [nextP_some hu, pos_ne, ↓reduceIte, pos_ge hl, up_le hu, pos_le, ext_up hl hu, h1, bytesOf_byt, ← ints_app, Option.bind_some, pos_next hs h34]
  exact h
theorem rquoted_ev (s : ByteArray) (hs : s.size ≤ 4096) {acc l : List UInt8} {e : Int} {t r : List UInt8} (h : QuotR acc l e t r) :
    l <:+ s.data.toList → acc.length + l.length ≤ 100000 → ∃ p, Ev (fun k => tinderref06_quoted.l0 k s (pos s l) (ints acc)) (byt t, p, e) ∧ (e = 0 → p = pos s r) := by
  induction h with
  | @none acc l hu =>
    intro hl hb
    refine ⟨0, Ev.step (f := fun k => tinderref06_quoted.l0 (k + 1) _ _ _) (fun k => rfl) ?_, fun h => by cases h⟩
    simp only [tinderref06_quoted.l0]
    refine Ev.bind (next34 hs hl) ?_
    simp only [nextP_none hu, ↓reduceIte]
    exact Ev.now _
  | @fin acc l t hu =>
    intro hl hb
    have h34 : (34 :: []) <:+ s.data.toList := sfx_app (up_sfx hl hu)
    by_cases ht : 255 < (acc ++ t).length
    · rw [(lim_len _ _).1 ht]
      have ht2 : ((ints (acc ++ t)).length : Int) > 255 := by rw [ints_len]; omega
      refine ⟨0, q_head s hs hl hb hu ?_, fun h => by cases h⟩
      simp only [pos_nil, Int.lt_irrefl, ↓reduceIte]
      refine Ev.step (f := fun k => tinderref06_quoted.j1 (k + 1) _ _ _ _) (fun k => rfl) ?_
      simp only [tinderref06_quoted.j1, Bool.false_eq_true, ↓reduceIte, pos_next hs h34, pos_nil, Int.lt_irrefl]
      refine Ev.step (f := fun k => tinderref06_quoted.j2 (k + 1) _ _ _) (fun k => rfl) ?_
      simp only [tinderref06_quoted.j2, Bool.false_eq_true, ↓reduceIte, ht2]
      exact Ev.now _
    · rw [(lim_len _ _).2 ht]
      have ht2 : ¬ ((ints (acc ++ t)).length : Int) > 255 := by rw [ints_len]; omega
      refine ⟨pos s [], q_head s hs hl hb hu ?_, fun _ => rfl⟩
      simp only [pos_nil, Int.lt_irrefl, ↓reduceIte]
      refine Ev.step (f := fun k => tinderref06_quoted.j1 (k + 1) _ _ _ _) (fun k => rfl) ?_
      simp only [tinderref06_quoted.j1, Bool.false_eq_true, ↓reduceIte, pos_next hs h34, pos_nil, Int.lt_irrefl]
      refine Ev.step (f := fun k => tinderref06_quoted.j2 (k + 1) _ _ _) (fun k => rfl) ?_
      simp only [tinderref06_quoted.j2, Bool.false_eq_true, ↓reduceIte, ht2, str_ints, pos_next hs h34, pos_nil]
      exact Ev.now _
  | @blank acc l t r b hu hb0 =>
    intro hl hb
    have h34 : (34 :: b :: r) <:+ s.data.toList := sfx_app (up_sfx hl hu)
    have hbr := sfx_tl h34
    have h40 : (((b.toNat : Nat) : Int) == 40) = false := by
      have : b.toNat ≤ 32 := of_decide_eq_true hb0
      simp; omega
    by_cases ht : 255 < (acc ++ t).length
    · rw [(lim_len _ _).1 ht]
      have ht2 : ((ints (acc ++ t)).length : Int) > 255 := by rw [ints_len]; omega
      refine ⟨0, q_head s hs hl hb hu ?_, fun h => by cases h⟩
      simp only [pos_lt, pos_ge hbr, ↓reduceIte, bt_pos hbr, h40]
      refine Ev.step (f := fun k => tinderref06_quoted.j1 (k + 1) _ _ _ _) (fun k => rfl) ?_
      simp only [tinderref06_quoted.j1, Bool.false_eq_true, ↓reduceIte, pos_next hs h34, pos_lt, rblank_f hbr, hb0, Option.bind_some, Bool.not_true]
      refine Ev.step (f := fun k => tinderref06_quoted.j2 (k + 1) _ _ _) (fun k => rfl) ?_
      simp only [tinderref06_quoted.j2, Bool.false_eq_true, ↓reduceIte, ht2]
      exact Ev.now _
    · rw [(lim_len _ _).2 ht]
      have ht2 : ¬ ((ints (acc ++ t)).length : Int) > 255 := by rw [ints_len]; omega
      refine ⟨pos s (b :: r), q_head s hs hl hb hu ?_, fun _ => rfl⟩
      simp only [pos_lt, pos_ge hbr, ↓reduceIte, bt_pos hbr, h40]
      refine Ev.step (f := fun k => tinderref06_quoted.j1 (k + 1) _ _ _ _) (fun k => rfl) ?_
      simp only [tinderref06_quoted.j1, Bool.false_eq_true, ↓reduceIte, pos_next hs h34, pos_lt, rblank_f hbr, hb0, Option.bind_some, Bool.not_true]
      refine Ev.step (f := fun k => tinderref06_quoted.j2 (k + 1) _ _ _) (fun k => rfl) ?_
      simp only [tinderref06_quoted.j2, Bool.false_eq_true, ↓reduceIte, ht2, str_ints, pos_next hs h34]
      exact Ev.now _
  | @bad acc l t r b hu hb0 hne =>
    intro hl hb
    have h34 : (34 :: b :: r) <:+ s.data.toList := sfx_app (up_sfx hl hu)
    have hbr := sfx_tl h34
    have h40 : (((b.toNat : Nat) : Int) == 40) = false := by
      have : ¬ (b.toNat = 40) := fun e => hne (UInt8.toNat_inj.1 e)
      simp; omega
    refine ⟨0, q_head s hs hl hb hu ?_, fun h => by cases h⟩
    simp only [pos_lt, pos_ge hbr, ↓reduceIte, bt_pos hbr, h40]
    refine Ev.step (f := fun k => tinderref06_quoted.j1 (k + 1) _ _ _ _) (fun k => rfl) ?_
    simp only [tinderref06_quoted.j1, Bool.false_eq_true, ↓reduceIte, pos_next hs h34, pos_lt, rblank_f hbr, hb0, Option.bind_some, Bool.not_false]
    refine Ev.step (f := fun k => tinderref06_quoted.j2 (k + 1) _ _ _) (fun k => rfl) ?_
    simp only [tinderref06_quoted.j2, ↓reduceIte]
    exact Ev.now _
  | @noend acc l t r hu h41 =>
    intro hl hb
    have h34 : (34 :: 40 :: r) <:+ s.data.toList := sfx_app (up_sfx hl hu)
    have hbr := sfx_tl h34
    have h3 : bt s (pos s (40 :: r)) = 40 := bt_pos hbr
    have hn : upL 41 (34 :: 40 :: r) = none := by unfold upL; rw [if_neg (by decide)]; unfold upL; rw [if_neg (by decide), h41]; rfl
    refine ⟨0, q_head s hs hl hb hu ?_, fun h => by cases h⟩
    simp only [pos_lt, pos_ge hbr, ↓reduceIte, h3, beq_self_eq_true]
    refine Ev.step (f := fun k => tinderref06_quoted.j1 (k + 1) _ _ _ _) (fun k => rfl) ?_
    simp only [tinderref06_quoted.j1, ↓reduceIte]
    refine Ev.bind (next41 hs h34) ?_
    simp only [nextP_none hn, ↓reduceIte]
    exact Ev.now _
  | @nohex acc l t r x r2 hu h41 hx =>
    intro hl hb
    have h34 : (34 :: 40 :: r) <:+ s.data.toList := sfx_app (up_sfx hl hu)
    have hbr := sfx_tl h34
    have hr := sfx_tl hbr
    have h3 : bt s (pos s (40 :: r)) = 40 := bt_pos hbr
    have hn : upL 41 (34 :: 40 :: r) = some (34 :: 40 :: x, r2) := by unfold upL; rw [if_neg (by decide)]; unfold upL; rw [if_neg (by decide), h41]; rfl
    have hp2 : wrap64 (pos s (34 :: 40 :: r) + 2) = pos s r := by
      have := pos_ge h34; have := pos_cons s 34 (40 :: r); have := pos_cons s 40 r; have := pos_le s r
      rw [w64 (by omega) (by omega)]; omega
    have hxl : x.length ≤ 4096 := by have := upL_len h41; have := sfx_len hr; omega
    obtain ⟨z, hz⟩ := (digits_f x hxl).2 hx
    refine ⟨0, q_head s hs hl hb hu ?_, fun h => by cases h⟩
    simp only [pos_lt, pos_ge hbr, ↓reduceIte, h3, beq_self_eq_true]
    refine Ev.step (f := fun k => tinderref06_quoted.j1 (k + 1) _ _ _ _) (fun k => rfl) ?_
    simp only [tinderref06_quoted.j1, ↓reduceIte]
    refine Ev.bind (next41 hs h34) ?_
    simp only [nextP_some hn, pos_ne, ↓reduceIte, hp2, pos_ge hr, up_le h41, pos_le, ext_up hr h41]
    refine Ev.bind hz ?_
    simp only [Bool.false_eq_true, ↓reduceIte]
    exact Ev.now _
  | @hex acc l t r x r2 y t' r' e hu h41 hx hq ih =>
    intro hl hb
    have h34 : (34 :: 40 :: r) <:+ s.data.toList := sfx_app (up_sfx hl hu)
    have hbr := sfx_tl h34
    have hr := sfx_tl hbr
    have h3 : bt s (pos s (40 :: r)) = 40 := bt_pos hbr
    have hn : upL 41 (34 :: 40 :: r) = some (34 :: 40 :: x, r2) := by unfold upL; rw [if_neg (by decide)]; unfold upL; rw [if_neg (by decide), h41]; rfl
    have hp2 : wrap64 (pos s (34 :: 40 :: r) + 2) = pos s r := by
      have := pos_ge h34; have := pos_cons s 34 (40 :: r); have := pos_cons s 40 r; have := pos_le s r
      rw [w64 (by omega) (by omega)]; omega
    have h41s : (41 :: r2) <:+ s.data.toList := sfx_app (up_sfx hr h41)
    have hxl : x.length ≤ 4096 := by have := upL_len h41; have := sfx_len hr; omega
    have hz := (digits_f x hxl).1 y hx
    have hy := hexL_len x none y hx
    have hlen := upL_len hu
    have hlen2 := upL_len h41
    obtain ⟨p, hp, hp3⟩ := ih (sfx_tl h41s) (by simp at hlen ⊢; omega)
    have h9 : (ints (acc ++ t)).length + (ints y).length < 140737488355328 := by rw [ints_len, ints_len]; simp at hlen ⊢; omega
    refine ⟨p, q_head s hs hl hb hu ?_, hp3⟩
    simp only [pos_lt, pos_ge hbr, ↓reduceIte, h3, beq_self_eq_true]
    refine Ev.step (f := fun k => tinderref06_quoted.j1 (k + 1) _ _ _ _) (fun k => rfl) ?_
    simp only [tinderref06_quoted.j1, ↓reduceIte]
    refine Ev.bind (next41 hs h34) ?_
    simp only [nextP_some hn, pos_ne, ↓reduceIte, hp2, pos_ge hr, up_le h41, pos_le, ext_up hr h41]
    refine Ev.bind hz ?_
    simp only [↓reduceIte, h9, pos_next hs h41s, ← ints_app]
    exact hp
end Go.Proofs.Ytnnhpbghimjhiaa
