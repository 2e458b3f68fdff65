/- scan.Cut: the reference's tokens are those that the lists say. -/
import Derived.Test.Ytehmhgpogpbjiaafw09
import Derived.Test.Ytehmhgpogpbjiaafw11
import Derived.Test.Ytehmhgpogpbjiaafw04
import Derived.Test.Ytehmhgpogpbjiaafw01
import Derived.Test.Ytehmhgpogpbjiaafw03
import Derived.Maps.Own
namespace Go.Proofs.Ytehmhgpogpbjiaa
open Go.RowKit Go.Proofs.YtehmhgpogpbjiaaW.PrintWords Go.Proofs.YtehmhgpogpbjiaaW.PrintLast Go.Proofs.YtehmhgpogpbjiaaW.PrintMore Go.Proofs.Ytehmhgpogpbjiaa.PFccTokens
set_option linter.unusedVariables false
set_option linter.unusedSimpArgs false
theorem mn_left {a b : Int} (h : a ≤ b) : mn a b = a := by unfold mn; omega
def nextP (s : ByteArray) (c : UInt8) (l : List UInt8) : Int := match upL c l with | some (t, r) => pos s (c :: r) | none => s.size
theorem next_ev (s : ByteArray) (hs : s.size ≤ 4096) (c : UInt8) : ∀ l : List UInt8, l <:+ s.data.toList → Ev (fun k => tinderref06_next.f k s (pos s l) (c.toNat : Int)) (nextP s c l)
  | [], hl => by
    refine Ev.step (f := fun k => tinderref06_next.l0 (k + 1) _ _ _) (fun k => rfl) ?_
    simp only [tinderref06_next.l0, pos_nil, Int.lt_irrefl, ↓reduceIte, mn_left (Int.le_refl _)]
    exact Ev.now _
  | b :: r, hl => by
    refine Ev.step (f := fun k => tinderref06_next.l0 (k + 1) _ _ _) (fun k => rfl) ?_
    simp only [tinderref06_next.l0, pos_lt, pos_ge hl, ↓reduceIte, bt_pos hl, pos_next hs hl]
    by_cases e : b = c
    · subst e
      have h1 : nextP s b (b :: r) = pos s (b :: r) := by unfold nextP upL; rw [if_pos rfl]
      simp only [↓reduceIte, h1, mn_left (pos_le s (b :: r))]
      exact Ev.now _
    · have h1 : ¬ (((b.toNat : Nat) : Int) = (c.toNat : Int)) := fun h => e (UInt8.toNat_inj.1 (by omega))
      simp only [h1, ↓reduceIte]
      have h2 : nextP s c (b :: r) = nextP s c r := by
        unfold nextP
        conv => lhs; unfold upL
        rw [if_neg e]
        cases upL c r with
        | none => rfl
        | some p => rfl
      rw [h2]
      exact next_ev s hs c r (sfx_tl hl)
theorem nextP_some {s : ByteArray} {c : UInt8} {l t r : List UInt8} (h : upL c l = some (t, r)) : nextP s c l = pos s (c :: r) := by unfold nextP; rw [h]
theorem nextP_none {s : ByteArray} {c : UInt8} {l : List UInt8} (h : upL c l = none) : nextP s c l = s.size := by unfold nextP; rw [h]
theorem rblank_f {s : ByteArray} {b : UInt8} {r : List UInt8} (h : (b :: r) <:+ s.data.toList) : tinderref06_blank.f s (pos s (b :: r)) = some (isB b) := by
  unfold tinderref06_blank.f
  rw [if_pos (pos_ge h), if_pos pos_lt, if_pos (pos_ge h), bt_pos h, isB_iff]
theorem rspecial_f (w : List UInt8) : tinderref06_Special.f (byt w) = some (decide (specW w)) := by
  have := special_f w
  unfold scan_isSpecial.f at this
  unfold tinderref06_Special.f
  rw [← this]
  by_cases h : (byt w).toList = [46, 34]
  · simp [h]
  · simp [h]
    have h2 : ((byt w).toList == [46, 34]) = false := by simpa using h
    rw [h2]
theorem rsmall1 (b : UInt8) : tinderref02_Small.f (b.toNat : Int) = some (((small8 b).toNat : Nat) : Int) := by
  have key : ∀ n : Fin 256, tinderref02_Small.f (n.val : Int) = some (((small8 (UInt8.ofNat n.val)).toNat : Nat) : Int) := by decide +kernel
  have := key ⟨b.toNat, UInt8.toNat_lt b⟩
  simpa using this
theorem rsmall_ev (s : ByteArray) (hs : s.size ≤ 4096) : ∀ (m acc : List UInt8), m <:+ s.data.toList → acc.length + m.length ≤ 100000 →
    Ev (fun k => tinderref06_small.l0 k s (ints acc) (pos s m)) (byt (acc ++ m.map small8))
  | [], acc, hm, hb => by
    refine Ev.step (f := fun k => tinderref06_small.l0 (k + 1) _ _ _) (fun k => rfl) ?_
    simp only [tinderref06_small.l0, pos_nil, Int.lt_irrefl, ↓reduceIte, str_ints, List.map_nil, List.append_nil]
    exact Ev.now _
  | b :: m, acc, hm, hb => by
    have h1 : (ints acc).length < 140737488355328 := by rw [ints_len]; simp at hb; omega
    refine Ev.step (f := fun k => tinderref06_small.l0 (k + 1) _ _ _) (fun k => rfl) ?_
    simp only [tinderref06_small.l0, pos_lt, pos_ge hm, ↓reduceIte, bt_pos hm, rsmall1, Option.bind_some, h1, pos_next hs hm]
    have ih := rsmall_ev s hs m (acc ++ [small8 b]) (sfx_tl hm) (by simp at hb ⊢; omega)
    have e1 : ints (acc ++ [small8 b]) = ints acc ++ [((small8 b).toNat : Int)] := by simp [ints]
    rw [e1] at ih
    have e2 : acc ++ [small8 b] ++ m.map small8 = acc ++ (b :: m).map small8 := by simp
    rw [e2] at ih
    exact ih
theorem rsmall_f (w : List UInt8) (h : w.length ≤ 4096) : Ev (fun k => tinderref06_small.f k (byt w)) (byt (w.map small8)) := by
  have := rsmall_ev (byt w) (by rw [byt_size]; exact h) w [] (by rw [byt_data]; exact List.suffix_refl _) (by simp; omega)
  have hp : pos (byt w) w = 0 := by unfold pos; rw [byt_size]; omega
  rw [hp] at this
  exact this
theorem rvalue_all : ∀ n : Fin 256, tinderref02_Value.f 20 (n.val : Int) 16 = some (valO (UInt8.ofNat n.val)) := by decide +kernel
theorem rvalue_ev (b : UInt8) : Ev (fun k => tinderref02_Value.f k (b.toNat : Int) 16) (valO b) := by
  refine Ev.of (tinderref02_Value.mono _ _) (k := 20) ?_
  have := rvalue_all ⟨b.toNat, UInt8.toNat_lt b⟩
  simpa using this
def oddB : Option Nat → Bool
  | none => false
  | some _ => true
theorem digits_ev (s : ByteArray) (hs : s.size ≤ 4096) : ∀ (m : List UInt8) (h : Option Nat) (n : Int) (acc : List UInt8), m <:+ s.data.toList → (∀ u, h = some u → u < 16 ∧ n = u) → acc.length + m.length ≤ 100000 →
    (∀ y, hexL m h = some y → Ev (fun k => tinderref06_digits.l0 k s (ints acc) n (oddB h) (pos s m)) (ints (acc ++ y), true)) ∧
    (hexL m h = none → ∃ z, Ev (fun k => tinderref06_digits.l0 k s (ints acc) n (oddB h) (pos s m)) (z, false))
  | [], h, n, acc, hm, hu, hl => by
    have e : ∀ k, tinderref06_digits.l0 (k + 1) s (ints acc) n (oddB h) (pos s []) = some (ints acc, !oddB h) := fun k => by
      simp only [tinderref06_digits.l0, pos_nil, Int.lt_irrefl, ↓reduceIte]
    cases h with
    | none =>
      refine ⟨fun y hy => ?_, fun hn => by cases hn⟩
      injection hy with hy
      subst hy
      rw [List.append_nil]
      exact Ev.step e (Ev.now _)
    | some u => exact ⟨fun y hy => (nomatch hy), fun _ => ⟨_, Ev.step e (Ev.now _)⟩⟩
  | b :: m, h, n, acc, hm, hu, hl => by
    have hl2 : acc.length + m.length ≤ 100000 := by simp at hl; omega
    have hble : decide (((b.toNat : Nat) : Int) ≤ 32) = isB b := isB_iff b
    cases hb : isB b with
    | true =>
      rw [hb] at hble
      have hb2 := of_decide_eq_true hble
      have ih := digits_ev s hs m h n acc (sfx_tl hm) hu hl2
      have e : ∀ k, tinderref06_digits.l0 (k + 1) s (ints acc) n (oddB h) (pos s (b :: m)) = tinderref06_digits.l0 k s (ints acc) n (oddB h) (pos s m) := fun k => by
        simp only [tinderref06_digits.l0, pos_lt, pos_ge hm, ↓reduceIte, bt_pos hm, hb2, pos_next hs hm]
      have e2 : hexL (b :: m) h = hexL m h := by
        conv => lhs; unfold hexL
        rw [hb]; rfl
      rw [e2]
      exact ⟨fun y hy => Ev.step e (ih.1 y hy), fun hn => by obtain ⟨z, hz⟩ := ih.2 hn; exact ⟨z, Ev.step e hz⟩⟩
    | false =>
      rw [hb] at hble
      have hb2 := of_decide_eq_false hble
      have hv := rvalue_ev b
      cases hh : hexv b with
      | none =>
        have e2 : hexL (b :: m) h = none := by
          conv => lhs; unfold hexL
          rw [hb, hh]
          rfl
        rw [e2]
        refine ⟨fun y hy => (nomatch hy), fun _ => ⟨[], ?_⟩⟩
        have e3 : valO b = (0, false) := by unfold valO; rw [hh]
        rw [e3] at hv
        refine Ev.step (f := fun k => tinderref06_digits.l0 (k + 1) _ _ _ _ _) (fun k => rfl) ?_
        simp only [tinderref06_digits.l0, pos_lt, pos_ge hm, ↓reduceIte, bt_pos hm, hb2, pos_next hs hm]
        refine Ev.bind hv ?_
        simp only [Bool.false_eq_true, ↓reduceIte]
        exact Ev.now _
      | some v =>
        have e3 : valO b = ((v : Int), true) := by unfold valO; rw [hh]
        rw [e3] at hv
        have hv16 := hexv_lt hh
        cases h with
        | none =>
          have ih := digits_ev s hs m (some v) v acc (sfx_tl hm) (fun u e => by injection e with e; subst e; exact ⟨hv16, rfl⟩) hl2
          have e2 : hexL (b :: m) none = hexL m (some v) := by
            conv => lhs; unfold hexL
            rw [hb, hh]; rfl
          rw [e2]
          have st : ∀ r, Ev (fun k => tinderref06_digits.l0 k s (ints acc) v (oddB (some v)) (pos s m)) r → Ev (fun k => tinderref06_digits.l0 k s (ints acc) n (oddB none) (pos s (b :: m))) r := by
            intro r hr
            refine Ev.step (f := fun k => tinderref06_digits.l0 (k + 1) _ _ _ _ _) (fun k => rfl) ?_
            simp only [tinderref06_digits.l0, pos_lt, pos_ge hm, ↓reduceIte, bt_pos hm, hb2, pos_next hs hm]
            refine Ev.bind hv ?_
            simpa [oddB] using hr
          exact ⟨fun y hy => st _ (ih.1 y hy), fun hn => by obtain ⟨z, hz⟩ := ih.2 hn; exact ⟨z, st _ hz⟩⟩
        | some u =>
          obtain ⟨hu16, rfl⟩ := hu u rfl
          have hw : ((((u : Int) * 16) % 4294967296 + v) % 4294967296) % 256 = (u : Int) * 16 + v := by omega
          have hw2 : ((UInt8.ofNat (u * 16 + v)).toNat : Int) = (u : Int) * 16 + v := by simp; omega
          have ih := digits_ev s hs m none v (acc ++ [UInt8.ofNat (u * 16 + v)]) (sfx_tl hm) (fun u e => nomatch e) (by simp; simp at hl; omega)
          have e2 : hexL (b :: m) (some u) = (hexL m none).map fun r => UInt8.ofNat (u * 16 + v) :: r := by
            conv => lhs; unfold hexL
            rw [hb, hh]; rfl
          rw [e2]
          have st : ∀ r, Ev (fun k => tinderref06_digits.l0 k s (ints (acc ++ [UInt8.ofNat (u * 16 + v)])) v (oddB none) (pos s m)) r → Ev (fun k => tinderref06_digits.l0 k s (ints acc) u (oddB (some u)) (pos s (b :: m))) r := by
            intro r hr
            refine Ev.step (f := fun k => tinderref06_digits.l0 (k + 1) _ _ _ _ _) (fun k => rfl) ?_
            simp only [tinderref06_digits.l0, pos_lt, pos_ge hm, ↓reduceIte, bt_pos hm, hb2, pos_next hs hm]
            refine Ev.bind hv ?_
            have h9 : (ints acc).length < 140737488355328 := by rw [ints_len]; omega
            have e7 : ints (acc ++ [UInt8.ofNat (u * 16 + v)]) = ints acc ++ [(u : Int) * 16 + v] := by rw [← hw2]; simp [ints]
            rw [e7] at hr
            simp only [oddB, ↓reduceIte, h9, hw, Bool.not_true]
            exact hr
          refine ⟨fun y hy => ?_, fun hn => ?_⟩
          · cases hq : hexL m none with
            | none => rw [hq] at hy; cases hy
            | some q =>
              rw [hq] at hy
              injection hy with hy
              subst hy
              have := st _ (ih.1 q hq)
              rwa [show acc ++ [UInt8.ofNat (u * 16 + v)] ++ q = acc ++ UInt8.ofNat (u * 16 + v) :: q by simp] at this
          · cases hq : hexL m none with
            | none => obtain ⟨z, hz⟩ := ih.2 hq; exact ⟨z, st _ hz⟩
            | some q => rw [hq] at hn; cases hn

theorem digits_f (x : List UInt8) (h : x.length ≤ 4096) :
    (∀ y, hexL x none = some y → Ev (fun k => tinderref06_digits.f k (byt x)) (ints y, true)) ∧ (hexL x none = none → ∃ z, Ev (fun k => tinderref06_digits.f k (byt x)) (z, false)) := by
  have := digits_ev (byt x) (by rw [byt_size]; exact h) x none 0 [] (by rw [byt_data]; exact List.suffix_refl _) (fun u e => nomatch e) (by simp; omega)
  have hp : pos (byt x) x = 0 := by unfold pos; rw [byt_size]; omega
  rw [hp] at this
  exact this
theorem next34 {s : ByteArray} (hs : s.size ≤ 4096) {l : List UInt8} (hl : l <:+ s.data.toList) : Ev (fun k => tinderref06_next.f k s (pos s l) 34) (nextP s 34 l) := next_ev s hs 34 l hl
theorem next41 {s : ByteArray} (hs : s.size ≤ 4096) {l : List UInt8} (hl : l <:+ s.data.toList) : Ev (fun k => tinderref06_next.f k s (pos s l) 41) (nextP s 41 l) := next_ev s hs 41 l hl
theorem next10 {s : ByteArray} (hs : s.size ≤ 4096) {l : List UInt8} (hl : l <:+ s.data.toList) : Ev (fun k => tinderref06_next.f k s (pos s l) 10) (nextP s 10 l) := next_ev s hs 10 l hl
theorem up_sfx {s : ByteArray} {c : UInt8} {l t r : List UInt8} (hl : l <:+ s.data.toList) (hu : upL c l = some (t, r)) : (t ++ c :: r) <:+ s.data.toList := by rw [← (upL_some hu).1]; exact hl
theorem up_pos {s : ByteArray} {c : UInt8} {l t r : List UInt8} (hu : upL c l = some (t, r)) : pos s l = pos s (t ++ c :: r) := by rw [← (upL_some hu).1]
theorem ext_up {s : ByteArray} {c : UInt8} {l t r : List UInt8} (hl : l <:+ s.data.toList) (hu : upL c l = some (t, r)) : s.extract (pos s l).toNat (pos s (c :: r)).toNat = byt t := by
  rw [up_pos hu]; exact ext_pos (up_sfx hl hu)
theorem up_le {s : ByteArray} {c : UInt8} {l t r : List UInt8} (hu : upL c l = some (t, r)) : pos s l ≤ pos s (c :: r) := by rw [up_pos hu]; exact pos_mono
theorem lim_len (x r : List UInt8) : (255 < x.length → limL x r = (3, [], r)) ∧ (¬ 255 < x.length → limL x r = (0, x, r)) := by
  unfold limL
  exact ⟨fun h => by rw [if_pos (by omega)], fun h => by rw [if_neg (by omega)]⟩
/-- The reference's quoted, behind the text's end. -/
theorem q_head (s : ByteArray) (hs : s.size ≤ 4096) {acc l t r : List UInt8} (hl : l <:+ s.data.toList) (hb : acc.length + l.length ≤ 100000) (hu : upL 34 l = some (t, r)) {R : ByteArray × Int × Int}
    (h : Ev (fun k => if pos s r < (s.size : Int) then (if 0 ≤ pos s r then tinderref06_quoted.j1 k s (ints (acc ++ t)) (pos s (34 :: r)) (bt s (pos s r) == 40) else none) else tinderref06_quoted.j1 k s (ints (acc ++ t)) (pos s (34 :: r)) false) R) :
    Ev (fun k => tinderref06_quoted.l0 k s (pos s l) (ints acc)) R := by
  have h34 : (34 :: r) <:+ s.data.toList := sfx_app (up_sfx hl hu)
  have hlen := upL_len hu
  have h1 : (ints acc).length + (byt t).size < 140737488355328 := by rw [ints_len, byt_size]; omega
  refine Ev.step (f := fun k => tinderref06_quoted.l0 (k + 1) _ _ _) (fun k => rfl) ?_
  simp only [tinderref06_quoted.l0]
  refine Ev.bind (next34 hs hl) ?_
  simp only [nextP_some hu, pos_ne, ↓reduceIte, pos_ge hl, up_le hu, pos_le, ext_up hl hu, h1, bytesOf_byt, ← ints_app, Option.bind_some, pos_next hs h34]
  exact h
theorem rquoted_ev (s : ByteArray) (hs : s.size ≤ 4096) {acc l : List UInt8} {e : Int} {t r : List UInt8} (h : QuotR acc l e t r) :
    l <:+ s.data.toList → acc.length + l.length ≤ 100000 → ∃ p, Ev (fun k => tinderref06_quoted.l0 k s (pos s l) (ints acc)) (byt t, p, e) ∧ (e = 0 → p = pos s r) := by
  induction h with
  | @none acc l hu =>
    intro hl hb
    refine ⟨0, Ev.step (f := fun k => tinderref06_quoted.l0 (k + 1) _ _ _) (fun k => rfl) ?_, fun h => by cases h⟩
    simp only [tinderref06_quoted.l0]
    refine Ev.bind (next34 hs hl) ?_
    simp only [nextP_none hu, ↓reduceIte]
    exact Ev.now _
  | @fin acc l t hu =>
    intro hl hb
    have h34 : (34 :: []) <:+ s.data.toList := sfx_app (up_sfx hl hu)
    by_cases ht : 255 < (acc ++ t).length
    · rw [(lim_len _ _).1 ht]
      have ht2 : ((ints (acc ++ t)).length : Int) > 255 := by rw [ints_len]; omega
      refine ⟨0, q_head s hs hl hb hu ?_, fun h => by cases h⟩
      simp only [pos_nil, Int.lt_irrefl, ↓reduceIte]
      refine Ev.step (f := fun k => tinderref06_quoted.j1 (k + 1) _ _ _ _) (fun k => rfl) ?_
      simp only [tinderref06_quoted.j1, Bool.false_eq_true, ↓reduceIte, pos_next hs h34, pos_nil, Int.lt_irrefl]
      refine Ev.step (f := fun k => tinderref06_quoted.j2 (k + 1) _ _ _) (fun k => rfl) ?_
      simp only [tinderref06_quoted.j2, Bool.false_eq_true, ↓reduceIte, ht2]
      exact Ev.now _
    · rw [(lim_len _ _).2 ht]
      have ht2 : ¬ ((ints (acc ++ t)).length : Int) > 255 := by rw [ints_len]; omega
      refine ⟨pos s [], q_head s hs hl hb hu ?_, fun _ => rfl⟩
      simp only [pos_nil, Int.lt_irrefl, ↓reduceIte]
      refine Ev.step (f := fun k => tinderref06_quoted.j1 (k + 1) _ _ _ _) (fun k => rfl) ?_
      simp only [tinderref06_quoted.j1, Bool.false_eq_true, ↓reduceIte, pos_next hs h34, pos_nil, Int.lt_irrefl]
      refine Ev.step (f := fun k => tinderref06_quoted.j2 (k + 1) _ _ _) (fun k => rfl) ?_
      simp only [tinderref06_quoted.j2, Bool.false_eq_true, ↓reduceIte, ht2, str_ints, pos_next hs h34, pos_nil]
      exact Ev.now _
  | @blank acc l t r b hu hb0 =>
    intro hl hb
    have h34 : (34 :: b :: r) <:+ s.data.toList := sfx_app (up_sfx hl hu)
    have hbr := sfx_tl h34
    have h40 : (((b.toNat : Nat) : Int) == 40) = false := by
      have : b.toNat ≤ 32 := of_decide_eq_true hb0
      simp; omega
    by_cases ht : 255 < (acc ++ t).length
    · rw [(lim_len _ _).1 ht]
      have ht2 : ((ints (acc ++ t)).length : Int) > 255 := by rw [ints_len]; omega
      refine ⟨0, q_head s hs hl hb hu ?_, fun h => by cases h⟩
      simp only [pos_lt, pos_ge hbr, ↓reduceIte, bt_pos hbr, h40]
      refine Ev.step (f := fun k => tinderref06_quoted.j1 (k + 1) _ _ _ _) (fun k => rfl) ?_
      simp only [tinderref06_quoted.j1, Bool.false_eq_true, ↓reduceIte, pos_next hs h34, pos_lt, rblank_f hbr, hb0, Option.bind_some, Bool.not_true]
      refine Ev.step (f := fun k => tinderref06_quoted.j2 (k + 1) _ _ _) (fun k => rfl) ?_
      simp only [tinderref06_quoted.j2, Bool.false_eq_true, ↓reduceIte, ht2]
      exact Ev.now _
    · rw [(lim_len _ _).2 ht]
      have ht2 : ¬ ((ints (acc ++ t)).length : Int) > 255 := by rw [ints_len]; omega
      refine ⟨pos s (b :: r), q_head s hs hl hb hu ?_, fun _ => rfl⟩
      simp only [pos_lt, pos_ge hbr, ↓reduceIte, bt_pos hbr, h40]
      refine Ev.step (f := fun k => tinderref06_quoted.j1 (k + 1) _ _ _ _) (fun k => rfl) ?_
      simp only [tinderref06_quoted.j1, Bool.false_eq_true, ↓reduceIte, pos_next hs h34, pos_lt, rblank_f hbr, hb0, Option.bind_some, Bool.not_true]
      refine Ev.step (f := fun k => tinderref06_quoted.j2 (k + 1) _ _ _) (fun k => rfl) ?_
      simp only [tinderref06_quoted.j2, Bool.false_eq_true, ↓reduceIte, ht2, str_ints, pos_next hs h34]
      exact Ev.now _
  | @bad acc l t r b hu hb0 hne =>
    intro hl hb
    have h34 : (34 :: b :: r) <:+ s.data.toList := sfx_app (up_sfx hl hu)
    have hbr := sfx_tl h34
    have h40 : (((b.toNat : Nat) : Int) == 40) = false := by
      have : ¬ (b.toNat = 40) := fun e => hne (UInt8.toNat_inj.1 e)
      simp; omega
    refine ⟨0, q_head s hs hl hb hu ?_, fun h => by cases h⟩
    simp only [pos_lt, pos_ge hbr, ↓reduceIte, bt_pos hbr, h40]
    refine Ev.step (f := fun k => tinderref06_quoted.j1 (k + 1) _ _ _ _) (fun k => rfl) ?_
    simp only [tinderref06_quoted.j1, Bool.false_eq_true, ↓reduceIte, pos_next hs h34, pos_lt, rblank_f hbr, hb0, Option.bind_some, Bool.not_false]
    refine Ev.step (f := fun k => tinderref06_quoted.j2 (k + 1) _ _ _) (fun k => rfl) ?_
    simp only [tinderref06_quoted.j2, ↓reduceIte]
    exact Ev.now _
  | @noend acc l t r hu h41 =>
    intro hl hb
    have h34 : (34 :: 40 :: r) <:+ s.data.toList := sfx_app (up_sfx hl hu)
    have hbr := sfx_tl h34
    have h3 : bt s (pos s (40 :: r)) = 40 := bt_pos hbr
    have hn : upL 41 (34 :: 40 :: r) = none := by unfold upL; rw [if_neg (by decide)]; unfold upL; rw [if_neg (by decide), h41]; rfl
    refine ⟨0, q_head s hs hl hb hu ?_, fun h => by cases h⟩
    simp only [pos_lt, pos_ge hbr, ↓reduceIte, h3, beq_self_eq_true]
    refine Ev.step (f := fun k => tinderref06_quoted.j1 (k + 1) _ _ _ _) (fun k => rfl) ?_
    simp only [tinderref06_quoted.j1, ↓reduceIte]
    refine Ev.bind (next41 hs h34) ?_
    simp only [nextP_none hn, ↓reduceIte]
    exact Ev.now _
  | @nohex acc l t r x r2 hu h41 hx =>
    intro hl hb
    have h34 : (34 :: 40 :: r) <:+ s.data.toList := sfx_app (up_sfx hl hu)
    have hbr := sfx_tl h34
    have hr := sfx_tl hbr
    have h3 : bt s (pos s (40 :: r)) = 40 := bt_pos hbr
    have hn : upL 41 (34 :: 40 :: r) = some (34 :: 40 :: x, r2) := by unfold upL; rw [if_neg (by decide)]; unfold upL; rw [if_neg (by decide), h41]; rfl
    have hp2 : wrap64 (pos s (34 :: 40 :: r) + 2) = pos s r := by
      have := pos_ge h34; have := pos_cons s 34 (40 :: r); have := pos_cons s 40 r; have := pos_le s r
      rw [w64 (by omega) (by omega)]; omega
    have hxl : x.length ≤ 4096 := by have := upL_len h41; have := sfx_len hr; omega
    obtain ⟨z, hz⟩ := (digits_f x hxl).2 hx
    refine ⟨0, q_head s hs hl hb hu ?_, fun h => by cases h⟩
    simp only [pos_lt, pos_ge hbr, ↓reduceIte, h3, beq_self_eq_true]
    refine Ev.step (f := fun k => tinderref06_quoted.j1 (k + 1) _ _ _ _) (fun k => rfl) ?_
    simp only [tinderref06_quoted.j1, ↓reduceIte]
    refine Ev.bind (next41 hs h34) ?_
    simp only [nextP_some hn, pos_ne, ↓reduceIte, hp2, pos_ge hr, up_le h41, pos_le, ext_up hr h41]
    refine Ev.bind hz ?_
    simp only [Bool.false_eq_true, ↓reduceIte]
    exact Ev.now _
  | @hex acc l t r x r2 y t' r' e hu h41 hx hq ih =>
    intro hl hb
    have h34 : (34 :: 40 :: r) <:+ s.data.toList := sfx_app (up_sfx hl hu)
    have hbr := sfx_tl h34
    have hr := sfx_tl hbr
    have h3 : bt s (pos s (40 :: r)) = 40 := bt_pos hbr
    have hn : upL 41 (34 :: 40 :: r) = some (34 :: 40 :: x, r2) := by unfold upL; rw [if_neg (by decide)]; unfold upL; rw [if_neg (by decide), h41]; rfl
    have hp2 : wrap64 (pos s (34 :: 40 :: r) + 2) = pos s r := by
      have := pos_ge h34; have := pos_cons s 34 (40 :: r); have := pos_cons s 40 r; have := pos_le s r
      rw [w64 (by omega) (by omega)]; omega
    have h41s : (41 :: r2) <:+ s.data.toList := sfx_app (up_sfx hr h41)
    have hxl : x.length ≤ 4096 := by have := upL_len h41; have := sfx_len hr; omega
    have hz := (digits_f x hxl).1 y hx
    have hy := hexL_len x none y hx
    have hlen := upL_len hu
    have hlen2 := upL_len h41
    obtain ⟨p, hp, hp3⟩ := ih (sfx_tl h41s) (by simp at hlen ⊢; omega)
    have h9 : (ints (acc ++ t)).length + (ints y).length < 140737488355328 := by rw [ints_len, ints_len]; simp at hlen ⊢; omega
    refine ⟨p, q_head s hs hl hb hu ?_, hp3⟩
    simp only [pos_lt, pos_ge hbr, ↓reduceIte, h3, beq_self_eq_true]
    refine Ev.step (f := fun k => tinderref06_quoted.j1 (k + 1) _ _ _ _) (fun k => rfl) ?_
    simp only [tinderref06_quoted.j1, ↓reduceIte]
    refine Ev.bind (next41 hs h34) ?_
    simp only [nextP_some hn, pos_ne, ↓reduceIte, hp2, pos_ge hr, up_le h41, pos_le, ext_up hr h41]
    refine Ev.bind hz ?_
    simp only [↓reduceIte, h9, pos_next hs h41s, ← ints_app]
    exact hp
end Go.Proofs.Ytehmhgpogpbjiaa

/- scan.Cut: the reference's Cut; both are the lists'. -/
namespace Go.Proofs.Ytehmhgpogpbjiaa
open Go.RowKit Go.Proofs.YtehmhgpogpbjiaaW.PrintWords Go.Proofs.YtehmhgpogpbjiaaW.PrintLast Go.Proofs.YtehmhgpogpbjiaaW.PrintMore Go.Proofs.Ytehmhgpogpbjiaa.PFccTokens
set_option linter.unusedVariables false
set_option linter.unusedSimpArgs false
theorem r_skip (s : ByteArray) (hs : s.size ≤ 4096) (acc : List S59) {R : List S59 × Int} : ∀ l : List UInt8, l <:+ s.data.toList →
    Ev (fun k => tinderref06_Cut.l0 k s acc (pos s (l.dropWhile isB))) R → Ev (fun k => tinderref06_Cut.l0 k s acc (pos s l)) R
  | [], hl, h => h
  | b :: r, hl, h => by
    cases hb : isB b with
    | true =>
      rw [show (b :: r).dropWhile isB = r.dropWhile isB by rw [List.dropWhile_cons, hb]; rfl] at h
      refine Ev.step (f := fun k => tinderref06_Cut.l0 (k + 1) _ _ _) (fun k => rfl) ?_
      simp only [tinderref06_Cut.l0, pos_lt, ↓reduceIte, rblank_f hl, hb, Option.bind_some, pos_next hs hl]
      exact r_skip s hs acc r (sfx_tl hl) h
    | false =>
      rw [show (b :: r).dropWhile isB = b :: r by rw [List.dropWhile_cons, hb]; rfl] at h
      exact h
theorem r_word (s : ByteArray) (hs : s.size ≤ 4096) (acc : List S59) {R : List S59 × Int} (L : List UInt8) : ∀ m w : List UInt8, L = w ++ m → L <:+ s.data.toList →
    Ev (fun k => tinderref06_Cut.j2 k s acc (pos s L) (pos s (restL m))) R → Ev (fun k => tinderref06_Cut.l1 k s acc (pos s L) (pos s m)) R
  | [], w, e, hL, h => by
    refine Ev.step (f := fun k => tinderref06_Cut.l1 (k + 1) _ _ _ _) (fun k => rfl) ?_
    simp only [tinderref06_Cut.l1, pos_nil, Int.lt_irrefl, ↓reduceIte]
    rw [← pos_nil]
    exact h
  | b :: m, w, e, hL, h => by
    have hm : (b :: m) <:+ s.data.toList := by subst e; exact sfx_app hL
    rw [rest_cons] at h
    refine Ev.step (f := fun k => tinderref06_Cut.l1 (k + 1) _ _ _ _) (fun k => rfl) ?_
    cases hb : isB b with
    | true =>
      rw [hb] at h
      simp only [tinderref06_Cut.l1, pos_lt, ↓reduceIte, rblank_f hm, hb, Option.bind_some]
      exact h
    | false =>
      rw [hb] at h
      simp only [tinderref06_Cut.l1, pos_lt, ↓reduceIte, rblank_f hm, hb, Option.bind_some, Bool.false_eq_true, pos_next hs hm]
      exact r_word s hs acc L m (w ++ [b]) (by rw [e]; simp) hL h
theorem rest_sfx_pos {s : ByteArray} {L : List UInt8} (hL : L <:+ s.data.toList) : s.extract (pos s L).toNat (pos s (restL L)).toNat = byt (wordL L) ∧ pos s L ≤ pos s (restL L) := by
  have h1 := ext_pos (s := s) (w := wordL L) (r := restL L) (by rw [word_rest]; exact hL)
  have h2 := pos_mono (s := s) (w := wordL L) (r := restL L)
  rw [word_rest] at h1 h2
  exact ⟨h1, h2⟩
theorem r_head {s : ByteArray} (hs : s.size ≤ 4096) {l L : List UInt8} (acc : List S59) (hl : l <:+ s.data.toList) (hL : l.dropWhile isB = L) (h0 : L ≠ []) {R : List S59 × Int}
    (h : Ev (fun k => tinderref06_Cut.j2 (k + 1) s acc (pos s L) (pos s (restL L))) R) : Ev (fun k => tinderref06_Cut.l0 k s acc (pos s l)) R := by
  have hLs := suffix_drop hl hL
  refine r_skip s hs acc l hl ?_
  rw [hL]
  have h2 : Ev (fun k => tinderref06_Cut.l1 k s acc (pos s L) (pos s L)) R := r_word s hs acc L L [] rfl hLs (Ev.step (fun k => rfl) h)
  cases L with
  | nil => exact absurd rfl h0
  | cons b r =>
    refine Ev.step (f := fun k => tinderref06_Cut.l0 (k + 1) _ _ _) (fun k => rfl) ?_
    simp only [tinderref06_Cut.l0, pos_lt, ↓reduceIte, rblank_f hLs, drop_head hL, Option.bind_some, Bool.false_eq_true]
    exact h2
theorem rspec_t {w : List UInt8} (h : specW w) : tinderref06_Special.f (byt w) = some true := by rw [rspecial_f, decide_eq_true h]
theorem pos_def (s : ByteArray) (L : List UInt8) : pos s L = (s.size : Int) - L.length := rfl
theorem not_gt {s : ByteArray} {r : List UInt8} : ¬ pos s r > (s.size : Int) := by have := pos_le s r; omega
theorem rcut_ev (s : ByteArray) (hs : s.size ≤ 4096) {l : List UInt8} {q : Int × List S59} (h : CutR (s.size : Int) l q) :
    l <:+ s.data.toList → ∀ acc : List S59, acc.length + l.length ≤ 10000 → Ev (fun n => tinderref06_Cut.l0 n s acc (pos s l)) (fin acc q) := by
  induction h with
  | @done l hL =>
    intro hl acc hb
    refine r_skip s hs acc l hl ?_
    rw [hL]
    refine Ev.step (f := fun k => tinderref06_Cut.l0 (k + 1) _ _ _) (fun k => rfl) ?_
    simp only [tinderref06_Cut.l0, pos_nil, Int.lt_irrefl, ↓reduceIte]
    have : fin acc (0, []) = (acc, 0) := by simp [fin]
    rw [this]
    exact Ev.now _
  | @lineEnd l L hL h0 hw hu =>
    intro hl acc hb
    have hLs := suffix_drop hl hL
    have hR := sfx_rest hLs
    refine r_head hs acc hl hL h0 ?_
    simp only [tinderref06_Cut.j2, pos_ge hLs, (rest_sfx_pos hLs).2, pos_le, (rest_sfx_pos hLs).1, ↓reduceIte, rspec_t (show specW [92] from by decide), Option.bind_some, byt_toList, hw]
    refine Ev.bind (next10 hs hR) ?_
    have h5 : ¬ (wrap64 ((s.size : Int) + 1) < (s.size : Int)) := by rw [w64 (by omega) (by omega)]; omega
    simp only [nextP_none hu]
    refine Ev.step (f := fun k => tinderref06_Cut.l0 (k + 1) _ _ _) (fun k => rfl) ?_
    simp only [tinderref06_Cut.l0, h5, ↓reduceIte]
    have : fin acc (0, []) = (acc, 0) := by simp [fin]
    rw [this]
    exact Ev.now _
  | @line l L t r q hL h0 hw hu hq ih =>
    intro hl acc hb
    have hLs := suffix_drop hl hL
    have hR := sfx_rest hLs
    have hc : (10 :: r) <:+ s.data.toList := sfx_app (up_sfx hR hu)
    refine r_head hs acc hl hL h0 ?_
    simp only [tinderref06_Cut.j2, pos_ge hLs, (rest_sfx_pos hLs).2, pos_le, (rest_sfx_pos hLs).1, ↓reduceIte, rspec_t (show specW [92] from by decide), Option.bind_some, byt_toList, hw]
    refine Ev.bind (next10 hs hR) ?_
    simp only [nextP_some hu, pos_next hs hc]
    have := upL_len hu
    have := rest_lt hL h0
    exact ih (sfx_tl hc) acc (by omega)
  | @noParen l L hL h0 hw hu =>
    intro hl acc hb
    have hLs := suffix_drop hl hL
    have hR := sfx_rest hLs
    refine r_head hs acc hl hL h0 ?_
    simp only [tinderref06_Cut.j2, pos_ge hLs, (rest_sfx_pos hLs).2, pos_le, (rest_sfx_pos hLs).1, ↓reduceIte, rspec_t (show specW [40] from by decide), Option.bind_some, byt_toList, hw, w40]
    refine Ev.bind (next41 hs hR) ?_
    have h5 : wrap64 ((s.size : Int) + 1) > (s.size : Int) := by rw [w64 (by omega) (by omega)]; omega
    simp only [nextP_none hu, h5, ↓reduceIte]
    exact Ev.now _
  | @paren l L t r q hL h0 hw hu hq ih =>
    intro hl acc hb
    have hLs := suffix_drop hl hL
    have hR := sfx_rest hLs
    have hc : (41 :: r) <:+ s.data.toList := sfx_app (up_sfx hR hu)
    refine r_head hs acc hl hL h0 ?_
    simp only [tinderref06_Cut.j2, pos_ge hLs, (rest_sfx_pos hLs).2, pos_le, (rest_sfx_pos hLs).1, ↓reduceIte, rspec_t (show specW [40] from by decide), Option.bind_some, byt_toList, hw, w40]
    refine Ev.bind (next41 hs hR) ?_
    simp only [nextP_some hu, pos_next hs hc, not_gt, ↓reduceIte]
    have := upL_len hu
    have := rest_lt hL h0
    exact ih (sfx_tl hc) acc (by omega)
  | @bare l L hL h0 hw h1 h2 hr =>
    intro hl acc hb
    have hLs := suffix_drop hl hL
    have hR := sfx_rest hLs
    refine r_head hs acc hl hL h0 ?_
    have h6 : pos s (restL L) = s.size := by rw [hr, pos_nil]
    simp only [tinderref06_Cut.j2, pos_ge hLs, (rest_sfx_pos hLs).2, pos_le, (rest_sfx_pos hLs).1, ↓reduceIte, rspec_t hw, Option.bind_some, byt_toList, h1, h2]
    simp only [h6, ↓reduceIte]
    exact Ev.now _
  | @noPrint l L r b hL h0 hw hr hu =>
    intro hl acc hb
    have hLs := suffix_drop hl hL
    have hR := sfx_rest hLs
    have hR2 := hR
    rw [hr] at hR2
    refine r_head hs acc hl hL h0 ?_
    have h6 : ¬ pos s (restL L) = s.size := by rw [hr]; exact pos_ne
    have h7 : wrap64 (pos s (restL L) + 1) = pos s r := by rw [hr]; exact pos_next hs hR2
    simp only [tinderref06_Cut.j2, pos_ge hLs, (rest_sfx_pos hLs).2, pos_le, (rest_sfx_pos hLs).1, ↓reduceIte, rspec_t (show specW [46, 40] from by decide), Option.bind_some, byt_toList, hw, w4640a, w4640b, h6, h7]
    refine Ev.bind (next41 hs (sfx_tl hR2)) ?_
    simp only [nextP_none hu, ↓reduceIte]
    exact Ev.now _
  | @longPrint l L r t r2 b hL h0 hw hr hu ht =>
    intro hl acc hb
    have hLs := suffix_drop hl hL
    have hR := sfx_rest hLs
    have hR2 := hR
    rw [hr] at hR2
    refine r_head hs acc hl hL h0 ?_
    have h6 : ¬ pos s (restL L) = s.size := by rw [hr]; exact pos_ne
    have h7 : wrap64 (pos s (restL L) + 1) = pos s r := by rw [hr]; exact pos_next hs hR2
    have h8 : wrap64 (wrap64 (pos s (41 :: r2) - pos s (restL L)) - 1) > 255 := by
      have a := upL_len hu
      have b := sfx_len hR2
      have e1 : pos s (41 :: r2) - pos s (restL L) = (t.length : Int) + 1 := by rw [hr, pos_def, pos_def]; simp at b ⊢; omega
      simp at b
      rw [e1, w64 (n := (t.length : Int) + 1) (by omega) (by omega), w64 (n := (t.length : Int) + 1 - 1) (by omega) (by omega)]
      omega
    simp only [tinderref06_Cut.j2, pos_ge hLs, (rest_sfx_pos hLs).2, pos_le, (rest_sfx_pos hLs).1, ↓reduceIte, rspec_t (show specW [46, 40] from by decide), Option.bind_some, byt_toList, hw, w4640a, w4640b, h6, h7]
    refine Ev.bind (next41 hs (sfx_tl hR2)) ?_
    simp only [nextP_some hu, pos_ne, ↓reduceIte, h8]
    exact Ev.now _
  | @print l L r t r2 b q hL h0 hw hr hu ht hq ih =>
    intro hl acc hb
    have hLs := suffix_drop hl hL
    have hR := sfx_rest hLs
    have hR2 := hR
    rw [hr] at hR2
    have hr1 := sfx_tl hR2
    have hc : (41 :: r2) <:+ s.data.toList := sfx_app (up_sfx hr1 hu)
    refine r_head hs acc hl hL h0 ?_
    have h6 : ¬ pos s (restL L) = s.size := by rw [hr]; exact pos_ne
    have h7 : wrap64 (pos s (restL L) + 1) = pos s r := by rw [hr]; exact pos_next hs hR2
    have h1 := upL_len hu
    have h2 := rest_lt hL h0
    rw [hr] at h2
    simp at h2
    have h8 : ¬ wrap64 (wrap64 (pos s (41 :: r2) - pos s (restL L)) - 1) > 255 := by
      have b := sfx_len hR2
      have e1 : pos s (41 :: r2) - pos s (restL L) = (t.length : Int) + 1 := by rw [hr, pos_def, pos_def]; simp at b ⊢; omega
      simp at b
      rw [e1, w64 (n := (t.length : Int) + 1) (by omega) (by omega), w64 (n := (t.length : Int) + 1 - 1) (by omega) (by omega)]
      omega
    have h3 : acc.length < 4398046511104 := by omega
    simp only [tinderref06_Cut.j2, pos_ge hLs, (rest_sfx_pos hLs).2, pos_le, (rest_sfx_pos hLs).1, ↓reduceIte, rspec_t (show specW [46, 40] from by decide), Option.bind_some, byt_toList, hw, w4640a, w4640b, h6, h7]
    refine Ev.bind (next41 hs (sfx_tl hR2)) ?_
    simp only [nextP_some hu, pos_ne, ↓reduceIte, h8, pos_ge hr1, up_le hu, pos_le, h3, ext_up hr1 hu, pos_next hs hc]
    rw [fin_cons]
    exact ih (sfx_tl hc) _ (by simp; omega)
  | @noQuot l L r t r2 b e hL h0 hw hr hq he =>
    intro hl acc hb
    have hLs := suffix_drop hl hL
    have hR := sfx_rest hLs
    have hR2 := hR
    rw [hr] at hR2
    refine r_head hs acc hl hL h0 ?_
    have hspw : specW (wordL L) := hw.elim (fun h => .inr (.inr (.inr (.inl h)))) (fun h => .inr (.inr (.inr (.inr h))))
    have h6 : ¬ pos s (restL L) = s.size := by rw [hr]; exact pos_ne
    have h7 : wrap64 (pos s (restL L) + 1) = pos s r := by rw [hr]; exact pos_next hs hR2
    have a1 : ¬ (wordL L = [92]) := by rcases hw with h | h <;> rw [h] <;> decide
    have a2 : ¬ (wordL L = [40]) := by rcases hw with h | h <;> rw [h] <;> decide
    have a3 : ¬ (wordL L = [46, 40]) := by rcases hw with h | h <;> rw [h] <;> decide
    obtain ⟨p, hp, _⟩ := rquoted_ev s hs hq (sfx_tl hR2) (by have := sfx_len hR2; simp at this ⊢; omega)
    simp only [tinderref06_Cut.j2, pos_ge hLs, (rest_sfx_pos hLs).2, pos_le, (rest_sfx_pos hLs).1, ↓reduceIte, rspec_t hspw, Option.bind_some, byt_toList, a1, a2, a3, h6, h7]
    have hp2 : Ev (fun k => tinderref06_quoted.f k s (pos s r)) (byt t, p, e) := hp
    refine Ev.bind hp2 ?_
    simp only [he, ↓reduceIte]
    have : fin acc (e, []) = ([], e) := by simp [fin, he]
    rw [this]
    exact Ev.now _
  | @quot l L r t r2 b q hL h0 hw hr hq hc ih =>
    intro hl acc hb
    have hLs := suffix_drop hl hL
    have hR := sfx_rest hLs
    have hR2 := hR
    rw [hr] at hR2
    refine r_head hs acc hl hL h0 ?_
    have hspw : specW (wordL L) := hw.elim (fun h => .inr (.inr (.inr (.inl h)))) (fun h => .inr (.inr (.inr (.inr h))))
    have h6 : ¬ pos s (restL L) = s.size := by rw [hr]; exact pos_ne
    have h7 : wrap64 (pos s (restL L) + 1) = pos s r := by rw [hr]; exact pos_next hs hR2
    have a1 : ¬ (wordL L = [92]) := by rcases hw with h | h <;> rw [h] <;> decide
    have a2 : ¬ (wordL L = [40]) := by rcases hw with h | h <;> rw [h] <;> decide
    have a3 : ¬ (wordL L = [46, 40]) := by rcases hw with h | h <;> rw [h] <;> decide
    obtain ⟨p, hp, hpr⟩ := rquoted_ev s hs hq (sfx_tl hR2) (by have := sfx_len hR2; simp at this ⊢; omega)
    have h1 := quot_len hq rfl
    have h2 := rest_lt hL h0
    rw [hr] at h2
    simp at h2
    have h3 : acc.length < 4398046511104 := by omega
    have hs2 : r2 <:+ s.data.toList := quot_sfx hq rfl (sfx_tl hR2)
    have ih2 := ih hs2 (acc ++ [⟨if wordL L = [34] then 2 else 3, byt t, (s.size : Int) - L.length⟩]) (by simp; omega)
    simp only [tinderref06_Cut.j2, pos_ge hLs, (rest_sfx_pos hLs).2, pos_le, (rest_sfx_pos hLs).1, ↓reduceIte, rspec_t hspw, Option.bind_some, byt_toList, a1, a2, a3, h6, h7]
    have hp2 : Ev (fun k => tinderref06_quoted.f k s (pos s r)) (byt t, p, 0) := hp
    rw [hpr rfl] at hp2
    refine Ev.bind hp2 ?_
    rw [fin_cons]
    by_cases h4 : wordL L = [34]
    · simp only [h4, ↓reduceIte, h3] at ih2 ⊢; exact ih2
    · simp only [h4, ↓reduceIte, h3] at ih2 ⊢; exact ih2
  | @word l L q hL h0 hw hq ih =>
    intro hl acc hb
    have hLs := suffix_drop hl hL
    have hR := sfx_rest hLs
    have h2 := rest_lt hL h0
    have h3 : acc.length < 4398046511104 := by omega
    refine r_head hs acc hl hL h0 ?_
    simp only [tinderref06_Cut.j2, pos_ge hLs, (rest_sfx_pos hLs).2, pos_le, (rest_sfx_pos hLs).1, ↓reduceIte, rspecial_f, decide_eq_false hw, Option.bind_some, Bool.false_eq_true]
    refine Ev.bind (rsmall_f _ (word_len hLs hs)) ?_
    simp only [h3, ↓reduceIte]
    rw [fin_cons]
    exact ih hR _ (by simp; omega)
/-! ### Cut of a whole text -/
theorem cuts (s : ByteArray) (hs : s.size ≤ 4096) {q : Int × List S59} (h : CutR (s.size : Int) s.data.toList q) :
    Ev (fun k => scan_Cut.f k s) (fin [] q) ∧ Ev (fun k => tinderref06_Cut.f k s) (fin [] q) := by
  have hp : pos s s.data.toList = 0 := by unfold pos; rw [size_len]; omega
  have hlen := size_len s
  have h1 := cut_ev s hs h (List.suffix_refl _) [] (by simp; omega)
  have h2 := rcut_ev s hs h (List.suffix_refl _) [] (by simp; omega)
  rw [hp] at h1 h2
  constructor
  · simp only [scan_Cut.f, show ¬ ((s.size : Int) > 4096) by omega, ↓reduceIte]; exact h1
  · simp only [tinderref06_Cut.f, show ¬ ((s.size : Int) > 4096) by omega, ↓reduceIte]; exact h2
theorem cut_count {N : Int} {l : List UInt8} {q : Int × List S59} (h : CutR N l q) : q.2.length ≤ l.length := by
  induction h with
  | done _ => simp
  | lineEnd _ _ _ _ => simp
  | line hL h0 hw hu hq ih => have := upL_len hu; have := rest_lt hL h0; omega
  | noParen _ _ _ _ => simp
  | paren hL h0 hw hu hq ih => have := upL_len hu; have := rest_lt hL h0; omega
  | bare _ _ _ _ _ _ => simp
  | noPrint _ _ _ _ _ => simp
  | longPrint _ _ _ _ _ _ => simp
  | print hL h0 hw hr hu ht hq ih =>
    have := upL_len hu; have h2 := rest_lt hL h0; rw [hr] at h2; simp at h2
    unfold consT; split <;> simp <;> omega
  | noQuot _ _ _ _ _ _ => simp
  | quot hL h0 hw hr hq hc ih =>
    have := quot_len hq rfl; have h2 := rest_lt hL h0; rw [hr] at h2; simp at h2
    unfold consT; split <;> simp <;> omega
  | word hL h0 hw hq ih =>
    have h2 := rest_lt hL h0
    unfold consT; split <;> simp <;> omega
end Go.Proofs.Ytehmhgpogpbjiaa

/- What a maker of tokens does, in plain words: the program's and the reference's alike. -/
namespace Go.Proofs.Ytehmhgpogpbjiaa.Fcc
set_option linter.unusedVariables false
/-- A token that is made: its code, number, text, offset. -/
abbrev Tk := PFccTokens.S37
/-- A token of the text: its kind, its text, where it lies. -/
abbrev Tin := PFccTokens.S59
/-- A case: the of that is open (-1: none), its endofs. -/
abbrev Ch := PFccTokens.S149
abbrev Ld := PFccTokens.S77
structure Mk where
  inp : List Tin
  out : List Tk
  names : List (ByteArray × Int)
  next : Int
  opn : Bool
  name : ByteArray
  code : Int
  origs : List Int
  dests : List Int
  loops : List Int
  cases : List Ch
  leads : List Ld
abbrev Res := Mk ⊕ Int
def emp : ByteArray := ⟨#[]⟩
def Mk.at_ (m : Mk) : Int := m.out.length
def Mk.add (m : Mk) (c : Int) (n : Int := 0) (s : ByteArray := emp) : Mk := { m with out := m.out ++ [⟨c, n, s, 0⟩] }
def wordP (m : Mk) : (ByteArray × Mk) ⊕ Int := match m.inp with
  | [] => .inr 15
  | t :: r => if t.f0 = 1 then .inl (t.f1, { m with inp := r }) else .inr 15
def freshP (named : ByteArray → Bool) (m : Mk) : (ByteArray × Int × Mk) ⊕ Int := match wordP m with
  | .inr _ => .inr 15
  | .inl (s, m1) => if named s = false then .inr 15 else if m1.next > 4095 then .inr 22 else .inl (s, m1.next, { m1 with next := m1.next + 1 })
def popP (l : List Int) : Option (Int × List Int) := match l.getLast? with
  | none => none
  | some x => some (x, l.dropLast)
def resolveP (m : Mk) : Res := match popP m.origs with
  | none => .inr 13
  | some (x, l) => .inl ({ m with origs := l, leads := m.leads ++ ([⟨x, m.at_⟩] : List Ld) }.add 178)
def backP (m : Mk) (c : Int) : Res := match popP m.dests with
  | none => .inr 13
  | some (x, l) => .inl ({ m with dests := l, leads := m.leads ++ ([⟨m.at_, x⟩] : List Ld) }.add c)
def branchP (m : Mk) (w : ByteArray) : Option Res :=
  if w.toList = ([105, 102] : List UInt8) ∨ w.toList = ([119, 104, 105, 108, 101] : List UInt8) then some (.inl ({ m with origs := m.origs ++ [m.at_] }.add 20))
  else if w.toList = ([101, 108, 115, 101] : List UInt8) then some (match popP m.origs with
    | none => .inr 13
    | some (x, l) => resolveP ({ m with origs := l ++ [m.at_, x] }.add 19))
  else if w.toList = ([116, 104, 101, 110] : List UInt8) then some (resolveP m)
  else if w.toList = ([98, 101, 103, 105, 110] : List UInt8) then some (.inl ({ m with dests := m.dests ++ [m.at_] }.add 177))
  else if w.toList = ([117, 110, 116, 105, 108] : List UInt8) then some (backP m 20)
  else if w.toList = ([97, 103, 97, 105, 110] : List UInt8) then some (backP m 19)
  else if w.toList = ([114, 101, 112, 101, 97, 116] : List UInt8) then some (match backP m 19 with
    | .inr e => .inr e
    | .inl m1 => resolveP m1)
  else none
def loopP (m : Mk) (w : ByteArray) : Option Res :=
  if w.toList = ([100, 111] : List UInt8) then some (.inl ({ m with loops := m.loops ++ [m.at_] }.add 23))
  else if w.toList = ([63, 100, 111] : List UInt8) then some (.inl ({ m with loops := m.loops ++ [m.at_] }.add 24))
  else if w.toList = ([108, 111, 111, 112] : List UInt8) ∨ w.toList = ([43, 108, 111, 111, 112] : List UInt8) then some (match popP m.loops with
    | none => .inr 13
    | some (x, l) => .inl ({ m with loops := l, leads := m.leads ++ ([⟨m.at_, x⟩, ⟨x, m.at_⟩] : List Ld) }.add (if w.toList = ([43, 108, 111, 111, 112] : List UInt8) then 22 else 21)))
  else if w.toList = ([108, 101, 97, 118, 101] : List UInt8) then some (if m.loops = [] then .inr 13 else .inl (m.add 27))
  else none
def chooseP (m : Mk) (w : ByteArray) : Res :=
  if w.toList = ([99, 97, 115, 101] : List UInt8) then .inl ({ m with cases := m.cases ++ ([⟨-1, []⟩] : List Ch) }.add 196)
  else match m.cases.getLast? with
    | none => .inr 13
    | some c =>
      if (c.f0 < 0 ↔ w.toList = ([101, 110, 100, 111, 102] : List UInt8)) then .inr 13
      else if w.toList = ([111, 102] : List UInt8) then .inl ({ m with cases := m.cases.dropLast ++ ([⟨m.at_, c.f1⟩] : List Ch) }.add 28)
      else if w.toList = ([101, 110, 100, 111, 102] : List UInt8) then .inl ({ m with cases := m.cases.dropLast ++ ([⟨-1, c.f1 ++ [m.at_]⟩] : List Ch), leads := m.leads ++ ([⟨c.f0, m.at_⟩] : List Ld) }.add 198)
      else .inl ({ m with cases := m.cases.dropLast, leads := m.leads ++ c.f1.map (fun x => (⟨x, m.at_⟩ : Ld)) }.add 197)
def makesP (w : ByteArray) : Int :=
  if w.toList = ([58] : List UInt8) then 183 else if w.toList = ([99, 111, 110, 115, 116, 97, 110, 116] : List UInt8) then 186 else if w.toList = ([118, 97, 108, 117, 101] : List UInt8) ∨ w.toList = ([105, 110, 115, 116, 97, 110, 99, 101] : List UInt8) then 184
  else if w.toList = ([118, 97, 114, 105, 97, 98, 108, 101] : List UInt8) then 185 else if w.toList = ([100, 101, 102, 101, 114] : List UInt8) then 188 else if w.toList = ([98, 117, 102, 102, 101, 114, 58] : List UInt8) then 189 else 0
/-- The text's own names first, the newest ahead; then those that every dictionary has. -/
def findP (prims : List (ByteArray × Int)) (m : Mk) (s : ByteArray) : Option Int :=
  match m.names.find? (fun p => decide (p.1 = s)) with
  | some p => some p.2
  | none => (prims.find? (fun p => decide (p.1 = s))).map (·.2)
def defineP (named : ByteArray → Bool) (m : Mk) (w : ByteArray) : Res :=
  match (if w.toList = ([105, 110, 115, 116, 97, 110, 99, 101] : List UInt8) then (match wordP m with
      | .inl (s, m1) => if s.toList = ([118, 97, 108, 117, 101] : List UInt8) then .inl (m1.add 192) else .inr 15
      | .inr _ => .inr 15) else .inl m : Res) with
  | .inr e => .inr e
  | .inl m1 => match freshP named m1 with
    | .inr e => .inr e
    | .inl (s, c, m2) =>
      let m3 := (m2.add 182 c s).add (makesP w)
      if w.toList = ([58] : List UInt8) then .inl { m3 with opn := true, name := s, code := c } else .inl { m3 with names := (s, c) :: m3.names }
def namedP (prims : List (ByteArray × Int)) (m : Mk) (c : Int) : Res := match wordP m with
  | .inr e => .inr e
  | .inl (s, m1) => match findP prims m1 s with
    | none => .inr 14
    | some n => .inl (m1.add c n)
def withinP (prims : List (ByteArray × Int)) (m : Mk) (w : ByteArray) : Res :=
  if w.toList = ([59] : List UInt8) then (if m.origs.length + m.dests.length + m.loops.length + m.cases.length > 0 then .inr 13 else
    .inl (let m1 := m.add 194; { m1 with opn := false, names := (m1.name, m1.code) :: m1.names }))
  else if w.toList = ([101, 120, 105, 116] : List UInt8) then .inl (m.add 51)
  else if w.toList = ([91, 39, 93] : List UInt8) then namedP prims m 17
  else match branchP m w with
    | some r => r
    | none => match loopP m w with
      | some r => r
      | none => chooseP m w
/-- Is it a word of layer 12's table? -/
def tableP (w : ByteArray) : Bool := decide (w.toList ∈ ([[105, 102], [119, 104, 105, 108, 101], [101, 108, 115, 101], [116, 104, 101, 110], [98, 101, 103, 105, 110], [97, 103, 97, 105, 110], [117, 110, 116, 105, 108], [114, 101, 112, 101, 97, 116], [100, 111], [63, 100, 111], [108, 111, 111, 112], [43, 108, 111, 111, 112], [108, 101, 97, 118, 101], [99, 97, 115, 101], [111, 102], [101, 110, 100, 111, 102], [101, 110, 100, 99, 97, 115, 101]] : List (List UInt8)))
def insideP (w : ByteArray) : Bool := decide (w.toList = ([59] : List UInt8) ∨ w.toList = ([101, 120, 105, 116] : List UInt8) ∨ w.toList = ([91, 39, 93] : List UInt8)) || tableP w
def outsideP (w : ByteArray) : Bool := decide (w.toList = ([39] : List UInt8)) || decide (makesP w ≠ 0)
def oneP (named : ByteArray → Bool) (prims : List (ByteArray × Int)) (lit : ByteArray → Option Int) (m : Mk) (w : ByteArray) : Res :=
  if (insideP w && !m.opn) || (outsideP w && m.opn) then .inr 13
  else if insideP w then withinP prims m w
  else if w.toList = ([39] : List UInt8) then namedP prims m 17
  else if outsideP w then defineP named m w
  else if w.toList = ([116, 111] : List UInt8) then namedP prims m 195
  else match findP prims m w with
    | some c => .inl (m.add c)
    | none => match lit w with
      | none => .inr 14
      | some v => .inl (m.add 16 v)
def tokP (named : ByteArray → Bool) (prims : List (ByteArray × Int)) (lit : ByteArray → Option Int) (m : Mk) (x : Tin) : Res :=
  if x.f0 = 1 then oneP named prims lit m x.f1
  else if x.f0 = 3 then .inl ((m.add 18 0 x.f1).add 144)
  else .inl (m.add 18 0 x.f1)
def allP (named : ByteArray → Bool) (prims : List (ByteArray × Int)) (lit : ByteArray → Option Int) : Nat → Mk → Res
  | 0, m => .inl m
  | k + 1, m => match m.inp with
    | [] => .inl m
    | x :: r => match tokP named prims lit { m with inp := r } x with
      | .inr e => .inr e
      | .inl m1 => allP named prims lit k m1
/-- Where each token ends. -/
def endsP (size : Tk → Int) : Int → List Tk → List Int
  | _, [] => []
  | a, t :: l => (a + size t) :: endsP size (a + size t) l
def aimP (size : Tk → Int) (m : Mk) : List Tk :=
  let e := endsP size 0 m.out
  m.leads.foldl (fun out p => out.modify p.f0.toNat fun t => { t with f3 := e.getD p.f1.toNat 0 - e.getD p.f0.toNat 0 + 2 }) m.out
def start (inp : List Tin) : Mk := ⟨inp, [], [], 2048, false, emp, 0, [], [], [], [], []⟩
def tokensP (named : ByteArray → Bool) (prims : List (ByteArray × Int)) (lit : ByteArray → Option Int) (size : Tk → Int) (inp : List Tin) : List Tk × Int :=
  match allP named prims lit inp.length (start inp) with
  | .inr e => ([], e)
  | .inl m => if m.opn then ([], 13) else (aimP size (m.add 0), 0)
end Go.Proofs.Ytehmhgpogpbjiaa.Fcc

/- A struct in memory whose fields own memory: its box, and each field's own blocks, told apart by their owner's number. -/
namespace Go.Proofs.Ytehmhgpogpbjiaa.Fcc
open Go.RowKit Go.Proofs.YtehmhgpogpbjiaaW.PrintWords
set_option linter.unusedVariables false
set_option linter.unusedSimpArgs false

/-- What a field says of its value: by a world, and by which blocks are its own. -/
abbrev Fld := World → (Nat → Prop) → Value → Prop
/-- It hangs on its own blocks alone. -/
structure Loc (base : Nat) (P : Fld) : Prop where
  move : ∀ {w w1 : World} {ok ok' : Nat → Prop} {v : Value}, P w ok v → (∀ k, ok k → base ≤ k → k < w.heap.size → w1.heap[k]? = w.heap[k]? ∧ ok' k) → P w1 ok' v
abbrev rowF {α : Type} (d : Kd α) (e base : Nat) (xs : List α) : Fld := fun w ok v => Kd.R d e w base ok v xs
abbrev rowsF {α : Type} (d : Kd α) (e base : Nat) (xs : List α) : Fld := fun w ok v => Kd.S d e w base ok v xs
abbrev valF (x : Value) : Fld := fun _ _ v => v = x
abbrev anyF : Fld := fun _ _ _ => True
theorem loc_row {α : Type} (d : Kd α) (e base : Nat) (xs : List α) : Loc base (rowF d e base xs) :=
  ⟨fun h hm => Kd.R_mono (Kd.R_move (Kd.R_bound h) (fun k hk => (hm k hk.1 hk.2.1 hk.2.2.1).1)) (fun k hk => (hm k hk.1 hk.2.1 hk.2.2.1).2)⟩
theorem loc_rows {α : Type} (d : Kd α) (e base : Nat) (xs : List α) : Loc base (rowsF d e base xs) :=
  ⟨fun h hm => Kd.S_mono (Kd.S_move (Kd.S_bound h) (fun k hk => (hm k hk.1 hk.2.1 hk.2.2.1).1)) (fun k hk => (hm k hk.1 hk.2.1 hk.2.2.1).2)⟩
theorem loc_val (base : Nat) (x : Value) : Loc base (valF x) := ⟨fun h _ => h⟩
theorem loc_any (base : Nat) : Loc base anyF := ⟨fun _ _ => trivial⟩
/-- A map of the call's own. -/
abbrev mapF {H : Type} (P : Program) (k : TypeId) (R : Value → Option (DataW H × List MemPlace)) (base n : Nat) (D : DataW H) : Fld :=
  fun w ok v => ∃ b, v = .map (some b) ∧ ok b ∧ base ≤ b ∧ w.ownsMap P k R b n D
theorem loc_map {H : Type} (P : Program) (k : TypeId) (R : Value → Option (DataW H × List MemPlace)) (base n : Nat) (D : DataW H) : Loc base (mapF P k R base n D) := by
  refine ⟨fun {w w1 ok ok' v} h hm => ?_⟩
  obtain ⟨b, hv, ho, hb, es, clock, h1, h2, h3, h4⟩ := h
  have hx := hm b ho hb (blk_lt h1)
  exact ⟨b, hv, hx.2, hb, es, clock, hx.1.trans h1, h2, h3, h4⟩

/-- A struct's box (block g, type T), and its fields; o tells whose a block is: z is the box's own number, z + 1 + i the field i's. -/
structure St (w : World) (base g T z : Nat) (vs : List Value) (o : Nat → Nat) (F : List Fld) : Prop where
  box : w.heap[g]? = some (.cells vs.toArray T (0, 0))
  hb : base ≤ g
  own : o g = z
  row : ∀ (i : Nat) (v : Value) (P : Fld), vs[i]? = some v → F[i]? = some P → P w (fun k => o k = z + 1 + i) v
  loc : ∀ (i : Nat) (P : Fld), F[i]? = some P → Loc base P
section
variable {w w1 : World} {base g T z : Nat} {vs : List Value} {o o1 : Nat → Nat} {F : List Fld}
theorem St.lt (h : St w base g T z vs o F) : g < w.heap.size := blk_lt h.box
theorem St.cell (h : St w base g T z vs o F) (i : Nat) {v : Value} (hv : vs[i]? = some v) : w.cell? ⟨g, i, none⟩ = some v := by
  rw [blk_cell h.box i]; simpa using hv
theorem St.free (h : St w base g T z vs o F) (i : Nat) : w.frozen? ⟨g, i, none⟩ = false := blk_frozen h.box i
/-- What is not this struct's has changed. -/
theorem St.keep (h : St w base g T z vs o F) (ho : ∀ k, k < w.heap.size → o1 k = o k) (hk : ∀ k, k < w.heap.size → base ≤ k → z ≤ o k → w1.heap[k]? = w.heap[k]?) : St w1 base g T z vs o1 F := by
  refine ⟨(hk g h.lt h.hb (by rw [h.own]; exact Nat.le_refl _)).trans h.box, h.hb, (ho g h.lt).trans h.own, fun i v P hv hP => ?_, h.loc⟩
  refine (h.loc i P hP).move (h.row i v P hv hP) (fun k hk1 hk2 hk3 => ⟨hk k hk3 hk2 (by omega), ?_⟩)
  rw [ho k hk3]; exact hk1
theorem St.below (h : St w base g T z vs o F) (hb : Below w.heap.size w w1) : St w1 base g T z vs o F := h.keep (fun _ _ => rfl) (fun k hk _ _ => hb.block k hk)
/-- A field's own blocks have changed, and new ones are there: the field says something else now. -/
theorem St.turn (h : St w base g T z vs o F) (i : Nat) {P' : Fld} (hl : Loc base P') (ho : ∀ k, k < w.heap.size → o1 k = o k)
    (hk : ∀ k, k < w.heap.size → base ≤ k → o k ≠ z + 1 + i → w1.heap[k]? = w.heap[k]?) (hn : ∀ v, vs[i]? = some v → P' w1 (fun k => o1 k = z + 1 + i) v) : St w1 base g T z vs o1 (F.set i P') := by
  refine ⟨(hk g h.lt h.hb (by rw [h.own]; omega)).trans h.box, h.hb, (ho g h.lt).trans h.own, fun j v P hv hP => ?_, fun j P hP => ?_⟩
  · by_cases hj : i = j
    · subst hj
      rw [List.getElem?_set_self'] at hP
      cases hF : F[i]? with
      | none => rw [hF] at hP; cases hP
      | some _ => rw [hF] at hP; cases hP; exact hn v hv
    · rw [List.getElem?_set_ne hj] at hP
      refine (h.loc j P hP).move (h.row j v P hv hP) (fun k hk1 hk2 hk3 => ⟨hk k hk3 hk2 (by omega), ?_⟩)
      rw [ho k hk3]; exact hk1
  · by_cases hj : i = j
    · subst hj
      rw [List.getElem?_set_self'] at hP
      cases hF : F[i]? with
      | none => rw [hF] at hP; cases hP
      | some _ => rw [hF] at hP; cases hP; exact hl
    · rw [List.getElem?_set_ne hj] at hP
      exact h.loc j P hP
/-- A field gets a value. -/
theorem St.put (h : St w base g T z vs o F) (i : Nat) {P' : Fld} {v' : Value} (hl : Loc base P') (hn : P' w (fun k => o k = z + 1 + i) v') : St (w.setCell ⟨g, i, none⟩ v') base g T z (vs.set i v') o (F.set i P') := by
  have hfar : ∀ k, k ≠ g → (w.setCell ⟨g, i, none⟩ v').heap[k]? = w.heap[k]? := fun k hk => Below.heap_setCell w ⟨g, i, none⟩ v' k hk
  refine ⟨blk_put h.box i v' (by simp), h.hb, h.own, fun j v P hv hP => ?_, fun j P hP => ?_⟩
  · by_cases hj : i = j
    · subst hj
      rw [List.getElem?_set_self'] at hP hv
      cases hF : F[i]? with
      | none => rw [hF] at hP; cases hP
      | some _ =>
        rw [hF] at hP; cases hP
        cases hV : vs[i]? with
        | none => rw [hV] at hv; cases hv
        | some _ =>
          rw [hV] at hv; cases hv
          exact hl.move hn (fun k hk _ _ => ⟨hfar k (fun e => by subst e; rw [h.own] at hk; omega), hk⟩)
    · rw [List.getElem?_set_ne hj] at hP hv
      exact (h.loc j P hP).move (h.row j v P hv hP) (fun k hk _ _ => ⟨hfar k (fun e => by subst e; rw [h.own] at hk; omega), hk⟩)
  · by_cases hj : i = j
    · subst hj
      rw [List.getElem?_set_self'] at hP
      cases hF : F[i]? with
      | none => rw [hF] at hP; cases hP
      | some _ => rw [hF] at hP; cases hP; exact hl
    · rw [List.getElem?_set_ne hj] at hP
      exact h.loc j P hP
/-- A field's row has grown into another value (its own block alone was written, or new ones are there), and the field gets it. -/
theorem St.grow (h : St w base g T z vs o F) (i : Nat) {P' : Fld} {v v' : Value} (hl : Loc base P') (ho : ∀ k, k < w.heap.size → o1 k = o k) (hg : w.grownBy w1 v.ownBlock) (hv : ∀ k, v.ownBlock = some k → o k = z + 1 + i)
    (hn : P' w1 (fun k => o1 k = z + 1 + i) v') : St (w1.setCell ⟨g, i, none⟩ v') base g T z (vs.set i v') o1 (F.set i P') := by
  have h1 : St w1 base g T z vs o1 (F.set i anyF) := h.turn i (loc_any base) ho (fun k hk _ hne => hg.block k hk (fun e => hne (hv k e.symm))) (fun _ _ => trivial)
  have h2 := h1.put i hl hn
  rwa [List.set_set] at h2
end
/-- New blocks are the owner i's. -/
def new_ (w : World) (o : Nat → Nat) (i k : Nat) : Nat := if k < w.heap.size then o k else i
theorem new_lt {w : World} {o : Nat → Nat} {i k : Nat} (hk : k < w.heap.size) : new_ w o i k = o k := by unfold new_; rw [if_pos hk]
theorem new_ge {w : World} {o : Nat → Nat} {i k : Nat} (hk : w.heap.size ≤ k) : new_ w o i k = i := by unfold new_; rw [if_neg (by omega)]
end Go.Proofs.Ytehmhgpogpbjiaa.Fcc

/- pop: the newest one is taken off a row of numbers that is a field. -/
namespace Go.Proofs.Ytehmhgpogpbjiaa.Fcc
open Go.RowKit Go.Proofs.YtehmhgpogpbjiaaW.PrintWords Go.Proofs.YtehmhgpogpbjiaaW.PrintLast Go.Proofs.YtehmhgpogpbjiaaW.PrintMore
set_option linter.unusedVariables false
set_option linter.unusedSimpArgs false
set_option maxHeartbeats 2000000 in
theorem pop_calls (bb i : Nat) (A : Option Addr) (n c T : Nat) (xs : List Int) (x : Int) (w : World) (cs : Array Value)
    (hB : w.heap[bb]? = some (.cells cs T (0, 0))) (hi : cs[i]? = some (.slice A (n + 1) c)) (hc : n + 1 ≤ c) (hC : Kd.C (Kd.int .i64) w A (n + 1) (xs ++ [x])) :
    Calls Try.prog 86 #[.pointer (some ⟨bb, i, none⟩)] w fun e w' => e = .returned (.tuple #[.int .i64 x, .bool true]) ∧ w' = w.setCell ⟨bb, i, none⟩ (.slice A n c) := by
  have hb0 : w.cell? ⟨bb, i, none⟩ = some (.slice A (n + 1) c) := (blk_cell hB i).trans hi
  have hf : w.frozen? ⟨bb, i, none⟩ = false := blk_frozen hB i
  have hlen := hC.2.1
  have hxs : xs.length = n := by have := hC.1; simpa using this
  obtain ⟨ad, e, g0⟩ := Kd.at_int hC (n : Int) (by omega) (by omega)
  cases e
  rw [Int.toNat_natCast] at g0
  have hx : rd (xs ++ [x]) (n : Int) = x := by simp [rd, List.getD_eq_getElem?_getD, ← hxs]
  rw [hx] at g0
  clear hC hx
  have e1 : (n : Int) + 1 - 1 = n := by omega
  have e2 : wrap64 (n : Int) = n := IntWalk.wrap64_in _ ⟨by omega, by omega⟩
  have e3 : ((n : Int) < 0) = False := eq_false (by omega)
  have p3 : (0 ≤ (n : Int) ∧ (n : Int) ≤ (c : Int)) = True := eq_true ⟨by omega, by omega⟩
  have p0 : (0 ≤ (n : Int)) = True := eq_true (by omega)
  have p1 : ((n : Int) < (n : Int) + 1) = True := eq_true (by omega)
  have p2 : ((n : Int) ≤ (c : Int)) = True := eq_true (by omega)
  go_enter Try.func86, Try.ntmps86
  go_wp2_with fail
  exact bodyPost_ret (v := .tuple #[.int .i64 x, .bool true]) (by simp [results, Try.results86, go_sem]) rfl ⟨rfl, rfl⟩
set_option maxHeartbeats 2000000 in
theorem pop_empty (bb i : Nat) (A : Option Addr) (c T : Nat) (w : World) (cs : Array Value)
    (hB : w.heap[bb]? = some (.cells cs T (0, 0))) (hi : cs[i]? = some (.slice A 0 c)) :
    Calls Try.prog 86 #[.pointer (some ⟨bb, i, none⟩)] w fun e w' => e = .returned (.tuple #[.int .i64 0, .bool false]) ∧ w' = w := by
  have hb0 : w.cell? ⟨bb, i, none⟩ = some (.slice A 0 c) := (blk_cell hB i).trans hi
  go_enter Try.func86, Try.ntmps86
  go_wp2_with fail
  exact bodyPost_ret (v := .tuple #[.int .i64 0, .bool false]) (by simp [results, Try.results86, go_sem]) rfl ⟨rfl, rfl⟩
section
variable {w : World} {base g T z i : Nat} {vs : List Value} {o : Nat → Nat} {F : List Fld} {xs : List Int} {x : Int} {v : Value}
theorem St.pop (h : St w base g T z vs o F) (hv : vs[i]? = some v) (hF : F[i]? = some (rowF (Kd.int .i64) 3 base (xs ++ [x]))) :
    Calls Try.prog 86 #[.pointer (some ⟨g, i, none⟩)] w fun e w' => e = .returned (.tuple #[.int .i64 x, .bool true]) ∧ ∃ v', St w' base g T z (vs.set i v') o (F.set i (rowF (Kd.int .i64) 3 base xs)) ∧ Below base w w' := by
  have hr : Kd.R (Kd.int .i64) 3 w base (fun k => o k = z + 1 + i) v (xs ++ [x]) := h.row i v _ hv hF
  obtain ⟨A, c, rfl, hc, hC⟩ := Kd.R_reads hr
  have hz : (xs ++ [x]).length = xs.length + 1 := by simp
  rw [hz] at hr hc hC hv
  refine (pop_calls g i A xs.length c T xs x w _ h.box (by simpa using hv) hc hC).mono ?_
  rintro e w' ⟨rfl, rfl⟩
  have ht := Kd.R_take hr (m := xs.length) (by simp)
  rw [List.take_left'  rfl] at ht
  exact ⟨rfl, _, h.put i (loc_row _ _ _ _) ht, (Below.refl _ _).setCell h.hb _⟩
theorem St.pop_none (h : St w base g T z vs o F) (hv : vs[i]? = some v) (hF : F[i]? = some (rowF (Kd.int .i64) 3 base [])) :
    Calls Try.prog 86 #[.pointer (some ⟨g, i, none⟩)] w fun e w' => e = .returned (.tuple #[.int .i64 0, .bool false]) ∧ w' = w := by
  have hr : Kd.R (Kd.int .i64) 3 w base (fun k => o k = z + 1 + i) v [] := h.row i v _ hv hF
  obtain ⟨A, c, rfl⟩ := Kd.R_slice hr
  exact pop_empty g i A c T w _ h.box (by simpa using hv)
end
end Go.Proofs.Ytehmhgpogpbjiaa.Fcc
