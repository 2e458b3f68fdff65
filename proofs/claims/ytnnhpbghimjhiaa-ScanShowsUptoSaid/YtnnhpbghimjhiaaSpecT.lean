/- What a source text is cut into, over lists of bytes alone: no program, no memory. -/
import Derived.Test.YtnnhpbghimjhiaaQScanTx0
namespace Go.Proofs.Ytnnhpbghimjhiaa
open Go.RowKit Go.Proofs.YtnnhpbghimjhiaaW.PrintWords Go.Proofs.Ytnnhpbghimjhiaa.QScanT
set_option linter.unusedVariables false
set_option linter.unusedSimpArgs false

def isB (b : UInt8) : Bool := decide (b.toNat ≤ 32)
/-- What stands ahead of the first c, and behind it. -/
def upL (c : UInt8) : List UInt8 → Option (List UInt8 × List UInt8)
  | [] => none
  | b :: l => if b = c then some ([], l) else (upL c l).map fun p => (b :: p.1, p.2)
theorem upL_some {c : UInt8} : ∀ {l t r : List UInt8}, upL c l = some (t, r) → l = t ++ c :: r ∧ c ∉ t
  | [], t, r, h => by cases h
  | b :: l, t, r, h => by
    unfold upL at h
    by_cases e : b = c
    · rw [if_pos e] at h
      injection h with h
      injection h with h1 h2
      subst h1 h2 e
      exact ⟨rfl, by simp⟩
    · rw [if_neg e] at h
      cases hu : upL c l with
      | none => rw [hu] at h; cases h
      | some p =>
        rw [hu] at h
        obtain ⟨p1, p2⟩ := p
        injection h with h
        injection h with h1 h2
        subst h1 h2
        obtain ⟨h3, h4⟩ := upL_some hu
        exact ⟨by rw [h3]; rfl, by simp [h4, Ne.symm e]⟩
theorem upL_none {c : UInt8} : ∀ {l : List UInt8}, upL c l = none → c ∉ l
  | [], h => by simp
  | b :: l, h => by
    unfold upL at h
    by_cases e : b = c
    · rw [if_pos e] at h; cases h
    · rw [if_neg e] at h
      cases hu : upL c l with
      | none => simp [upL_none hu, Ne.symm e]
      | some p => rw [hu] at h; cases h
theorem upL_of {c : UInt8} : ∀ {t r : List UInt8}, c ∉ t → upL c (t ++ c :: r) = some (t, r)
  | [], r, h => by simp [upL]
  | b :: t, r, h => by
    have h1 : b ≠ c := fun e => h (by simp [e])
    have h2 : c ∉ t := fun e => h (by simp [e])
    show upL c (b :: (t ++ c :: r)) = _
    unfold upL
    rw [if_neg h1, upL_of h2]
    rfl
theorem upL_len {c : UInt8} {l t r : List UInt8} (h : upL c l = some (t, r)) : l.length = t.length + 1 + r.length := by
  rw [(upL_some h).1]; simp; omega
/-- A hexadecimal digit's value. -/
def hexv (b : UInt8) : Option Nat :=
  if 48 ≤ b.toNat ∧ b.toNat ≤ 57 then some (b.toNat - 48) else if 97 ≤ b.toNat ∧ b.toNat ≤ 102 then some (b.toNat - 87) else if 65 ≤ b.toNat ∧ b.toNat ≤ 70 then some (b.toNat - 55) else none
theorem hexv_lt {b : UInt8} {v : Nat} (h : hexv b = some v) : v < 16 := by
  unfold hexv at h
  split at h
  · injection h; omega
  split at h
  · injection h; omega
  split at h
  · injection h; omega
  · cases h
/-- The bytes of hexadecimal digits; h: half of one. -/
def hexL : List UInt8 → Option Nat → Option (List UInt8)
  | [], none => some []
  | [], some _ => none
  | b :: l, h => if isB b then hexL l h else match hexv b with
    | none => none
    | some v => match h with
      | none => hexL l (some v)
      | some u => (hexL l none).map fun r => UInt8.ofNat (u * 16 + v) :: r
/-- A text of at most 255 bytes. -/
def limL (t r : List UInt8) : Int × List UInt8 × List UInt8 := if t.length > 255 then (3, [], r) else (0, t, r)
/-- A quoted text: its error, its bytes, what follows. -/
inductive QuotR : List UInt8 → List UInt8 → Int → List UInt8 → List UInt8 → Prop
  | none {acc l : List UInt8} : upL 34 l = none → QuotR acc l 15 [] []
  | fin {acc l t : List UInt8} : upL 34 l = some (t, []) → QuotR acc l (limL (acc ++ t) []).1 (limL (acc ++ t) []).2.1 []
  | blank {acc l t r : List UInt8} {b : UInt8} : upL 34 l = some (t, b :: r) → isB b = true → QuotR acc l (limL (acc ++ t) []).1 (limL (acc ++ t) []).2.1 (b :: r)
  | bad {acc l t r : List UInt8} {b : UInt8} : upL 34 l = some (t, b :: r) → isB b = false → b ≠ 40 → QuotR acc l 15 [] []
  | noend {acc l t r : List UInt8} : upL 34 l = some (t, 40 :: r) → upL 41 r = none → QuotR acc l 15 [] []
  | nohex {acc l t r x r2 : List UInt8} : upL 34 l = some (t, 40 :: r) → upL 41 r = some (x, r2) → hexL x none = none → QuotR acc l 15 [] []
  | hex {acc l t r x r2 y t' r' : List UInt8} {e : Int} : upL 34 l = some (t, 40 :: r) → upL 41 r = some (x, r2) → hexL x none = some y → QuotR (acc ++ t ++ y) r2 e t' r' → QuotR acc l e t' r'
theorem quot_ex : ∀ (n : Nat) (acc l : List UInt8), l.length < n → ∃ e t r, QuotR acc l e t r := by
  intro n
  induction n with
  | zero => intro acc l h; omega
  | succ n ih =>
    intro acc l h
    cases hu : upL 34 l with
    | none => exact ⟨_, _, _, .none hu⟩
    | some p =>
      obtain ⟨t, r⟩ := p
      cases r with
      | nil => exact ⟨_, _, _, .fin hu⟩
      | cons b r =>
        cases hb : isB b with
        | true => exact ⟨_, _, _, .blank hu hb⟩
        | false =>
          by_cases e : b = 40
          · subst e
            cases h2 : upL 41 r with
            | none => exact ⟨_, _, _, .noend hu h2⟩
            | some q =>
              obtain ⟨x, r2⟩ := q
              cases h3 : hexL x none with
              | none => exact ⟨_, _, _, .nohex hu h2 h3⟩
              | some y =>
                have h4 := upL_len hu
                have h5 := upL_len h2
                simp at h4
                obtain ⟨e, t', r', hq⟩ := ih (acc ++ t ++ y) r2 (by omega)
                exact ⟨e, t', r', .hex hu h2 h3 hq⟩
          · exact ⟨_, _, _, .bad hu hb e⟩
def small8 (b : UInt8) : UInt8 := if 65 ≤ b.toNat ∧ b.toNat ≤ 90 then b + 32 else b
def byt (l : List UInt8) : ByteArray := ⟨l.toArray⟩
def consT (x : S30) (r : Int × List S30) : Int × List S30 := if r.1 = 0 then (0, x :: r.2) else (r.1, [])
def wordL (l : List UInt8) : List UInt8 := l.takeWhile fun b => !isB b
def restL (l : List UInt8) : List UInt8 := l.dropWhile fun b => !isB b
theorem word_rest (l : List UInt8) : wordL l ++ restL l = l := List.takeWhile_append_dropWhile
theorem rest_len (l : List UInt8) : (wordL l).length + (restL l).length = l.length := by
  rw [← List.length_append, word_rest]
theorem drop_head {l r : List UInt8} {b : UInt8} (h : l.dropWhile isB = b :: r) : isB b = false := by
  induction l with
  | nil => cases h
  | cons a l ih =>
    rw [List.dropWhile_cons] at h
    split at h
    · exact ih h
    · rename_i hb
      injection h with h1 h2
      subst h1
      simpa using hb
theorem drop_len (l : List UInt8) : (l.dropWhile isB).length ≤ l.length := (List.dropWhile_sublist _).length_le
theorem word_pos {b : UInt8} {r : List UInt8} (h : isB b = false) : 0 < (wordL (b :: r)).length := by
  unfold wordL
  rw [List.takeWhile_cons, if_pos (by simp [h])]
  simp
theorem quot_len {acc l : List UInt8} {e : Int} {t r : List UInt8} (h : QuotR acc l e t r) (he : e = 0) : r.length < l.length := by
  induction h with
  | none _ => cases he
  | fin h => have := upL_len h; simp at this ⊢; omega
  | blank h _ => have := upL_len h; simp at this ⊢; omega
  | bad _ _ _ => cases he
  | noend _ _ => cases he
  | nohex _ _ _ => cases he
  | hex h1 h2 _ _ ih =>
    have a := upL_len h1
    have b := upL_len h2
    have c := ih he
    simp at a
    omega
def specW (w : List UInt8) : Prop := w = [92] ∨ w = [40] ∨ w = [46, 40] ∨ w = [34] ∨ w = [46, 34]
instance (w : List UInt8) : Decidable (specW w) := by unfold specW; infer_instance
/-- The tokens of a text's end l; N: the whole text's length. -/
inductive CutR (N : Int) : List UInt8 → Int × List S30 → Prop
  | done {l : List UInt8} : l.dropWhile isB = [] → CutR N l (0, [])
  | lineEnd {l L : List UInt8} : l.dropWhile isB = L → L ≠ [] → wordL L = [92] → upL 10 (restL L) = none → CutR N l (0, [])
  | line {l L t r : List UInt8} {q : Int × List S30} : l.dropWhile isB = L → L ≠ [] → wordL L = [92] → upL 10 (restL L) = some (t, r) → CutR N r q → CutR N l q
  | noParen {l L : List UInt8} : l.dropWhile isB = L → L ≠ [] → wordL L = [40] → upL 41 (restL L) = none → CutR N l (15, [])
  | paren {l L t r : List UInt8} {q : Int × List S30} : l.dropWhile isB = L → L ≠ [] → wordL L = [40] → upL 41 (restL L) = some (t, r) → CutR N r q → CutR N l q
  | bare {l L : List UInt8} : l.dropWhile isB = L → L ≠ [] → specW (wordL L) → wordL L ≠ [92] → wordL L ≠ [40] → restL L = [] → CutR N l (15, [])
  | noPrint {l L r : List UInt8} {b : UInt8} : l.dropWhile isB = L → L ≠ [] → wordL L = [46, 40] → restL L = b :: r → upL 41 r = none → CutR N l (15, [])
  | longPrint {l L r t r2 : List UInt8} {b : UInt8} : l.dropWhile isB = L → L ≠ [] → wordL L = [46, 40] → restL L = b :: r → upL 41 r = some (t, r2) → 255 < t.length → CutR N l (3, [])
  | print {l L r t r2 : List UInt8} {b : UInt8} {q : Int × List S30} : l.dropWhile isB = L → L ≠ [] → wordL L = [46, 40] → restL L = b :: r → upL 41 r = some (t, r2) → t.length ≤ 255 → CutR N r2 q → CutR N l (consT ⟨3, byt t, N - L.length⟩ q)
  | noQuot {l L r t r2 : List UInt8} {b : UInt8} {e : Int} : l.dropWhile isB = L → L ≠ [] → wordL L = [34] ∨ wordL L = [46, 34] → restL L = b :: r → QuotR [] r e t r2 → e ≠ 0 → CutR N l (e, [])
  | quot {l L r t r2 : List UInt8} {b : UInt8} {q : Int × List S30} : l.dropWhile isB = L → L ≠ [] → wordL L = [34] ∨ wordL L = [46, 34] → restL L = b :: r → QuotR [] r 0 t r2 → CutR N r2 q → CutR N l (consT ⟨if wordL L = [34] then 2 else 3, byt t, N - L.length⟩ q)
  | word {l L : List UInt8} {q : Int × List S30} : l.dropWhile isB = L → L ≠ [] → ¬ specW (wordL L) → CutR N (restL L) q → CutR N l (consT ⟨1, byt ((wordL L).map small8), N - L.length⟩ q)
theorem rest_lt {l L : List UInt8} (h : l.dropWhile isB = L) (h0 : L ≠ []) : (restL L).length < l.length := by
  cases L with
  | nil => exact absurd rfl h0
  | cons b r =>
    have h1 := word_pos (r := r) (drop_head h)
    have h2 := rest_len (b :: r)
    have h3 := drop_len l
    rw [h] at h3
    omega
theorem cut_ex (N : Int) : ∀ (n : Nat) (l : List UInt8), l.length < n → ∃ q, CutR N l q := by
  intro n
  induction n with
  | zero => intro l h; omega
  | succ n ih =>
    intro l h
    by_cases h0 : l.dropWhile isB = []
    · exact ⟨_, .done h0⟩
    obtain ⟨L, hL⟩ : ∃ L, l.dropWhile isB = L := ⟨_, rfl⟩
    rw [hL] at h0
    have hlt := rest_lt hL h0
    by_cases w1 : wordL L = [92]
    · cases hu : upL 10 (restL L) with
      | none => exact ⟨_, .lineEnd hL h0 w1 hu⟩
      | some p =>
        obtain ⟨t, r⟩ := p
        have := upL_len hu
        obtain ⟨q, hq⟩ := ih r (by omega)
        exact ⟨_, .line hL h0 w1 hu hq⟩
    by_cases w2 : wordL L = [40]
    · cases hu : upL 41 (restL L) with
      | none => exact ⟨_, .noParen hL h0 w2 hu⟩
      | some p =>
        obtain ⟨t, r⟩ := p
        have := upL_len hu
        obtain ⟨q, hq⟩ := ih r (by omega)
        exact ⟨_, .paren hL h0 w2 hu hq⟩
    by_cases ws : specW (wordL L)
    · cases hr : restL L with
      | nil => exact ⟨_, .bare hL h0 ws w1 w2 hr⟩
      | cons b r =>
        rw [hr] at hlt
        simp at hlt
        by_cases w3 : wordL L = [46, 40]
        · cases hu : upL 41 r with
          | none => exact ⟨_, .noPrint hL h0 w3 hr hu⟩
          | some p =>
            obtain ⟨t, r2⟩ := p
            have := upL_len hu
            by_cases ht : 255 < t.length
            · exact ⟨_, .longPrint hL h0 w3 hr hu ht⟩
            · obtain ⟨q, hq⟩ := ih r2 (by omega)
              exact ⟨_, .print hL h0 w3 hr hu (by omega) hq⟩
        · have w4 : wordL L = [34] ∨ wordL L = [46, 34] := by
            rcases ws with a | a | a | a | a
            · exact absurd a w1
            · exact absurd a w2
            · exact absurd a w3
            · exact .inl a
            · exact .inr a
          obtain ⟨e, t, r2, hq⟩ := quot_ex _ [] r (Nat.lt_succ_self _)
          by_cases he : e = 0
          · subst he
            have := quot_len hq rfl
            obtain ⟨q, hq2⟩ := ih r2 (by omega)
            exact ⟨_, .quot hL h0 w4 hr hq hq2⟩
          · exact ⟨_, .noQuot hL h0 w4 hr hq he⟩
    · obtain ⟨q, hq⟩ := ih (restL L) (by omega)
      exact ⟨_, .word hL h0 ws hq⟩
end Go.Proofs.Ytnnhpbghimjhiaa
