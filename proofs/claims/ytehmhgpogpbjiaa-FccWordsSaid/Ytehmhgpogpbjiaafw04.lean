import Derived.Test.YtehmhgpogpbjiaaProg
import Derived.Below
import Derived.Deep.Draws
import Derived.Deep.AppendLies
import Derived.Maps.AppendAt
import Derived.OwnWalk
import Derived.Laws.BytesArg
import Derived.Laws.MakeOwn
import Derived.Laws.OwnMore
import Derived.Deep.OwnRows
import Derived.Tactics
import Derived.Lib.ConvBytes
import Derived.Laws.Slices
import Derived.WalkKit
import Derived.KernelRfl
import Derived.RowKit3
import Derived.Deep.LoopGhost
import Derived.Deep.QuietTactic
import Derived.BigQuiet
import Derived.WideLaws
import Derived.Deep.DeepCutAuto
import Derived.Deep.CutBlock
import Derived.Deep.RegionHeld3
import Derived.Laws.Rows
import Derived.Lib.AppendStr
import Derived.ArgAppend
import Derived.Laws.IdiomCopy
import Derived.OrdersHeld
import Derived.Laws.BitsLemmas
import Derived.RowKit
import Derived.Test.Ytehmhgpogpbjiaafw01
import Derived.Test.Ytehmhgpogpbjiaafw02
import Derived.Test.Ytehmhgpogpbjiaafw03
import Derived.Laws.IdiomStrings
import Derived.Lib.Bytealg
import Derived.Lib.Walk
import Derived.Lib.Slices
import Derived.Lib.Strings
namespace Go.Proofs.Ytehmhgpogpbjiaa.PFccTokens
open Go.RowKit Go.Proofs.YtehmhgpogpbjiaaW.PrintWords Go.Proofs.YtehmhgpogpbjiaaW.PrintLast Go.Proofs.YtehmhgpogpbjiaaW.PrintMore
attribute [local go_sem] max2_int min2_int max_two min_two max_three min_three max_four min_four   -- for this text's walks alone
set_option linter.unusedVariables false
set_option linter.unusedSimpArgs false

def errW : Option Int → Value
  | none => .nilIface
  | some c => .iface 0 (.int .i64 c)
theorem errW_none : errW none = .nilIface := rfl
theorem errW_some (c : Int) : errW (some c) = .iface 0 (.int .i64 c) := rfl

theorem info3 : (Try.prog.info? 3).map (fun i => (i.zero, i.size, i.bytes)) = some (some (.int .i64 0), 1, 8) := by kernel_rfl
theorem info5 : (Try.prog.info? 5).map (fun i => (i.zero, i.size, i.bytes)) = some (some (.int .u8 0), 1, 1) := by kernel_rfl
theorem info35 : (Try.prog.info? 35).map (fun i => (i.zero, i.size, i.bytes)) = some (some (.int .u32 0), 1, 4) := by kernel_rfl
theorem info59 : (Try.prog.info? 59).map (fun i => (i.zero, i.size, i.bytes)) = some (some (.agg #[(.int .i64 0), (.string ⟨#[]⟩), (.int .i64 0)]), 3, 32) := by kernel_rfl
-- the values' own types
/-! #### struct type 34 -/
structure S34 where
  f0 : ByteArray
  f1 : Int
def z34 : S34 := ⟨(⟨#[]⟩ : ByteArray), (0 : Int)⟩
def k34 : Kd S34 := Kd.iso (Kd.pair Kd.string (Kd.int .i64)) (fun x : S34 => (x.f0, x.f1))
theorem k34_open {w : World} {x : S34} {cs : List Value} (h : k34.K w x cs) : cs = [.string x.f0, .int .i64 x.f1] := by
  obtain ⟨_, _, rfl, rfl, rfl⟩ := h
  exact rfl
theorem k34_mkM (w : World) (base : Nat) (ok : Nat → Prop) (x : S34)  : k34.M w base ok x [.string x.f0, .int .i64 x.f1] := ⟨[.string x.f0], [.int .i64 x.f1], rfl, rfl, rfl⟩
def rd_T34 (xs : List S34) (i : Int) : S34 := xs.getD i.toNat z34
theorem at_T34 {w : World} {A : Option Addr} {n : Nat} {xs : List S34} (h : Kd.C k34 w A n xs) (i : Int) (h0 : 0 ≤ i) (h1 : i < n) : ∃ ad , A = some ad ∧ w.cell? (ad.add (i.toNat * 2)) = some (.string (rd_T34 xs i).f0) ∧ w.cell? ⟨(ad.add (i.toNat * 2)).block, (ad.add (i.toNat * 2)).off + 1, none⟩ = some (.int .i64 (rd_T34 xs i).f1) := by
  obtain ⟨ad, c, e, _, hK, hc0⟩ := Kd.C_get h z34 i h0 h1
  have hc : ∀ j u, c[j]? = some u → w.cell? (ad.add (i.toNat * 2 + j)) = some u := hc0
  obtain rfl := k34_open hK
  exact ⟨ad, e, hc 0 _ rfl, by rw [← add_field _ _ 1 (by omega)]; exact hc 1 _ rfl⟩

/-! #### struct type 37 -/
structure S37 where
  f0 : Int
  f1 : Int
  f2 : ByteArray
  f3 : Int
def z37 : S37 := ⟨(0 : Int), (0 : Int), (⟨#[]⟩ : ByteArray), (0 : Int)⟩
def k37 : Kd S37 := Kd.iso (Kd.pair (Kd.int .i64) (Kd.pair (Kd.int .u32) (Kd.pair Kd.string (Kd.int .i64)))) (fun x : S37 => (x.f0, x.f1, x.f2, x.f3))
theorem k37_open {w : World} {x : S37} {cs : List Value} (h : k37.K w x cs) : cs = [.int .i64 x.f0, .int .u32 x.f1, .string x.f2, .int .i64 x.f3] := by
  obtain ⟨_, _, rfl, rfl, ⟨_, _, rfl, rfl, ⟨_, _, rfl, rfl, rfl⟩⟩⟩ := h
  exact rfl
theorem k37_openM {w : World} {base : Nat} {ok : Nat → Prop} {x : S37} {cs : List Value} (h : k37.M w base ok x cs) : cs = [.int .i64 x.f0, .int .u32 x.f1, .string x.f2, .int .i64 x.f3] := by
  obtain ⟨_, _, rfl, rfl, ⟨_, _, rfl, rfl, ⟨_, _, rfl, rfl, rfl⟩⟩⟩ := h
  exact rfl
theorem k37_mkM (w : World) (base : Nat) (ok : Nat → Prop) (x : S37)  : k37.M w base ok x [.int .i64 x.f0, .int .u32 x.f1, .string x.f2, .int .i64 x.f3] := ⟨[.int .i64 x.f0], [.int .u32 x.f1, .string x.f2, .int .i64 x.f3], rfl, rfl, ⟨[.int .u32 x.f1], [.string x.f2, .int .i64 x.f3], rfl, rfl, ⟨[.string x.f2], [.int .i64 x.f3], rfl, rfl, rfl⟩⟩⟩
def rd_T37 (xs : List S37) (i : Int) : S37 := xs.getD i.toNat z37
theorem at_T37 {w : World} {A : Option Addr} {n : Nat} {xs : List S37} (h : Kd.C k37 w A n xs) (i : Int) (h0 : 0 ≤ i) (h1 : i < n) : ∃ ad , A = some ad ∧ w.cell? (ad.add (i.toNat * 4)) = some (.int .i64 (rd_T37 xs i).f0) ∧ w.cell? ⟨(ad.add (i.toNat * 4)).block, (ad.add (i.toNat * 4)).off + 1, none⟩ = some (.int .u32 (rd_T37 xs i).f1) ∧ w.cell? ⟨(ad.add (i.toNat * 4)).block, (ad.add (i.toNat * 4)).off + 2, none⟩ = some (.string (rd_T37 xs i).f2) ∧ w.cell? ⟨(ad.add (i.toNat * 4)).block, (ad.add (i.toNat * 4)).off + 3, none⟩ = some (.int .i64 (rd_T37 xs i).f3) := by
  obtain ⟨ad, c, e, _, hK, hc0⟩ := Kd.C_get h z37 i h0 h1
  have hc : ∀ j u, c[j]? = some u → w.cell? (ad.add (i.toNat * 4 + j)) = some u := hc0
  obtain rfl := k37_open hK
  exact ⟨ad, e, hc 0 _ rfl, by rw [← add_field _ _ 1 (by omega)]; exact hc 1 _ rfl, by rw [← add_field _ _ 2 (by omega)]; exact hc 2 _ rfl, by rw [← add_field _ _ 3 (by omega)]; exact hc 3 _ rfl⟩

/-! #### struct type 59 -/
structure S59 where
  f0 : Int
  f1 : ByteArray
  f2 : Int
def z59 : S59 := ⟨(0 : Int), (⟨#[]⟩ : ByteArray), (0 : Int)⟩
def k59 : Kd S59 := Kd.iso (Kd.pair (Kd.int .i64) (Kd.pair Kd.string (Kd.int .i64))) (fun x : S59 => (x.f0, x.f1, x.f2))
theorem k59_open {w : World} {x : S59} {cs : List Value} (h : k59.K w x cs) : cs = [.int .i64 x.f0, .string x.f1, .int .i64 x.f2] := by
  obtain ⟨_, _, rfl, rfl, ⟨_, _, rfl, rfl, rfl⟩⟩ := h
  exact rfl
theorem k59_mkM (w : World) (base : Nat) (ok : Nat → Prop) (x : S59)  : k59.M w base ok x [.int .i64 x.f0, .string x.f1, .int .i64 x.f2] := ⟨[.int .i64 x.f0], [.string x.f1, .int .i64 x.f2], rfl, rfl, ⟨[.string x.f1], [.int .i64 x.f2], rfl, rfl, rfl⟩⟩
def rd_T59 (xs : List S59) (i : Int) : S59 := xs.getD i.toNat z59
theorem at_T59 {w : World} {A : Option Addr} {n : Nat} {xs : List S59} (h : Kd.C k59 w A n xs) (i : Int) (h0 : 0 ≤ i) (h1 : i < n) : ∃ ad , A = some ad ∧ w.cell? (ad.add (i.toNat * 3)) = some (.int .i64 (rd_T59 xs i).f0) ∧ w.cell? ⟨(ad.add (i.toNat * 3)).block, (ad.add (i.toNat * 3)).off + 1, none⟩ = some (.string (rd_T59 xs i).f1) ∧ w.cell? ⟨(ad.add (i.toNat * 3)).block, (ad.add (i.toNat * 3)).off + 2, none⟩ = some (.int .i64 (rd_T59 xs i).f2) := by
  obtain ⟨ad, c, e, _, hK, hc0⟩ := Kd.C_get h z59 i h0 h1
  have hc : ∀ j u, c[j]? = some u → w.cell? (ad.add (i.toNat * 3 + j)) = some u := hc0
  obtain rfl := k59_open hK
  exact ⟨ad, e, hc 0 _ rfl, by rw [← add_field _ _ 1 (by omega)]; exact hc 1 _ rfl, by rw [← add_field _ _ 2 (by omega)]; exact hc 2 _ rfl⟩

/-! #### struct type 174 -/
structure S174 where
  f0 : Int
  f1 : Int
/-! #### struct type 149 -/
structure S149 where
  f0 : Int
  f1 : (List Int)
def k149 : Kd S149 := Kd.iso (Kd.pair (Kd.int .i64) (Kd.slice 3 (Kd.int .i64))) (fun x : S149 => (x.f0, x.f1))
theorem k149_openM {w : World} {base : Nat} {ok : Nat → Prop} {x : S149} {cs : List Value} (h : k149.M w base ok x cs) : ∃ v1, cs = [.int .i64 x.f0, v1] ∧ (Kd.int .i64).R 3 w base ok v1 x.f1 := by
  obtain ⟨_, _, rfl, rfl, ⟨v1, rfl, g1⟩⟩ := h
  exact ⟨v1, rfl, g1⟩
theorem k149_mkM (w : World) (base : Nat) (ok : Nat → Prop) (x : S149) {v1 : Value} (g1 : (Kd.int .i64).R 3 w base ok v1 x.f1) : k149.M w base ok x [.int .i64 x.f0, v1] := ⟨[.int .i64 x.f0], [v1], rfl, rfl, ⟨v1, rfl, g1⟩⟩
/-! #### struct type 77 -/
structure S77 where
  f0 : Int
  f1 : Int
def z77 : S77 := ⟨(0 : Int), (0 : Int)⟩
def k77 : Kd S77 := Kd.iso (Kd.pair (Kd.int .i64) (Kd.int .i64)) (fun x : S77 => (x.f0, x.f1))
theorem k77_open {w : World} {x : S77} {cs : List Value} (h : k77.K w x cs) : cs = [.int .i64 x.f0, .int .i64 x.f1] := by
  obtain ⟨_, _, rfl, rfl, rfl⟩ := h
  exact rfl
theorem k77_mk (w : World) (x : S77)  : k77.K w x [.int .i64 x.f0, .int .i64 x.f1] := ⟨[.int .i64 x.f0], [.int .i64 x.f1], rfl, rfl, rfl⟩
theorem k77_mkM (w : World) (base : Nat) (ok : Nat → Prop) (x : S77)  : k77.M w base ok x [.int .i64 x.f0, .int .i64 x.f1] := ⟨[.int .i64 x.f0], [.int .i64 x.f1], rfl, rfl, rfl⟩
def rd_T77 (xs : List S77) (i : Int) : S77 := xs.getD i.toNat z77
theorem at_T77 {w : World} {A : Option Addr} {n : Nat} {xs : List S77} (h : Kd.C k77 w A n xs) (i : Int) (h0 : 0 ≤ i) (h1 : i < n) : ∃ ad , A = some ad ∧ w.cell? (ad.add (i.toNat * 2)) = some (.int .i64 (rd_T77 xs i).f0) ∧ w.cell? ⟨(ad.add (i.toNat * 2)).block, (ad.add (i.toNat * 2)).off + 1, none⟩ = some (.int .i64 (rd_T77 xs i).f1) := by
  obtain ⟨ad, c, e, _, hK, hc0⟩ := Kd.C_get h z77 i h0 h1
  have hc : ∀ j u, c[j]? = some u → w.cell? (ad.add (i.toNat * 2 + j)) = some u := hc0
  obtain rfl := k77_open hK
  exact ⟨ad, e, hc 0 _ rfl, by rw [← add_field _ _ 1 (by omega)]; exact hc 1 _ rfl⟩

end Go.Proofs.Ytehmhgpogpbjiaa.PFccTokens

/- What a source text is cut into, over lists of bytes alone: no program, no memory. -/
namespace Go.Proofs.Ytehmhgpogpbjiaa
open Go.RowKit Go.Proofs.YtehmhgpogpbjiaaW.PrintWords Go.Proofs.Ytehmhgpogpbjiaa.PFccTokens
set_option linter.unusedVariables false
set_option linter.unusedSimpArgs false

def isB (b : UInt8) : Bool := decide (b.toNat ≤ 32)
/-- What stands ahead of the first c, and behind it. -/
def upL (c : UInt8) : List UInt8 → Option (List UInt8 × List UInt8)
  | [] => none
  | b :: l => if b = c then some ([], l) else (upL c l).map fun p => (b :: p.1, p.2)
theorem upL_some {c : UInt8} : ∀ {l t r : List UInt8}, upL c l = some (t, r) → l = t ++ c :: r ∧ c ∉ t
  | [], t, r, h => by cases h
  | b :: l, t, r, h => by
    unfold upL at h
    by_cases e : b = c
    · rw [if_pos e] at h
      injection h with h
      injection h with h1 h2
      subst h1 h2 e
      exact ⟨rfl, by simp⟩
    · rw [if_neg e] at h
      cases hu : upL c l with
      | none => rw [hu] at h; cases h
      | some p =>
        rw [hu] at h
        obtain ⟨p1, p2⟩ := p
        injection h with h
        injection h with h1 h2
        subst h1 h2
        obtain ⟨h3, h4⟩ := upL_some hu
        exact ⟨by rw [h3]; rfl, by simp [h4, Ne.symm e]⟩
theorem upL_len {c : UInt8} {l t r : List UInt8} (h : upL c l = some (t, r)) : l.length = t.length + 1 + r.length := by
  rw [(upL_some h).1]; simp; omega
/-- A hexadecimal digit's value. -/
def hexv (b : UInt8) : Option Nat :=
  if 48 ≤ b.toNat ∧ b.toNat ≤ 57 then some (b.toNat - 48) else if 97 ≤ b.toNat ∧ b.toNat ≤ 102 then some (b.toNat - 87) else if 65 ≤ b.toNat ∧ b.toNat ≤ 70 then some (b.toNat - 55) else none
theorem hexv_lt {b : UInt8} {v : Nat} (h : hexv b = some v) : v < 16 := by
  unfold hexv at h
  split at h
  · injection h; omega
  split at h
  · injection h; omega
  split at h
  · injection h; omega
  · cases h
/-- The bytes of hexadecimal digits; h: half of one. -/
def hexL : List UInt8 → Option Nat → Option (List UInt8)
  | [], none => some []
  | [], some _ => none
  | b :: l, h => if isB b then hexL l h else match hexv b with
    | none => none
    | some v => match h with
      | none => hexL l (some v)
      | some u => (hexL l none).map fun r => UInt8.ofNat (u * 16 + v) :: r
/-- A text of at most 255 bytes. -/
def limL (t r : List UInt8) : Int × List UInt8 × List UInt8 := if t.length > 255 then (3, [], r) else (0, t, r)
/-- A quoted text: its error, its bytes, what follows. -/
inductive QuotR : List UInt8 → List UInt8 → Int → List UInt8 → List UInt8 → Prop
  | none {acc l : List UInt8} : upL 34 l = none → QuotR acc l 15 [] []
  | fin {acc l t : List UInt8} : upL 34 l = some (t, []) → QuotR acc l (limL (acc ++ t) []).1 (limL (acc ++ t) []).2.1 []
  | blank {acc l t r : List UInt8} {b : UInt8} : upL 34 l = some (t, b :: r) → isB b = true → QuotR acc l (limL (acc ++ t) []).1 (limL (acc ++ t) []).2.1 (b :: r)
  | bad {acc l t r : List UInt8} {b : UInt8} : upL 34 l = some (t, b :: r) → isB b = false → b ≠ 40 → QuotR acc l 15 [] []
  | noend {acc l t r : List UInt8} : upL 34 l = some (t, 40 :: r) → upL 41 r = none → QuotR acc l 15 [] []
  | nohex {acc l t r x r2 : List UInt8} : upL 34 l = some (t, 40 :: r) → upL 41 r = some (x, r2) → hexL x none = none → QuotR acc l 15 [] []
  | hex {acc l t r x r2 y t' r' : List UInt8} {e : Int} : upL 34 l = some (t, 40 :: r) → upL 41 r = some (x, r2) → hexL x none = some y → QuotR (acc ++ t ++ y) r2 e t' r' → QuotR acc l e t' r'
theorem quot_ex : ∀ (n : Nat) (acc l : List UInt8), l.length < n → ∃ e t r, QuotR acc l e t r := by
  intro n
  induction n with
  | zero => intro acc l h; omega
  | succ n ih =>
    intro acc l h
    cases hu : upL 34 l with
    | none => exact ⟨_, _, _, .none hu⟩
    | some p =>
      obtain ⟨t, r⟩ := p
      cases r with
      | nil => exact ⟨_, _, _, .fin hu⟩
      | cons b r =>
        cases hb : isB b with
        | true => exact ⟨_, _, _, .blank hu hb⟩
        | false =>
          by_cases e : b = 40
          · subst e
            cases h2 : upL 41 r with
            | none => exact ⟨_, _, _, .noend hu h2⟩
            | some q =>
              obtain ⟨x, r2⟩ := q
              cases h3 : hexL x none with
              | none => exact ⟨_, _, _, .nohex hu h2 h3⟩
              | some y =>
                have h4 := upL_len hu
                have h5 := upL_len h2
                simp at h4
                obtain ⟨e, t', r', hq⟩ := ih (acc ++ t ++ y) r2 (by omega)
                exact ⟨e, t', r', .hex hu h2 h3 hq⟩
          · exact ⟨_, _, _, .bad hu hb e⟩
def small8 (b : UInt8) : UInt8 := if 65 ≤ b.toNat ∧ b.toNat ≤ 90 then b + 32 else b
def byt (l : List UInt8) : ByteArray := ⟨l.toArray⟩
def consT (x : S59) (r : Int × List S59) : Int × List S59 := if r.1 = 0 then (0, x :: r.2) else (r.1, [])
def wordL (l : List UInt8) : List UInt8 := l.takeWhile fun b => !isB b
def restL (l : List UInt8) : List UInt8 := l.dropWhile fun b => !isB b
theorem word_rest (l : List UInt8) : wordL l ++ restL l = l := List.takeWhile_append_dropWhile
theorem rest_len (l : List UInt8) : (wordL l).length + (restL l).length = l.length := by
  rw [← List.length_append, word_rest]
theorem drop_head {l r : List UInt8} {b : UInt8} (h : l.dropWhile isB = b :: r) : isB b = false := by
  induction l with
  | nil => cases h
  | cons a l ih =>
    rw [List.dropWhile_cons] at h
    split at h
    · exact ih h
    · rename_i hb
      injection h with h1 h2
      subst h1
      simpa using hb
theorem drop_len (l : List UInt8) : (l.dropWhile isB).length ≤ l.length := (List.dropWhile_sublist _).length_le
theorem word_pos {b : UInt8} {r : List UInt8} (h : isB b = false) : 0 < (wordL (b :: r)).length := by
  unfold wordL
  rw [List.takeWhile_cons, if_pos (by simp [h])]
  simp
theorem quot_len {acc l : List UInt8} {e : Int} {t r : List UInt8} (h : QuotR acc l e t r) (he : e = 0) : r.length < l.length := by
  induction h with
  | none _ => cases he
  | fin h => have := upL_len h; simp at this ⊢; omega
  | blank h _ => have := upL_len h; simp at this ⊢; omega
  | bad _ _ _ => cases he
  | noend _ _ => cases he
  | nohex _ _ _ => cases he
  | hex h1 h2 _ _ ih =>
    have a := upL_len h1
    have b := upL_len h2
    have c := ih he
    simp at a
    omega
def specW (w : List UInt8) : Prop := w = [92] ∨ w = [40] ∨ w = [46, 40] ∨ w = [34] ∨ w = [46, 34]
instance (w : List UInt8) : Decidable (specW w) := by unfold specW; infer_instance
/-- The tokens of a text's end l; N: the whole text's length. -/
inductive CutR (N : Int) : List UInt8 → Int × List S59 → Prop
  | done {l : List UInt8} : l.dropWhile isB = [] → CutR N l (0, [])
  | lineEnd {l L : List UInt8} : l.dropWhile isB = L → L ≠ [] → wordL L = [92] → upL 10 (restL L) = none → CutR N l (0, [])
  | line {l L t r : List UInt8} {q : Int × List S59} : l.dropWhile isB = L → L ≠ [] → wordL L = [92] → upL 10 (restL L) = some (t, r) → CutR N r q → CutR N l q
  | noParen {l L : List UInt8} : l.dropWhile isB = L → L ≠ [] → wordL L = [40] → upL 41 (restL L) = none → CutR N l (15, [])
  | paren {l L t r : List UInt8} {q : Int × List S59} : l.dropWhile isB = L → L ≠ [] → wordL L = [40] → upL 41 (restL L) = some (t, r) → CutR N r q → CutR N l q
  | bare {l L : List UInt8} : l.dropWhile isB = L → L ≠ [] → specW (wordL L) → wordL L ≠ [92] → wordL L ≠ [40] → restL L = [] → CutR N l (15, [])
  | noPrint {l L r : List UInt8} {b : UInt8} : l.dropWhile isB = L → L ≠ [] → wordL L = [46, 40] → restL L = b :: r → upL 41 r = none → CutR N l (15, [])
  | longPrint {l L r t r2 : List UInt8} {b : UInt8} : l.dropWhile isB = L → L ≠ [] → wordL L = [46, 40] → restL L = b :: r → upL 41 r = some (t, r2) → 255 < t.length → CutR N l (3, [])
  | print {l L r t r2 : List UInt8} {b : UInt8} {q : Int × List S59} : l.dropWhile isB = L → L ≠ [] → wordL L = [46, 40] → restL L = b :: r → upL 41 r = some (t, r2) → t.length ≤ 255 → CutR N r2 q → CutR N l (consT ⟨3, byt t, N - L.length⟩ q)
  | noQuot {l L r t r2 : List UInt8} {b : UInt8} {e : Int} : l.dropWhile isB = L → L ≠ [] → wordL L = [34] ∨ wordL L = [46, 34] → restL L = b :: r → QuotR [] r e t r2 → e ≠ 0 → CutR N l (e, [])
  | quot {l L r t r2 : List UInt8} {b : UInt8} {q : Int × List S59} : l.dropWhile isB = L → L ≠ [] → wordL L = [34] ∨ wordL L = [46, 34] → restL L = b :: r → QuotR [] r 0 t r2 → CutR N r2 q → CutR N l (consT ⟨if wordL L = [34] then 2 else 3, byt t, N - L.length⟩ q)
  | word {l L : List UInt8} {q : Int × List S59} : l.dropWhile isB = L → L ≠ [] → ¬ specW (wordL L) → CutR N (restL L) q → CutR N l (consT ⟨1, byt ((wordL L).map small8), N - L.length⟩ q)
theorem rest_lt {l L : List UInt8} (h : l.dropWhile isB = L) (h0 : L ≠ []) : (restL L).length < l.length := by
  cases L with
  | nil => exact absurd rfl h0
  | cons b r =>
    have h1 := word_pos (r := r) (drop_head h)
    have h2 := rest_len (b :: r)
    have h3 := drop_len l
    rw [h] at h3
    omega
theorem cut_ex (N : Int) : ∀ (n : Nat) (l : List UInt8), l.length < n → ∃ q, CutR N l q := by
  intro n
  induction n with
  | zero => intro l h; omega
  | succ n ih =>
    intro l h
    by_cases h0 : l.dropWhile isB = []
    · exact ⟨_, .done h0⟩
    obtain ⟨L, hL⟩ : ∃ L, l.dropWhile isB = L := ⟨_, rfl⟩
    rw [hL] at h0
    have hlt := rest_lt hL h0
    by_cases w1 : wordL L = [92]
    · cases hu : upL 10 (restL L) with
      | none => exact ⟨_, .lineEnd hL h0 w1 hu⟩
      | some p =>
        obtain ⟨t, r⟩ := p
        have := upL_len hu
        obtain ⟨q, hq⟩ := ih r (by omega)
        exact ⟨_, .line hL h0 w1 hu hq⟩
    by_cases w2 : wordL L = [40]
    · cases hu : upL 41 (restL L) with
      | none => exact ⟨_, .noParen hL h0 w2 hu⟩
      | some p =>
        obtain ⟨t, r⟩ := p
        have := upL_len hu
        obtain ⟨q, hq⟩ := ih r (by omega)
        exact ⟨_, .paren hL h0 w2 hu hq⟩
    by_cases ws : specW (wordL L)
    · cases hr : restL L with
      | nil => exact ⟨_, .bare hL h0 ws w1 w2 hr⟩
      | cons b r =>
        rw [hr] at hlt
        simp at hlt
        by_cases w3 : wordL L = [46, 40]
        · cases hu : upL 41 r with
          | none => exact ⟨_, .noPrint hL h0 w3 hr hu⟩
          | some p =>
            obtain ⟨t, r2⟩ := p
            have := upL_len hu
            by_cases ht : 255 < t.length
            · exact ⟨_, .longPrint hL h0 w3 hr hu ht⟩
            · obtain ⟨q, hq⟩ := ih r2 (by omega)
              exact ⟨_, .print hL h0 w3 hr hu (by omega) hq⟩
        · have w4 : wordL L = [34] ∨ wordL L = [46, 34] := by
            rcases ws with a | a | a | a | a
            · exact absurd a w1
            · exact absurd a w2
            · exact absurd a w3
            · exact .inl a
            · exact .inr a
          obtain ⟨e, t, r2, hq⟩ := quot_ex _ [] r (Nat.lt_succ_self _)
          by_cases he : e = 0
          · subst he
            have := quot_len hq rfl
            obtain ⟨q, hq2⟩ := ih r2 (by omega)
            exact ⟨_, .quot hL h0 w4 hr hq hq2⟩
          · exact ⟨_, .noQuot hL h0 w4 hr hq he⟩
    · obtain ⟨q, hq⟩ := ih (restL L) (by omega)
      exact ⟨_, .word hL h0 ws hq⟩
end Go.Proofs.Ytehmhgpogpbjiaa

/- What the print doesn't take of layer 6's program: scan.small, and strings.Cut at a separator of one byte; each a Lean function of the same answers, and its walk. -/
namespace Go.Proofs.Ytehmhgpogpbjiaa
set_option maxRecDepth 100000
open Go.RowKit Go.Proofs.YtehmhgpogpbjiaaW.PrintWords Go.Proofs.YtehmhgpogpbjiaaW.PrintLast Go.Proofs.YtehmhgpogpbjiaaW.PrintMore
set_option linter.unusedVariables false
set_option linter.unusedSimpArgs false

def small1 (n : Int) : Int := if 65 ≤ n ∧ n ≤ 90 then n + 32 else n
def smalls (s : ByteArray) : List Int := s.data.toList.map fun b => small1 b.toNat
def scan_small.f (a0 : ByteArray) : Option ByteArray := if a0.size ≤ 9223372036854775807 then some (strOfNums (smalls a0)) else none

/-- The row of the bytes, the first k of them small. -/
def smC (s : ByteArray) (cap k : Nat) : Array Value :=
  ((s.data.toList.zipIdx.map fun (p : UInt8 × Nat) => Value.int .u8 (if p.2 < k then small1 p.1.toNat else p.1.toNat)) ++ List.replicate (cap - s.size) (Value.int .u8 0)).toArray
theorem smC_size (s : ByteArray) (cap k : Nat) : (smC s cap k).size = s.size + (cap - s.size) := by simp [smC]
theorem smC_at (s : ByteArray) (cap k i : Nat) (hi : i < s.size) : (smC s cap k)[i]? = some (.int .u8 (if i < k then small1 (s.data.toList.getD i 0).toNat else (s.data.toList.getD i 0).toNat)) := by
  have hi' : i < s.data.toList.length := by simpa using hi
  have hi'' : i < s.data.size := hi
  simp [smC, List.getElem?_append, hi', List.getElem?_map, List.getElem?_zipIdx, hi, hi'', List.getD_eq_getElem?_getD]
theorem smC_zero (s : ByteArray) (cap : Nat) : bytesRow s cap = smC s cap 0 := by
  apply Array.ext'
  simp only [bytesRow, smC, Array.toList_append, Array.toList_map, Array.toList_replicate]
  congr 1
  apply List.ext_getElem?
  intro i
  simp only [List.getElem?_map, List.getElem?_zipIdx]
  cases s.data.toList[i]? <;> simp
theorem smC_set (s : ByteArray) (cap k : Nat) (hk : k < s.size) : (smC s cap k).setIfInBounds k (.int .u8 (small1 (s.data.toList.getD k 0).toNat)) = smC s cap (k + 1) := by
  apply Array.ext_getElem?
  intro i
  rw [Array.getElem?_setIfInBounds]
  have hk' : k < s.data.toList.length := by simpa using hk
  by_cases h : k = i
  · subst h
    rw [if_pos rfl, if_pos (by rw [smC_size]; omega), smC_at _ _ _ _ hk, if_pos (by omega)]
  · rw [if_neg h]
    simp only [smC, List.getElem?_toArray, List.getElem?_append, List.length_map, List.length_zipIdx, List.getElem?_map, List.getElem?_zipIdx]
    split
    · cases s.data.toList[i]? with
      | none => rfl
      | some b =>
        simp only [Option.map_some, Nat.zero_add]
        congr 2
        by_cases h2 : i < k
        · rw [if_pos h2, if_pos (by omega)]
        · rw [if_neg h2, if_neg (by omega)]
    · rfl
theorem smC_skip (s : ByteArray) (cap k : Nat) (hk : k < s.size) (h : small1 (s.data.toList.getD k 0).toNat = (s.data.toList.getD k 0).toNat) : smC s cap k = smC s cap (k + 1) := by
  rw [← smC_set s cap k hk, h]
  have := smC_at s cap k k hk
  rw [if_neg (by omega)] at this
  apply Array.ext_getElem?
  intro i
  rw [Array.getElem?_setIfInBounds]
  by_cases e : k = i
  · subst e
    rw [if_pos rfl, if_pos (by rw [smC_size]; omega), this]
  · rw [if_neg e]
theorem blk_at {w : World} {g : Nat} {cs : Array Value} {t : TypeId} {fr : Nat × Nat} (h : w.heap[g]? = some (.cells cs t fr)) (i : Nat) : w.cell? ⟨g, i, none⟩ = cs[i]? := cell_of_row w g i cs t fr h
theorem blk_free {w : World} {g : Nat} {cs : Array Value} {t : TypeId} {a b : Nat} (h : w.heap[g]? = some (.cells cs t (a, b))) {i : Nat} (hi : i < a) : w.frozen? ⟨g, i, none⟩ = false := by
  simp [World.frozen?, h]; omega
theorem blk_setAt {w : World} {g : Nat} {cs : Array Value} {t : TypeId} {fr : Nat × Nat} (h : w.heap[g]? = some (.cells cs t fr)) (i : Nat) (v : Value) : (w.setCell ⟨g, i, none⟩ v).heap[g]? = some (.cells (cs.setIfInBounds i v) t fr) := by
  simp [World.setCell, Array.getElem?_modify, h]
theorem smC_C (s : ByteArray) (cap : Nat) {w : World} {g : Nat} {fr : Nat × Nat} (hs : s.size ≤ 9223372036854775807) (h : w.heap[g]? = some (.cells (smC s cap s.size) 5 fr)) : Kd.C (Kd.int .u8) w (some ⟨g, 0, none⟩) s.size (smalls s) := by
  refine Kd.C_of_reads (d := 0) ⟨by simp [smalls], hs, fun _ => ⟨_, rfl, fun j hj => ?_⟩⟩
  have := blk_at h j
  rw [smC_at _ _ _ _ hj, if_pos hj] at this
  have hj' : j < s.data.toList.length := by simpa using hj
  have e : (smalls s).getD j 0 = small1 (s.data.toList.getD j 0).toNat := by
    simp [smalls, List.getD_eq_getElem?_getD, List.getElem?_map, List.getElem?_eq_getElem hj']
  show w.cell? (Addr.add ⟨g, 0, none⟩ j) = _
  rw [e, ← this]
  congr 1
  unfold Addr.add
  by_cases e0 : j = 0
  · simp [e0]
  · simp [e0]

set_option maxHeartbeats 2000000 in
theorem scan_small.calls (a0 : ByteArray) (r : ByteArray) (w : World) (h : scan_small.f a0 = some r) :
    Calls Try.prog 31 #[.string a0] w fun e w' => e = .returned (.string r) ∧ Below w.heap.size w w' := by
  unfold scan_small.f at h
  split at h
  case isFalse => cases h
  rename_i hs
  obtain rfl : strOfNums (smalls a0) = r := Option.some.inj h
  clear h
  have hcv := fun w => run_bytes_of_string (P := Try.prog) w 9 29 5 a0 Try.underlying9 Try.underlying29 Try.underlying5
  go_enter Try.func31, Try.ntmps31
  go_wp2
  clear hcv
  generalize grownCap w a0.size 0 5 = C
  have HB := Aside0.mk (show Below w.heap.size w ((w.alloc (.cells (bytesRow a0 C) 5 ((bytesRow a0 C).size, (bytesRow a0 C).size + 1))).drew) from below_drew1 (below_alloc (Below.refl _ _) _))
  have HD := Aside0.mk (show ((w.alloc (.cells (bytesRow a0 C) 5 ((bytesRow a0 C).size, (bytesRow a0 C).size + 1))).drew).heap[w.heap.size]? = some (.cells (smC a0 C 0) 5 ((bytesRow a0 C).size, (bytesRow a0 C).size + 1)) from by
    rw [← smC_zero]; exact heap_alloc_new w _)
  have hN : a0.size ≤ (bytesRow a0 C).size := by rw [smC_zero, smC_size]; omega
  generalize (bytesRow a0 C).size = N at HB HD hN ⊢
  go_loopg [10] a0.size (fun gg s10 wr => ∃ kk : Nat, kk ≤ a0.size ∧ a0.size - kk ≤ gg ∧ s10 = .int .i64 kk ∧ Aside0 (Below w.heap.size w wr) ∧ Aside0 (wr.heap[w.heap.size]? = some (.cells (smC a0 C kk) 5 (N, N + 1))))
  case atStart => exact ⟨0, Nat.zero_le _, by omega, rfl, HB, HD⟩
  case round =>
    clear HB HD
    obtain ⟨kk, hkk, hg, rfl, HB, HD⟩ := hrel
    by_cases hlt : kk < a0.size
    · have hltz : (kk : Int) < (a0.size : Int) := by omega
      have g0 : wr.cell? ⟨w.heap.size, kk, none⟩ = some (.int .u8 ((a0.data.toList.getD kk 0).toNat : Int)) := by
        rw [blk_at HD.out, smC_at _ _ _ _ hlt, if_neg (by omega)]
      have f0 : wr.frozen? ⟨w.heap.size, kk, none⟩ = false := blk_free HD.out (by omega)
      have HS := Aside0.mk (smC_set a0 C kk hlt)
      have HT := Aside0.mk (smC_skip a0 C kk hlt)
      have hby : (a0.data.toList.getD kk 0).toNat < 256 := UInt8.toNat_lt _
      generalize (a0.data.toList.getD kk 0).toNat = y at g0 HS HT hby
      have p2 : (0 ≤ (kk : Int)) = True := eq_true (by omega)
      have p3 : ((kk : Int) < (a0.size : Int)) = True := eq_true (by omega)
      by_cases y0 : 65 ≤ (y : Int)
      · have y1 := decide_eq_true y0
        by_cases y2 : (y : Int) ≤ 90
        · have y3 := decide_eq_true y2
          have e1 : small1 (y : Int) = y + 32 := if_pos ⟨y0, y2⟩
          rw [e1] at HS
          clear e1
          go_wp2
          go_roundg (a0.size - (kk + 1))
          case measure => omega
          case rel =>
            refine ⟨kk + 1, by omega, by omega, by go_num, ⟨?_⟩, ⟨?_⟩⟩
            · exact HB.out.setCell (by simp) _
            · rw [← HS.out]
              exact blk_setAt HD.out _ _
        · have y3 := decide_eq_false y2
          have e1 : small1 (y : Int) = y := if_neg (by omega)
          have HT2 := Aside0.mk (HT.out e1)
          clear e1 HT
          go_wp2
          go_roundg (a0.size - (kk + 1))
          case measure => omega
          case rel => exact ⟨kk + 1, by omega, by omega, by go_num, HB, ⟨by rw [← HT2.out]; exact HD.out⟩⟩
      · have y1 := decide_eq_false y0
        have e1 : small1 (y : Int) = y := if_neg (by omega)
        have HT2 := Aside0.mk (HT.out e1)
        clear e1 HT
        go_wp2
        go_roundg (a0.size - (kk + 1))
        case measure => omega
        case rel => exact ⟨kk + 1, by omega, by omega, by go_num, HB, ⟨by rw [← HT2.out]; exact HD.out⟩⟩
    · have hltz : ¬ (kk : Int) < (a0.size : Int) := by omega
      have : kk = a0.size := by omega
      subst this
      have hcv := Kd.C_string (P := Try.prog) (src := 29) (dst := 9) (c := C) Try.underlying29 Try.underlying5 Try.underlying9 (smC_C a0 C hs HD.out)
      clear HD
      go_wp2
      go_ret
      exact ⟨rfl, HB.out⟩

/-- strings.Cut at a separator of one byte. -/
def cutAt (s : ByteArray) (i : Int) : ByteArray × ByteArray × Bool := if 0 ≤ i then (s.extract 0 i.toNat, s.extract (i.toNat + 1) s.size, true) else (s, ⟨#[]⟩, false)
def strings_Cut.f (a0 a1 : ByteArray) : Option (ByteArray × ByteArray × Bool) :=
  if a0.size ≤ 9223372036854775807 then (match a1.data.toList with | [c] => some (cutAt a0 (Lib.indexByte a0.data.toList c)) | _ => none) else none
theorem indexByte_lt (l : List UInt8) (c : UInt8) : Lib.indexByte l c < l.length := by
  induction l with
  | nil => simp [Lib.indexByte]
  | cons b l ih =>
    unfold Lib.indexByte
    simp only [List.length_cons]
    split
    · omega
    · split <;> omega

set_option maxHeartbeats 1000000 in
set_option maxRecDepth 100000 in
theorem indexByte_calls (s : ByteArray) (c : Int) (w : World) :
    Calls Try.prog 102 #[.string s, .int .u8 c] w fun e w' => e = .returned (.int .i64 (Lib.indexByte s.data.toList c.toNat.toUInt8)) ∧ w' = w := by
  go_enter Try.func102, Try.ntmps102
  go_wp2
  rw [run_callFunc_extern Try.func106 (by kernel_rfl) (by kernel_rfl) (by kernel_rfl) (e := Extern.BytealgIndexByte.indexByte) (by kernel_rfl), Lib.run_indexByteString]
  simp only [Result.andThen]
  rw [Oper.upon_value]
  go_wp2
  go_ret
  exact ⟨rfl, rfl⟩
set_option maxHeartbeats 2000000 in
set_option maxRecDepth 100000 in
theorem index_calls (s : ByteArray) (c : UInt8) (w : World) :
    Calls Try.prog 99 #[.string s, .string ⟨#[c]⟩] w fun e w' => e = .returned (.int .i64 (Lib.indexByte s.data.toList c)) ∧ w' = w := by
  go_enter Try.func99, Try.ntmps99
  go_wp2_with (go_at_call 102; refine (indexByte_calls _ _ _).mono ?_; rintro e w' ⟨rfl, rfl⟩)
  · have h : ([c] == s.toList) = true := by assumption
    go_ret
    refine ⟨?_, rfl⟩
    have e : s.data.toList = [c] := by rw [← Lib.toList_data]; exact (beq_iff_eq.1 h).symm
    rw [e]
    simp [Lib.indexByte]
  · go_ret
    exact ⟨rfl, rfl⟩
set_option maxHeartbeats 2000000 in
theorem slcut_calls (s : ByteArray) (c : UInt8) (w : World) (hs : s.size ≤ 9223372036854775807) :
    Calls Try.prog 95 #[.string s, .string ⟨#[c]⟩] w fun e w' => e = .returned (.tuple #[.string (cutAt s (Lib.indexByte s.data.toList c)).1, .string (cutAt s (Lib.indexByte s.data.toList c)).2.1, .bool (cutAt s (Lib.indexByte s.data.toList c)).2.2]) ∧ Drawn0 w w' := by
  have hi := index_calls s c w
  have hl := indexByte_lt s.data.toList c
  have hl2 : s.data.toList.length = s.size := by simp
  rw [hl2] at hl
  generalize Lib.indexByte s.data.toList c = i at hi hl ⊢
  clear hl2
  by_cases h0 : 0 ≤ i
  · obtain ⟨j, rfl⟩ : ∃ j : Nat, i = j := ⟨i.toNat, by omega⟩
    have h1 := decide_eq_true h0
    unfold cutAt
    rw [if_pos h0, Int.toNat_natCast]
    have e1 : wrap64 ((j : Int) + 1) = (j : Int) + 1 := IntWalk.wrap64_in _ ⟨by omega, by omega⟩
    go_enter Try.func95, Try.ntmps95
    go_wp2_with (go_at_call 99; refine hi.mono ?_; rintro e w' ⟨rfl, rfl⟩)
    have p1 : ((0 : Int) ≤ (j : Int)) = True := eq_true h0
    have p2 : ((j : Int) ≤ (s.size : Int)) = True := eq_true (by omega)
    have p3 : ((j : Int) + 1 ≤ (s.size : Int)) = True := eq_true (by omega)
    have e2 : ((j : Int) + 1).toNat = j + 1 := by omega
    have p4 : ((0 : Int) ≤ (j : Int) + 1) = True := eq_true (by omega)
    go_quiet (fail)
    go_wp2
    go_ret3
    exact ⟨rfl, ⟨_, rfl⟩⟩
  · have h1 := decide_eq_false h0
    unfold cutAt
    rw [if_neg h0]
    go_enter Try.func95, Try.ntmps95
    go_wp2_with (go_at_call 99; refine hi.mono ?_; rintro e w' ⟨rfl, rfl⟩)
    go_ret3
    exact ⟨rfl, ⟨0, rfl⟩⟩
set_option maxHeartbeats 2000000 in
theorem strings_Cut.calls (a0 a1 : ByteArray) (r1 r2 : ByteArray) (r3 : Bool) (w : World) (h : strings_Cut.f a0 a1 = some (r1, r2, r3)) :
    Calls Try.prog 84 #[.string a0, .string a1] w fun e w' => e = .returned (.tuple #[.string r1, .string r2, .bool r3]) ∧ Drawn0 w w' := by
  unfold strings_Cut.f at h
  split at h
  case isFalse => cases h
  rename_i hs
  split at h
  case h_2 => cases h
  rename_i c hc
  obtain rfl : a1 = ⟨#[c]⟩ := by
    cases a1 with
    | mk d => cases d with
      | mk l => simp at hc; subst hc; rfl
  have hcut := slcut_calls a0 c w hs
  have he := Option.some.inj h
  rw [he] at hcut
  clear he h hc
  go_enter Try.func84, Try.ntmps84
  go_wp2_with (go_at_call 95; refine hcut.mono ?_; rintro e w' ⟨rfl, n, rfl⟩)
  go_ret3
  exact ⟨rfl, ⟨_, rfl⟩⟩
/-! ### upto -/
def IsS88 (w0 W : World) (g : Nat) (f0 : ByteArray) (f1 : Int) : Prop := W.heap[g]? = some (.cells #[.string f0, .int .i64 f1] 88 (0, 0)) ∧ w0.heap.size ≤ g
theorem IsS88.grown {w0 W : World} {g : Nat} {f0 : ByteArray} {f1 : Int} {W1 : World} {row : Option Nat} (h : IsS88 w0 W g f0 f1) (hw : W.grownBy W1 row) (hne : some g ≠ row) : IsS88 w0 W1 g f0 f1 := by
  obtain ⟨hb, hg⟩ := h
  exact ⟨blk_grown hb hw hne, hg⟩
theorem IsS88.kept {w0 W : World} {g : Nat} {f0 : ByteArray} {f1 : Int} {W1 : World} {S : Nat → Prop} (h : IsS88 w0 W g f0 f1) (hk : Kept W W1 S) (hne : ¬ S g) : IsS88 w0 W1 g f0 f1 := by
  obtain ⟨hb, hg⟩ := h
  exact ⟨blk_kept hb hk hne, hg⟩
theorem IsS88.below {w0 W : World} {g : Nat} {f0 : ByteArray} {f1 : Int} {W1 : World} (h : IsS88 w0 W g f0 f1) (hw : Below W.heap.size W W1) : IsS88 w0 W1 g f0 f1 := h.grown (grown_of_below hw none) (by simp)
theorem IsS88.alloc {w0 W : World} {g : Nat} {f0 : ByteArray} {f1 : Int} (h : IsS88 w0 W g f0 f1) (o : Obj) : IsS88 w0 (W.alloc o) g f0 f1 := h.below (below_alloc (Below.refl _ _) o)
theorem IsS88.drewN {w0 W : World} {g : Nat} {f0 : ByteArray} {f1 : Int} (h : IsS88 w0 W g f0 f1) (m : Nat) : IsS88 w0 (W.drewN m) g f0 f1 := h
theorem IsS88.drew {w0 W : World} {g : Nat} {f0 : ByteArray} {f1 : Int} (h : IsS88 w0 W g f0 f1) : IsS88 w0 W.drew g f0 f1 := h
theorem IsS88.at_ {w0 W : World} {g : Nat} {f0 : ByteArray} {f1 : Int} {w' : World} {m : Nat} (hq : W.drewN m = w') (h : IsS88 w0 W g f0 f1) : IsS88 w0 w' g f0 f1 := by subst hq; exact IsS88.drewN h m
theorem IsS88.apart {w0 W : World} {g : Nat} {f0 : ByteArray} {f1 : Int} {α : Type} {d : Kd α} {e : Nat} {base : Nat} {ok : Nat → Prop} {v : Value} {xs : List α} (h : IsS88 w0 W g f0 f1) (ho : d.R e W base ok v xs) (ht : ∀ q, q ∈ e :: d.E → q ≠ 88) : d.R e W base (fun k => ok k ∧ k ≠ g) v xs := by
  obtain ⟨hb, hg⟩ := h
  exact Kd.R_types ho hb ht
theorem IsS88.own_ne {w0 W : World} {g : Nat} {f0 : ByteArray} {f1 : Int} {α : Type} {d : Kd α} {e : Nat} {base : Nat} {ok : Nat → Prop} {v : Value} {xs : List α} (h : IsS88 w0 W g f0 f1) (ho : d.R e W base ok v xs) (ht : e ≠ 88) : some g ≠ v.ownBlock := by
  obtain ⟨hb, hg⟩ := h
  exact Kd.R_ne ho hb ht
theorem IsS88.lt {w0 W : World} {g : Nat} {f0 : ByteArray} {f1 : Int} (h : IsS88 w0 W g f0 f1) : g < W.heap.size := by
  obtain ⟨hb, hg⟩ := h
  exact blk_lt hb
theorem IsS88.ge {w0 W : World} {g : Nat} {f0 : ByteArray} {f1 : Int} (h : IsS88 w0 W g f0 f1) : w0.heap.size ≤ g := by
  obtain ⟨hb, hg⟩ := h
  exact hg
theorem IsS88.ne_blk {w0 W : World} {g : Nat} {f0 : ByteArray} {f1 : Int} {a : Nat} {cs : Array Value} {t : TypeId} {fr : Nat × Nat} (h : IsS88 w0 W g f0 f1) (hb2 : W.heap[a]? = some (.cells cs t fr)) (ht : t ≠ 88) : g ≠ a := by
  obtain ⟨hb, hg⟩ := h
  rintro rfl
  rw [hb] at hb2
  injection hb2 with hb2
  injection hb2 with _ ht2
  exact ht ht2.symm
theorem IsS88.far {w0 W : World} {g : Nat} {f0 : ByteArray} {f1 : Int} {p : Addr} (h : IsS88 w0 W g f0 f1) (hne : g ≠ p.block) (u : Value) : IsS88 w0 (W.setCell p u) g f0 f1 := by
  obtain ⟨hb, hg⟩ := h
  exact ⟨blk_far hb hne u, hg⟩
theorem cellS88_0 {W : World} {g : Nat} {f0 : ByteArray} {f1 : Int} (h : W.heap[g]? = some (.cells #[.string f0, .int .i64 f1] 88 (0, 0))) : W.cell? ⟨g, 0, none⟩ = some (.string f0) := (blk_cell h 0).trans rfl
theorem IsS88.set_0 {w0 W : World} {g : Nat} {f0 : ByteArray} {f1 : Int} (h : IsS88 w0 W g f0 f1) (x : ByteArray) : IsS88 w0 (W.setCell ⟨g, 0, none⟩ (.string x)) g x f1 := by
  obtain ⟨hb, hg⟩ := h
  exact ⟨by simpa using blk_set hb 0 (.string x), hg⟩
theorem cellS88_1 {W : World} {g : Nat} {f0 : ByteArray} {f1 : Int} (h : W.heap[g]? = some (.cells #[.string f0, .int .i64 f1] 88 (0, 0))) : W.cell? ⟨g, 1, none⟩ = some (.int .i64 f1) := (blk_cell h 1).trans rfl
theorem IsS88.set_1 {w0 W : World} {g : Nat} {f0 : ByteArray} {f1 : Int} (h : IsS88 w0 W g f0 f1) (x : Int) : IsS88 w0 (W.setCell ⟨g, 1, none⟩ (.int .i64 x)) g f0 x := by
  obtain ⟨hb, hg⟩ := h
  exact ⟨by simpa using blk_set hb 1 (.int .i64 x), hg⟩
theorem IsS88.new (w0 W : World) (f0 : ByteArray) (f1 : Int) (hB : Below w0.heap.size w0 W) : IsS88 w0 (W.alloc (.cells #[.string f0, .int .i64 f1] 88)) W.heap.size f0 f1 := ⟨by simpa using heap_alloc_new W _, hB.size⟩

def scan_cutter_upto.f (s0_0 : ByteArray) (s0_1 : Int) (a1 : Int) : Option (ByteArray × Bool × ByteArray × Int) :=
  if 0 ≤ s0_1 ∧ s0_1 ≤ s0_0.size ∧ s0_0.size ≤ 9223372036854775000 then
    (strings_Cut.f (s0_0.extract s0_1.toNat s0_0.size) (strOfNums [a1])).bind fun r =>
    some (r.1, r.2.2, s0_0, if r.2.2 then s0_1 + (r.1.size + 1) else s0_1) else none
theorem C_byte (w : World) (a : Int) : (Kd.int .u8).C (w.alloc (.cells #[.int .u8 a] 5)).drew (some ⟨w.heap.size, 0, none⟩) 1 [a] :=
  Kd.C_of_reads (d := 0) ⟨rfl, by decide, fun _ => ⟨_, rfl, fun j hj => by
    have : j = 0 := by omega
    subst this
    exact (blk_cell (blk_new w (.cells #[.int .u8 a] 5)) 0).trans rfl⟩⟩
theorem cut_size {s t x1 x2 : ByteArray} {x3 : Bool} (h : strings_Cut.f s t = some (x1, x2, x3)) : x1.size ≤ s.size ∧ (x3 = true → x1.size + 1 ≤ s.size) := by
  unfold strings_Cut.f at h
  split at h
  case isFalse => cases h
  split at h
  case h_2 => cases h
  rename_i c hc
  have hl := indexByte_lt s.data.toList c
  have hl2 : s.data.toList.length = s.size := by simp
  rw [hl2] at hl
  generalize Lib.indexByte s.data.toList c = i at h hl
  have h := Option.some.inj h
  unfold cutAt at h
  split at h
  · injection h with e1 e2
    injection e2 with e2 e3
    subst e1
    rw [ByteArray.size_extract]
    constructor <;> intros <;> omega
  · injection h with e1 e2
    injection e2 with e2 e3
    subst e1 e3
    exact ⟨Nat.le_refl _, fun h => by cases h⟩
set_option maxHeartbeats 4000000 in
theorem scan_cutter_upto.calls (g : Nat) (s0_0 : ByteArray) (s0_1 : Int) (a1 : Int) (r1 : ByteArray) (r2 : Bool) (r3 : ByteArray) (r4 : Int) (w0 w : World) (hI : IsS88 w0 w g s0_0 s0_1) (hB : Below w0.heap.size w0 w) (h : scan_cutter_upto.f s0_0 s0_1 a1 = some (r1, r2, r3, r4)) :
    Calls Try.prog 58 #[.pointer (some ⟨g, 0, none⟩), .int .u8 a1] w fun e w' => e = .returned (.tuple #[.string r1, .bool r2]) ∧ IsS88 w0 w' g r3 r4 ∧ Below w0.heap.size w0 w' ∧ KeepBut w w' g none := by
  unfold scan_cutter_upto.f at h
  split at h
  case isFalse => cases h
  rename_i hc
  obtain ⟨h0, h1, h2⟩ := hc
  cases hx : strings_Cut.f (s0_0.extract s0_1.toNat s0_0.size) (strOfNums [a1]) with
  | none => rw [hx] at h; cases h
  | some x =>
  obtain ⟨x1, x2, x3⟩ := x
  have hz := cut_size hx
  rw [ByteArray.size_extract] at hz
  have HX := Aside0.mk hx
  rw [hx] at h
  simp only [Option.bind_some, Option.some.injEq, Prod.mk.injEq] at h
  obtain ⟨rfl, rfl, rfl, rfl⟩ := h
  obtain ⟨hz1, hz2⟩ := hz
  have hz3 : (x1.size : Int) + s0_1 ≤ s0_0.size := by omega
  have HZ := Aside0.mk hz2
  clear hx hz1 hz2
  have HD := Aside0.mk hI.1
  have hge := hI.2
  clear hI
  have q1 : (0 ≤ s0_1) = True := eq_true h0
  have q2 : (s0_1 ≤ (s0_0.size : Int)) = True := eq_true h1
  go_enter Try.func58, Try.ntmps58
  go_wp2_with fail
  refine start_ (n := 20) (S := fun w' => w'.cell? ⟨g, 0, none⟩ = some (.string s0_0) ∧ w'.cell? ⟨g, 1, none⟩ = some (.int .i64 s0_1)) (ds := []) #[false, false, false, false, false, false, false, false, false, false, false, false, false, false, false, false, false, false, false, false] (by kernel_rfl) rfl rfl (⟨(blk_cell HD.out 0).trans rfl, (blk_cell HD.out 1).trans rfl⟩) (fun hHeld => ?_)
  refine with_tab (rfl : rtab .any (opsOf Try.f58 1) = rtab .any (opsOf Try.f58 1)) (fun HT_ => ?_)
  refine pure_ (i := 0) (N := some 10) (v := ?_) (a' := ?_) #[true, false, false, false, false, false, false, false, false, false, false, false, false, false, false, false, false, false, false, false] rfl rfl (any_of HT_.out (by kernel_rfl)) (fun _ _ _ h => h) (Or.inl ⟨by rfl, ?_⟩) ?_ ?_
  rotate_left
  · intro w'
    go_simp
    with_reducible rfl
  rotate_left
  · simp only [Act.put, List.setIfInBounds_toArray, List.set_cons_zero, List.set_cons_succ, i64_w, i32_w]
    rfl
  refine pure_ (i := 1) (N := some 11) (v := ?_) (a' := ?_) #[true, true, false, false, false, false, false, false, false, false, false, false, false, false, false, false, false, false, false, false] rfl rfl (any_of HT_.out (by kernel_rfl)) (fun _ _ _ h => h) (Or.inl ⟨by rfl, ?_⟩) ?_ ?_
  rotate_left
  · intro w'
    go_simp
    with_reducible rfl
  rotate_left
  · simp only [Act.put, List.setIfInBounds_toArray, List.set_cons_zero, List.set_cons_succ, i64_w, i32_w]
    rfl
  refine pure_ (i := 2) (N := some 12) (v := ?_) (a' := ?_) #[true, true, true, false, false, false, false, false, false, false, false, false, false, false, false, false, false, false, false, false] rfl rfl (any_of HT_.out (by kernel_rfl)) (fun _ _ _ h => h) (Or.inl ⟨by rfl, ?_⟩) ?_ ?_
  rotate_left
  · intro w'
    go_simp
    with_reducible rfl
  rotate_left
  · simp only [Act.put, List.setIfInBounds_toArray, List.set_cons_zero, List.set_cons_succ, i64_w, i32_w]
    rfl
  refine pure_ (i := 4) (N := some 14) (v := ?_) (a' := ?_) #[true, true, true, false, true, false, false, false, false, false, false, false, false, false, false, false, false, false, false, false] rfl rfl (any_of HT_.out (by kernel_rfl)) (fun _ _ _ h => h) (Or.inl ⟨by rfl, ?_⟩) ?_ ?_
  rotate_left
  · intro w'
    go_simp
    with_reducible rfl
  rotate_left
  · simp only [Act.put, List.setIfInBounds_toArray, List.set_cons_zero, List.set_cons_succ, i64_w, i32_w]
    rfl
  refine pure_ (i := 5) (N := some 15) (v := ?_) (a' := ?_) #[true, true, true, false, true, true, false, false, false, false, false, false, false, false, false, false, false, false, false, false] rfl rfl (any_of HT_.out (by kernel_rfl)) (fun _ _ _ h => h) (Or.inl ⟨by rfl, ?_⟩) ?_ ?_
  rotate_left
  · intro w'
    go_simp
    with_reducible rfl
  rotate_left
  · simp only [Act.put, List.setIfInBounds_toArray, List.set_cons_zero, List.set_cons_succ, i64_w, i32_w]
    rfl
  refine pure_ (i := 6) (N := some 16) (v := ?_) (a' := ?_) #[true, true, true, false, true, true, true, false, false, false, false, false, false, false, false, false, false, false, false, false] rfl rfl (any_of HT_.out (by kernel_rfl)) (fun _ _ _ h => h) (Or.inl ⟨by rfl, ?_⟩) ?_ ?_
  rotate_left
  · intro w'
    go_simp
    with_reducible rfl
  rotate_left
  · simp only [Act.put, List.setIfInBounds_toArray, List.set_cons_zero, List.set_cons_succ, i64_w, i32_w]
    rfl
  refine pure_ (i := 9) (N := some 19) (v := ?_) (a' := ?_) #[true, true, true, false, true, true, true, false, false, true, false, false, false, false, false, false, false, false, false, false] rfl rfl (any_of HT_.out (by kernel_rfl)) (fun _ _ _ h => h) (Or.inl ⟨by rfl, ?_⟩) ?_ ?_
  rotate_left
  · intro w'
    go_simp
    with_reducible rfl
  rotate_left
  · simp only [Act.put, List.setIfInBounds_toArray, List.set_cons_zero, List.set_cons_succ, i64_w, i32_w]
    rfl
  refine take_ (i := 3) (N := some 13) (v := ?_) (a' := ?_) #[true, true, true, true, true, true, true, false, false, true, false, false, false, false, false, false, false, false, false, false] rfl rfl (take_of HT_.out (by kernel_rfl)) (fun _ _ _ h => h) (Or.inl ⟨by rfl, ?_⟩) hHeld ?_ ?_
  rotate_left
  · rintro w' hS; go_split_ands
    go_simp
    with_reducible rfl
  rotate_left
  · simp only [Act.put, List.setIfInBounds_toArray, List.set_cons_zero, List.set_cons_succ, i64_w, i32_w]
    rfl
  refine take_ (i := 7) (N := some 17) (v := ?_) (a' := ?_) #[true, true, true, true, true, true, true, true, false, true, false, false, false, false, false, false, false, false, false, false] rfl rfl (take_of HT_.out (by kernel_rfl)) (fun _ _ _ h => h) (Or.inl ⟨by rfl, ?_⟩) hHeld ?_ ?_
  rotate_left
  · rintro w' hS; go_split_ands
    go_simp
    with_reducible rfl
  rotate_left
  · simp only [Act.put, List.setIfInBounds_toArray, List.set_cons_zero, List.set_cons_succ, i64_w, i32_w]
    rfl
  refine pure_ (i := 8) (N := some 18) (v := ?_) (a' := ?_) #[true, true, true, true, true, true, true, true, true, true, false, false, false, false, false, false, false, false, false, false] rfl rfl (any_of HT_.out (by kernel_rfl)) (fun _ _ _ h => h) (Or.inl ⟨by rfl, ?_⟩) ?_ ?_
  rotate_left
  · intro w'
    go_simp
    with_reducible rfl
  rotate_left
  · simp only [Act.put, List.setIfInBounds_toArray, List.set_cons_zero, List.set_cons_succ, i64_w, i32_w]
    rfl
  refine one_ (i := 10) (N := some 20) #[true, true, true, true, true, true, true, true, true, true, true, false, false, false, false, false, false, false, false, false] rfl rfl (one_of HT_.out (by kernel_rfl)) (by decide) (fun K hK => ?_)
  refine value_ (w1 := ?_) (v := ?_) (by rfl) rfl ?_ ?_
  rotate_left 2
  · go_simp
    constructor
    · rfl
    · rfl
  have HD2 := Aside0.mk (blk_alloc HD.out (.cells #[.int .u8 a1] 5))
  clear HD
  have HD := HD2
  clear HD2
  refine hK.out _ _ (⟨(blk_cell HD.out 0).trans rfl, (blk_cell HD.out 1).trans rfl⟩) (fun hHeld => ?_)
  clear hK K
  refine norm_ (a' := ?_) ?_ ?_
  rotate_left
  · show Act.put _ (some 20) _ = _
    simp only [Act.put, List.setIfInBounds_toArray, List.set_cons_zero, List.set_cons_succ, i64_w, i32_w]
    rfl
  refine one_ (i := 11) (N := some 21) #[true, true, true, true, true, true, true, true, true, true, true, true, false, false, false, false, false, false, false, false] rfl rfl (one_of HT_.out (by kernel_rfl)) (by decide) (fun K hK => ?_)
  have hcv := Kd.C_string (P := Try.prog) (src := 29) (dst := 9) (c := 1) Try.underlying29 Try.underlying5 Try.underlying9 (C_byte w a1)
  refine value_ (w1 := ?_) (v := ?_) (by rfl) rfl ?_ ?_
  rotate_left 2
  · go_simp
    constructor
    · rfl
    · rfl
  clear hcv
  refine hK.out _ _ (⟨(blk_cell HD.out 0).trans rfl, (blk_cell HD.out 1).trans rfl⟩) (fun hHeld => ?_)
  clear hK K
  refine norm_ (a' := ?_) ?_ ?_
  rotate_left
  · show Act.put _ (some 21) _ = _
    simp only [Act.put, List.setIfInBounds_toArray, List.set_cons_zero, List.set_cons_succ, i64_w, i32_w]
    rfl
  refine one_ (i := 12) (N := some 22) #[true, true, true, true, true, true, true, true, true, true, true, true, true, false, false, false, false, false, false, false] rfl rfl (one_of HT_.out (by kernel_rfl)) (by decide) (fun K hK => ?_)
  refine goes_ Try.func84 (by kernel_rfl) rfl #[.string (s0_0.extract s0_1.toNat s0_0.size), .string (strOfNums [a1])] (by rfl) rfl rfl (by simp only [List.map_toArray, List.map_cons, List.map_nil]; rfl) ?_
  with_reducible refine (strings_Cut.calls _ _ x1 x2 x3 _ HX.out).mono ?_
  rintro e w3 ⟨rfl, ⟨⟨n, rfl⟩⟩⟩
  refine ⟨_, rfl, ?_⟩
  refine hK.out _ _ (⟨(blk_cell HD.out 0).trans rfl, (blk_cell HD.out 1).trans rfl⟩) (fun hHeld => ?_)
  clear hK K
  refine norm_ (a' := ?_) ?_ ?_
  rotate_left
  · show Act.put _ (some 22) _ = _
    simp only [Act.put, List.setIfInBounds_toArray, List.set_cons_zero, List.set_cons_succ, i64_w, i32_w]
    rfl
  refine pure_ (i := 13) (N := some 9) (v := ?_) (a' := ?_) #[true, true, true, true, true, true, true, true, true, true, true, true, true, true, false, false, false, false, false, false] rfl rfl (any_of HT_.out (by kernel_rfl)) (fun _ _ _ h => h) (Or.inl ⟨by rfl, ?_⟩) ?_ ?_
  rotate_left
  · intro w'
    go_simp
    with_reducible rfl
  rotate_left
  · simp only [Act.put, List.setIfInBounds_toArray, List.set_cons_zero, List.set_cons_succ, i64_w, i32_w]
    rfl
  refine pure_ (i := 14) (N := some 23) (v := ?_) (a' := ?_) #[true, true, true, true, true, true, true, true, true, true, true, true, true, true, true, false, false, false, false, false] rfl rfl (any_of HT_.out (by kernel_rfl)) (fun _ _ _ h => h) (Or.inl ⟨by rfl, ?_⟩) ?_ ?_
  rotate_left
  · intro w'
    go_simp
    with_reducible rfl
  rotate_left
  · simp only [Act.put, List.setIfInBounds_toArray, List.set_cons_zero, List.set_cons_succ, i64_w, i32_w]
    rfl
  refine pure_ (i := 15) (N := some 24) (v := ?_) (a' := ?_) #[true, true, true, true, true, true, true, true, true, true, true, true, true, true, true, true, false, false, false, false] rfl rfl (any_of HT_.out (by kernel_rfl)) (fun _ _ _ h => h) (Or.inl ⟨by rfl, ?_⟩) ?_ ?_
  rotate_left
  · intro w'
    go_simp
    with_reducible rfl
  rotate_left
  · simp only [Act.put, List.setIfInBounds_toArray, List.set_cons_zero, List.set_cons_succ, i64_w, i32_w]
    rfl
  refine pure_ (i := 16) (N := some 25) (v := ?_) (a' := ?_) #[true, true, true, true, true, true, true, true, true, true, true, true, true, true, true, true, true, false, false, false] rfl rfl (any_of HT_.out (by kernel_rfl)) (fun _ _ _ h => h) (Or.inl ⟨by rfl, ?_⟩) ?_ ?_
  rotate_left
  · intro w'
    go_simp
    with_reducible rfl
  rotate_left
  · simp only [Act.put, List.setIfInBounds_toArray, List.set_cons_zero, List.set_cons_succ, i64_w, i32_w]
    rfl
  refine pure_ (i := 17) (N := some 6) (v := ?_) (a' := ?_) #[true, true, true, true, true, true, true, true, true, true, true, true, true, true, true, true, true, true, false, false] rfl rfl (any_of HT_.out (by kernel_rfl)) (fun _ _ _ h => h) (Or.inl ⟨by rfl, ?_⟩) ?_ ?_
  rotate_left
  · intro w'
    go_simp
    with_reducible rfl
  rotate_left
  · simp only [Act.put, List.setIfInBounds_toArray, List.set_cons_zero, List.set_cons_succ, i64_w, i32_w]
    rfl
  refine pure_ (i := 18) (N := some 7) (v := ?_) (a' := ?_) #[true, true, true, true, true, true, true, true, true, true, true, true, true, true, true, true, true, true, true, false] rfl rfl (any_of HT_.out (by kernel_rfl)) (fun _ _ _ h => h) (Or.inl ⟨by rfl, ?_⟩) ?_ ?_
  rotate_left
  · intro w'
    go_simp
    with_reducible rfl
  rotate_left
  · simp only [Act.put, List.setIfInBounds_toArray, List.set_cons_zero, List.set_cons_succ, i64_w, i32_w]
    rfl
  refine pure_ (i := 19) (N := some 8) (v := ?_) (a' := ?_) #[true, true, true, true, true, true, true, true, true, true, true, true, true, true, true, true, true, true, true, true] rfl rfl (any_of HT_.out (by kernel_rfl)) (fun _ _ _ h => h) (Or.inl ⟨by rfl, ?_⟩) ?_ ?_
  rotate_left
  · intro w'
    go_simp
    with_reducible rfl
  rotate_left
  · simp only [Act.put, List.setIfInBounds_toArray, List.set_cons_zero, List.set_cons_succ, i64_w, i32_w]
    rfl
  refine done_ (done_of HT_.out (by kernel_rfl)) ?_
  have HD2 := Aside0.mk (show ((w.alloc (Obj.cells #[Value.int IntKind.u8 a1] 5)).drew.drewN n).heap[g]? = some (.cells #[.string s0_0, .int .i64 s0_1] 88 (0, 0)) from HD.out)
  have HB := Aside0.mk (show Below w0.heap.size w0 ((w.alloc (Obj.cells #[Value.int IntKind.u8 a1] 5)).drew.drewN n) from pw_below_drewN (below_drew1 (below_alloc hB _)) n)
  have HK := Aside0.mk (show KeepBut w ((w.alloc (Obj.cells #[Value.int IntKind.u8 a1] 5)).drew.drewN n) g none from keep_drewN (keep_drew (keep_alloc (KeepBut.refl w g none) _)) n)
  clear hHeld HD hB
  generalize ((w.alloc (Obj.cells #[Value.int IntKind.u8 a1] 5)).drew.drewN n) = w9 at HD2 HB HK ⊢
  have hb0 : w9.cell? ⟨g, 1, none⟩ = some (.int .i64 s0_1) := (blk_cell HD2.out 1).trans rfl
  have hf0 : w9.frozen? ⟨g, 1, none⟩ = false := blk_frozen HD2.out 1
  cases x3 with
  | false =>
    go_wp2_with fail
    refine bodyPost_ret (v := .tuple #[.string x1, .bool false]) (by simp [results, Try.results58, go_sem]) rfl ⟨rfl, ⟨HD2.out, hge⟩, HB.out, HK.out⟩
  | true =>
    have hz4 : (x1.size : Int) + 1 + s0_1 ≤ s0_0.size := by have := HZ.out rfl; omega
    go_wp2_with fail
    refine bodyPost_ret (v := .tuple #[.string x1, .bool true]) (by simp [results, Try.results58, go_sem]) rfl ⟨rfl, ⟨blk_put HD2.out 1 _ rfl, hge⟩, ?_, ?_⟩
    · exact below_set HB.out hge
    · exact KeepBut.set_ HK.out _ _
end Go.Proofs.Ytehmhgpogpbjiaa
