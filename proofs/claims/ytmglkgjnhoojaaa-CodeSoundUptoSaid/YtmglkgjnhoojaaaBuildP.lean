/- Deeds, one behind the other (the plain form), and how great a draft grows by them. -/
import Derived.Test.YtmglkgjnhoojaaaAlive
namespace Go.Proofs.Ytmglkgjnhoojaaa.PCodeRows
open Go.RowKit Go.Proofs.YtmglkgjnhoojaaaW.PrintWords Go.Proofs.YtmglkgjnhoojaaaW.PrintLast Go.Proofs.YtmglkgjnhoojaaaW.PrintMore
set_option linter.unusedVariables false
set_option linter.unusedSimpArgs false
def zdr : Dr := ⟨[], [], [], [], []⟩
def actR (d : Dr) (a : Int) : Dr ⊕ Int := if formedP d.code d.origs d.dests d.loops d.cases = true then actP d a else .inr 1
def putR (d : Dr) (k n : Int) : Dr ⊕ Int := if formedP d.code d.origs d.dests d.loops d.cases = true then putP d k n else .inr 1
def stepP (d : Dr) (x : S48) : Dr ⊕ Int := if x.f0 = 0 then putR d x.f1.f0 x.f1.f1 else actR d x.f0
def buildP : Dr → List S48 → Nat → Dr × Nat × Int
  | d, [], i => (d, i, 0)
  | d, x :: r, i => match stepP d x with
    | .inl d' => buildP d' r (i + 1)
    | .inr c => (d, i, c)
/-- The draft and the error that Go answers. -/
def outP : Dr ⊕ Int → Dr × Int
  | .inl d => (d, 0)
  | .inr c => (zdr, c)
theorem layP_inl {code : List S37} {k n : Int} {f : List S37 → Dr} {d : Dr} (h : layP code k n f = .inl d) : code.length < 256 ∧ d = f (code ++ [⟨k, n % 4294967296⟩]) := by
  unfold layP at h
  split at h
  · injection h with h; exact ⟨by assumption, h.symm⟩
  · cases h
theorem popP_inl {α : Type} {l : List α} {f : List α → α → Dr ⊕ Int} {d : Dr} (h : popP l f = .inl d) : ∃ xs x, l = xs ++ [x] ∧ f xs x = .inl d := by
  rcases List.eq_nil_or_concat l with rfl | ⟨xs, x, rfl⟩
  · cases h
  · rw [List.concat_eq_append] at h ⊢
    rw [popP_snoc] at h
    exact ⟨xs, x, rfl, h⟩
theorem act_split {a : Int} (h : ¬ (a < 1 ∨ 15 < a)) : a = 1 ∨ a = 2 ∨ a = 3 ∨ a = 4 ∨ a = 5 ∨ a = 6 ∨ a = 7 ∨ a = 8 ∨ a = 9 ∨ a = 10 ∨ a = 11 ∨ a = 12 ∨ a = 13 ∨ a = 14 ∨ a = 15 := by omega
/-- An act's draft, told: one of fifteen. -/
inductive Acted (d : Dr) : Int → Dr → Prop where
  | a1 (h : d.code.length < 256) : Acted d 1 ⟨d.code ++ [⟨4, 0⟩], d.origs ++ [(d.code.length : Int)], d.dests, d.loops, d.cases⟩
  | a2 (xs : List Int) (x : Int) (e : d.origs = xs ++ [x]) (h : d.code.length < 256) : Acted d 2 ⟨d.code ++ [⟨3, 0⟩], xs ++ [(d.code.length : Int), x], d.dests, d.loops, d.cases⟩
  | a3 (xs : List Int) (x : Int) (e : d.origs = xs ++ [x]) : Acted d 3 ⟨aimed d.code.length d.code [x], xs, d.dests, d.loops, d.cases⟩
  | a4 : Acted d 4 ⟨d.code, d.origs, d.dests ++ [(d.code.length : Int)], d.loops, d.cases⟩
  | a5 (xs : List Int) (x : Int) (e : d.dests = xs ++ [x]) (h : d.code.length < 256) : Acted d 5 ⟨d.code ++ [⟨3, x % 4294967296⟩], d.origs, xs, d.loops, d.cases⟩
  | a6 (xs : List Int) (x : Int) (e : d.dests = xs ++ [x]) (h : d.code.length < 256) : Acted d 6 ⟨d.code ++ [⟨4, x % 4294967296⟩], d.origs, xs, d.loops, d.cases⟩
  | a7 (h : d.code.length < 256) : Acted d 7 ⟨d.code ++ [⟨5, 0⟩], d.origs, d.dests, d.loops ++ [⟨(d.code.length : Int), []⟩], d.cases⟩
  | a8 (h : d.code.length < 256) : Acted d 8 ⟨d.code ++ [⟨6, 0⟩], d.origs, d.dests, d.loops ++ [⟨(d.code.length : Int), []⟩], d.cases⟩
  | a9 (ls : List S59) (x : S59) (e : d.loops = ls ++ [x]) (h : d.code.length < 256) : Acted d 9 ⟨aimed (d.code.length + 1 : Nat) (d.code ++ [⟨7, (x.f0 + 1) % 4294967296⟩]) (x.f1 ++ [x.f0]), d.origs, d.dests, ls, d.cases⟩
  | a10 (ls : List S59) (x : S59) (e : d.loops = ls ++ [x]) (h : d.code.length < 256) : Acted d 10 ⟨aimed (d.code.length + 1 : Nat) (d.code ++ [⟨8, (x.f0 + 1) % 4294967296⟩]) (x.f1 ++ [x.f0]), d.origs, d.dests, ls, d.cases⟩
  | a11 (ls : List S59) (x : S59) (e : d.loops = ls ++ [x]) (h : d.code.length < 256) : Acted d 11 ⟨d.code ++ [⟨9, 0⟩], d.origs, d.dests, ls ++ [⟨x.f0, x.f1 ++ [(d.code.length : Int)]⟩], d.cases⟩
  | a12 : Acted d 12 ⟨d.code, d.origs, d.dests, d.loops, d.cases ++ [⟨-1, []⟩]⟩
  | a13 (ls : List S59) (x : S59) (e : d.cases = ls ++ [x]) (hx : x.f0 = -1) (h : d.code.length < 256) : Acted d 13 ⟨d.code ++ [⟨10, 0⟩], d.origs, d.dests, d.loops, ls ++ [⟨(d.code.length : Int), x.f1⟩]⟩
  | a14 (ls : List S59) (x : S59) (e : d.cases = ls ++ [x]) (hx : x.f0 ≠ -1) (h : d.code.length < 256) : Acted d 14 ⟨aimed (d.code.length + 1 : Nat) (d.code ++ [⟨3, 0⟩]) [x.f0], d.origs, d.dests, d.loops, ls ++ [⟨-1, x.f1 ++ [(d.code.length : Int)]⟩]⟩
  | a15 (ls : List S59) (x : S59) (e : d.cases = ls ++ [x]) (hx : x.f0 = -1) (h : d.code.length < 256) : Acted d 15 ⟨aimed (d.code.length + 1 : Nat) (d.code ++ [⟨11, 0⟩]) x.f1, d.origs, d.dests, d.loops, ls⟩
theorem len_snoc {α : Type} (l : List α) (x : α) : ((l ++ [x]).length : Int) = ((l.length + 1 : Nat) : Int) := by simp
theorem acted {d d' : Dr} {a : Int} (h : actP d a = .inl d') : Acted d a d' := by
  by_cases h0 : a < 1 ∨ 15 < a
  · rw [actP_none h0] at h; cases h
  rcases act_split h0 with rfl | rfl | rfl | rfl | rfl | rfl | rfl | rfl | rfl | rfl | rfl | rfl | rfl | rfl | rfl <;> clear h0
  · obtain ⟨hl, rfl⟩ := layP_inl (show layP _ _ _ _ = _ by simpa [actP] using h); exact .a1 hl
  · obtain ⟨xs, x, e, h⟩ := popP_inl (show popP _ _ = _ by simpa [actP] using h); obtain ⟨hl, rfl⟩ := layP_inl h; exact .a2 xs x e hl
  · obtain ⟨xs, x, e, h⟩ := popP_inl (show popP _ _ = _ by simpa [actP] using h); injection h with h; subst h; exact .a3 xs x e
  · simp [actP] at h; subst h; exact .a4
  · obtain ⟨xs, x, e, h⟩ := popP_inl (show popP _ _ = _ by simpa [actP] using h); obtain ⟨hl, rfl⟩ := layP_inl h; exact .a5 xs x e hl
  · obtain ⟨xs, x, e, h⟩ := popP_inl (show popP _ _ = _ by simpa [actP] using h); obtain ⟨hl, rfl⟩ := layP_inl h; exact .a6 xs x e hl
  · obtain ⟨hl, rfl⟩ := layP_inl (show layP _ _ _ _ = _ by simpa [actP] using h); exact .a7 hl
  · obtain ⟨hl, rfl⟩ := layP_inl (show layP _ _ _ _ = _ by simpa [actP] using h); exact .a8 hl
  · obtain ⟨xs, x, e, h⟩ := popP_inl (show popP _ _ = _ by simpa [actP] using h); obtain ⟨hl, rfl⟩ := layP_inl h; simp only [len_snoc]; exact .a9 xs x e hl
  · obtain ⟨xs, x, e, h⟩ := popP_inl (show popP _ _ = _ by simpa [actP] using h); obtain ⟨hl, rfl⟩ := layP_inl h; simp only [len_snoc]; exact .a10 xs x e hl
  · obtain ⟨xs, x, e, h⟩ := popP_inl (show popP _ _ = _ by simpa [actP] using h); obtain ⟨hl, rfl⟩ := layP_inl h; exact .a11 xs x e hl
  · simp [actP] at h; subst h; exact .a12
  · obtain ⟨xs, x, e, h⟩ := popP_inl (show popP _ _ = _ by simpa [actP] using h)
    split at h
    · obtain ⟨hl, rfl⟩ := layP_inl h; exact .a13 xs x e (by assumption) hl
    · cases h
  · obtain ⟨xs, x, e, h⟩ := popP_inl (show popP _ _ = _ by simpa [actP] using h)
    split at h
    · cases h
    · obtain ⟨hl, rfl⟩ := layP_inl h; simp only [len_snoc]; exact .a14 xs x e (by assumption) hl
  · obtain ⟨xs, x, e, h⟩ := popP_inl (show popP _ _ = _ by simpa [actP] using h)
    split at h
    · obtain ⟨hl, rfl⟩ := layP_inl h; simp only [len_snoc]; exact .a15 xs x e (by assumption) hl
    · cases h
/-- How great the rows of a draft are, at most. -/
structure Bnd (d : Dr) (N : Nat) : Prop where
  code : d.code.length ≤ N
  origs : d.origs.length ≤ N
  dests : d.dests.length ≤ N
  loops : d.loops.length ≤ N
  cases : d.cases.length ≤ N
  louts : ∀ x ∈ d.loops, x.f1.length ≤ N
  couts : ∀ x ∈ d.cases, x.f1.length ≤ N
theorem Bnd.small {d : Dr} {N : Nat} (h : Bnd d N) (hN : N ≤ 1099511627776) : Small d.code d.origs d.dests d.loops d.cases := small_of hN h.code h.origs h.dests h.loops h.cases h.louts h.couts
theorem Bnd.room {d : Dr} {N : Nat} (h : Bnd d N) (hN : N ≤ 1099511627776) : Room d := room_of (code := d.code) hN h.origs h.dests h.loops h.cases h.louts h.couts
theorem Bnd.act {d d' : Dr} {a : Int} {N : Nat} (h : Bnd d N) (ha : actP d a = .inl d') : Bnd d' (N + 1) := by
  obtain ⟨h0, h1, h2, h3, h4, h5, h6⟩ := h
  have g5 : ∀ x ∈ d.loops, x.f1.length ≤ N + 1 := fun x hx => Nat.le_succ_of_le (h5 x hx)
  have g6 : ∀ x ∈ d.cases, x.f1.length ≤ N + 1 := fun x hx => Nat.le_succ_of_le (h6 x hx)
  cases acted ha
  case a9 ls x e hl =>
    rw [e] at h3 h5
    simp only [List.length_append, List.length_singleton] at h3
    exact ⟨by simp [aimed_len]; omega, by simp; omega, by simp; omega, by simp; omega, by simp; omega, fun y hy => Nat.le_succ_of_le (h5 y (by simp_all)), g6⟩
  case a10 ls x e hl =>
    rw [e] at h3 h5
    simp only [List.length_append, List.length_singleton] at h3
    exact ⟨by simp [aimed_len]; omega, by simp; omega, by simp; omega, by simp; omega, by simp; omega, fun y hy => Nat.le_succ_of_le (h5 y (by simp_all)), g6⟩
  case a11 ls x e hl =>
    rw [e] at h3 h5
    simp only [List.length_append, List.length_singleton] at h3
    refine ⟨by simp; omega, by simp; omega, by simp; omega, by simp; omega, by simp; omega, fun y hy => ?_, g6⟩
    rcases List.mem_append.1 hy with hy | hy
    · exact Nat.le_succ_of_le (h5 y (by simp_all))
    · rw [List.mem_singleton.1 hy]
      have := h5 x (by simp)
      simp; omega
  case a13 ls x e hx hl =>
    rw [e] at h4 h6
    simp only [List.length_append, List.length_singleton] at h4
    refine ⟨by simp; omega, by simp; omega, by simp; omega, by simp; omega, by simp; omega, g5, fun y hy => ?_⟩
    rcases List.mem_append.1 hy with hy | hy
    · exact Nat.le_succ_of_le (h6 y (by simp_all))
    · rw [List.mem_singleton.1 hy]
      have := h6 x (by simp)
      show x.f1.length ≤ N + 1
      omega
  case a14 ls x e hx hl =>
    rw [e] at h4 h6
    simp only [List.length_append, List.length_singleton] at h4
    refine ⟨by simp [aimed_len]; omega, by simp; omega, by simp; omega, by simp; omega, by simp; omega, g5, fun y hy => ?_⟩
    rcases List.mem_append.1 hy with hy | hy
    · exact Nat.le_succ_of_le (h6 y (by simp_all))
    · rw [List.mem_singleton.1 hy]
      have := h6 x (by simp)
      simp; omega
  case a15 ls x e hx hl =>
    rw [e] at h4 h6
    simp only [List.length_append, List.length_singleton] at h4
    exact ⟨by simp [aimed_len]; omega, by simp; omega, by simp; omega, by simp; omega, by simp; omega, g5, fun y hy => Nat.le_succ_of_le (h6 y (by simp_all))⟩
  case a12 =>
    refine ⟨by simp; omega, by simp; omega, by simp; omega, by simp; omega, by simp; omega, g5, fun y hy => ?_⟩
    rcases List.mem_append.1 hy with hy | hy
    · exact g6 y hy
    · rw [List.mem_singleton.1 hy]; simp
  case a7 hl =>
    refine ⟨by simp; omega, by simp; omega, by simp; omega, by simp; omega, by simp; omega, fun y hy => ?_, g6⟩
    rcases List.mem_append.1 hy with hy | hy
    · exact g5 y hy
    · rw [List.mem_singleton.1 hy]; simp
  case a8 hl =>
    refine ⟨by simp; omega, by simp; omega, by simp; omega, by simp; omega, by simp; omega, fun y hy => ?_, g6⟩
    rcases List.mem_append.1 hy with hy | hy
    · exact g5 y hy
    · rw [List.mem_singleton.1 hy]; simp
  case a1 hl => exact ⟨by simp; omega, by simp; omega, by simp; omega, by simp; omega, by simp; omega, g5, g6⟩
  case a4 => exact ⟨by simp; omega, by simp; omega, by simp; omega, by simp; omega, by simp; omega, g5, g6⟩
  case a2 xs x e hl => rw [e] at h1; simp at h1; exact ⟨by simp; omega, by simp; omega, by simp; omega, by simp; omega, by simp; omega, g5, g6⟩
  case a3 xs x e => rw [e] at h1; simp at h1; exact ⟨by simp [aimed_len]; omega, by simp; omega, by simp; omega, by simp; omega, by simp; omega, g5, g6⟩
  case a5 xs x e hl => rw [e] at h2; simp at h2; exact ⟨by simp; omega, by simp; omega, by simp; omega, by simp; omega, by simp; omega, g5, g6⟩
  case a6 xs x e hl => rw [e] at h2; simp at h2; exact ⟨by simp; omega, by simp; omega, by simp; omega, by simp; omega, by simp; omega, g5, g6⟩
theorem Bnd.mono {d : Dr} {N M : Nat} (h : Bnd d N) (hN : N ≤ M) : Bnd d M :=
  ⟨Nat.le_trans h.code hN, Nat.le_trans h.origs hN, Nat.le_trans h.dests hN, Nat.le_trans h.loops hN, Nat.le_trans h.cases hN, fun x hx => Nat.le_trans (h.louts x hx) hN, fun x hx => Nat.le_trans (h.couts x hx) hN⟩
theorem bnd_zdr (N : Nat) : Bnd zdr N := ⟨Nat.zero_le _, Nat.zero_le _, Nat.zero_le _, Nat.zero_le _, Nat.zero_le _, fun x hx => (by cases hx), fun x hx => (by cases hx)⟩
theorem putP_inl {d d' : Dr} {k n : Int} (h : putP d k n = .inl d') : k ∈ ([1, 2, 12, 13] : List Int) ∧ d.code.length < 256 ∧ d' = ⟨d.code ++ [⟨k, n % 4294967296⟩], d.origs, d.dests, d.loops, d.cases⟩ := by
  unfold putP at h
  split at h
  · obtain ⟨hl, rfl⟩ := layP_inl h
    exact ⟨by assumption, hl, rfl⟩
  · cases h
theorem Bnd.put {d d' : Dr} {k n : Int} {N : Nat} (h : Bnd d N) (ha : putP d k n = .inl d') : Bnd d' (N + 1) := by
  obtain ⟨_, _, rfl⟩ := putP_inl ha
  exact ⟨by have := h.code; simp; omega, Nat.le_succ_of_le h.origs, Nat.le_succ_of_le h.dests, Nat.le_succ_of_le h.loops, Nat.le_succ_of_le h.cases, fun x hx => Nat.le_succ_of_le (h.louts x hx), fun x hx => Nat.le_succ_of_le (h.couts x hx)⟩
theorem stepP_inl {d d' : Dr} {x : S48} (h : stepP d x = .inl d') : formedP d.code d.origs d.dests d.loops d.cases = true ∧ ((x.f0 = 0 ∧ putP d x.f1.f0 x.f1.f1 = .inl d') ∨ (x.f0 ≠ 0 ∧ actP d x.f0 = .inl d')) := by
  unfold stepP putR actR at h
  split at h
  · split at h
    · exact ⟨by assumption, .inl ⟨by assumption, h⟩⟩
    · cases h
  · split at h
    · exact ⟨by assumption, .inr ⟨by assumption, h⟩⟩
    · cases h
theorem Bnd.step {d d' : Dr} {x : S48} {N : Nat} (h : Bnd d N) (ha : stepP d x = .inl d') : Bnd d' (N + 1) := by
  rcases (stepP_inl ha).2 with ⟨_, h2⟩ | ⟨_, h2⟩
  · exact h.put h2
  · exact h.act h2
theorem putP_err {d : Dr} {k n c : Int} (h : putP d k n = .inr c) : c ≠ 0 := by
  unfold putP at h
  split at h
  · exact layP_err h
  · injection h with h; omega
theorem stepP_err {d : Dr} {x : S48} {c : Int} (h : stepP d x = .inr c) : c ≠ 0 := by
  unfold stepP putR actR at h
  split at h
  · split at h
    · exact putP_err h
    · injection h with h; omega
  · split at h
    · exact actP_err h
    · injection h with h; omega
end Go.Proofs.Ytmglkgjnhoojaaa.PCodeRows
