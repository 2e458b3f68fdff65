/- What an act does to a draft (the plain form), and the builder's three methods by it. -/
import Derived.Test.YtmglkgjnhoojaaaBrB
import Derived.Test.YtmglkgjnhoojaaaLoop
import Derived.Test.YtmglkgjnhoojaaaCases
import Derived.Test.YtmglkgjnhoojaaaFormed
namespace Go.Proofs.Ytmglkgjnhoojaaa.PCodeRows
open Go.RowKit Go.Proofs.YtmglkgjnhoojaaaW.PrintWords Go.Proofs.YtmglkgjnhoojaaaW.PrintLast Go.Proofs.YtmglkgjnhoojaaaW.PrintMore
set_option linter.unusedVariables false
set_option linter.unusedSimpArgs false
/-- The newest of a list, and the rest. -/
def popP {α : Type} (l : List α) (f : List α → α → Dr ⊕ Int) : Dr ⊕ Int := match l.getLast? with
  | none => .inr 13
  | some x => f l.dropLast x
theorem popP_nil {α : Type} (f : List α → α → Dr ⊕ Int) : popP [] f = .inr 13 := rfl
theorem popP_snoc {α : Type} (xs : List α) (x : α) (f : List α → α → Dr ⊕ Int) : popP (xs ++ [x]) f = f xs x := by simp [popP]
def Dr.ok (d : Dr) : Bool := formedP d.code d.origs d.dests d.loops d.cases
/-- An act on a draft that is formed. -/
def actP (d : Dr) (a : Int) : Dr ⊕ Int :=
  if a = 1 then layP d.code 4 0 fun c => ⟨c, d.origs ++ [(d.code.length : Int)], d.dests, d.loops, d.cases⟩
  else if a = 2 then popP d.origs fun xs x => layP d.code 3 0 fun c => ⟨c, xs ++ [(d.code.length : Int), x], d.dests, d.loops, d.cases⟩
  else if a = 3 then popP d.origs fun xs x => .inl ⟨aimed d.code.length d.code [x], xs, d.dests, d.loops, d.cases⟩
  else if a = 4 then .inl ⟨d.code, d.origs, d.dests ++ [(d.code.length : Int)], d.loops, d.cases⟩
  else if a = 5 then popP d.dests fun xs x => layP d.code 3 x fun c => ⟨c, d.origs, xs, d.loops, d.cases⟩
  else if a = 6 then popP d.dests fun xs x => layP d.code 4 x fun c => ⟨c, d.origs, xs, d.loops, d.cases⟩
  else if a = 7 then layP d.code 5 0 fun c => ⟨c, d.origs, d.dests, d.loops ++ [⟨(d.code.length : Int), []⟩], d.cases⟩
  else if a = 8 then layP d.code 6 0 fun c => ⟨c, d.origs, d.dests, d.loops ++ [⟨(d.code.length : Int), []⟩], d.cases⟩
  else if a = 9 then popP d.loops fun ls x => layP d.code 7 (x.f0 + 1) fun c => ⟨aimed c.length c (x.f1 ++ [x.f0]), d.origs, d.dests, ls, d.cases⟩
  else if a = 10 then popP d.loops fun ls x => layP d.code 8 (x.f0 + 1) fun c => ⟨aimed c.length c (x.f1 ++ [x.f0]), d.origs, d.dests, ls, d.cases⟩
  else if a = 11 then popP d.loops fun ls x => layP d.code 9 0 fun c => ⟨c, d.origs, d.dests, ls ++ [⟨x.f0, x.f1 ++ [(d.code.length : Int)]⟩], d.cases⟩
  else if a = 12 then .inl ⟨d.code, d.origs, d.dests, d.loops, d.cases ++ [⟨-1, []⟩]⟩
  else if a = 13 then popP d.cases fun ls x => if x.f0 = -1 then layP d.code 10 0 fun c => ⟨c, d.origs, d.dests, d.loops, ls ++ [⟨(d.code.length : Int), x.f1⟩]⟩ else .inr 13
  else if a = 14 then popP d.cases fun ls x => if x.f0 = -1 then .inr 13 else layP d.code 3 0 fun c => ⟨aimed c.length c [x.f0], d.origs, d.dests, d.loops, ls ++ [⟨-1, x.f1 ++ [(d.code.length : Int)]⟩]⟩
  else if a = 15 then popP d.cases fun ls x => if x.f0 = -1 then layP d.code 11 0 fun c => ⟨aimed c.length c x.f1, d.origs, d.dests, d.loops, ls⟩ else .inr 13
  else .inr 1
/-- What is so little that no row outgrows the memory. -/
structure Room (d : Dr) : Prop where
  origs : d.origs.length < 4398046511104 - 1
  dests : d.dests.length < 4398046511104 - 1
  loops : d.loops.length < 4398046511104 - 1
  cases : d.cases.length < 4398046511104 - 1
  louts : ∀ x ∈ d.loops, x.f1.length < 4398046511104 - 1
  couts : ∀ x ∈ d.cases, x.f1.length < 4398046511104 - 1
theorem isOf_range {code : List S37} {ks : List Int} {n : Int} (h : isOf code ks n = true) : 0 ≤ n ∧ n < (code.length : Int) := by
  unfold isOf at h
  simp at h
  omega
theorem areP_range {code : List S37} {ks l : List Int} (h : areP code l ks = true) : ∀ x ∈ l, 0 ≤ x ∧ x < (code.length : Int) := fun x hx => by
  unfold areP at h
  exact isOf_range (List.all_eq_true.1 h x hx)
structure Fd (code : List S37) (origs dests : List Int) (loops cases : List S59) : Prop where
  len : code.length ≤ 256
  origs : areP code origs [3, 4] = true
  dests : destsP code dests = true
  loops : ∀ x ∈ loops, isOf code [5, 6] x.f0 = true ∧ areP code x.f1 [9] = true
  cases : ∀ x ∈ cases, (x.f0 = -1 ∨ isOf code [10] x.f0 = true) ∧ areP code x.f1 [3] = true
theorem formed_iff {code : List S37} {origs dests : List Int} {loops cases : List S59} : formedP code origs dests loops cases = true ↔ Fd code origs dests loops cases := by
  constructor
  · intro h
    simp only [formedP, Bool.and_eq_true, decide_eq_true_eq, List.all_eq_true] at h
    obtain ⟨h1, h2, h3, h4, h5⟩ := h
    refine ⟨h1, h2, h3, fun x hx => ?_, fun x hx => ?_⟩
    · have := h4 x hx
      simpa [loopP] using this
    · have := h5 x hx
      simpa [caseP] using this
  · intro h
    simp only [formedP, Bool.and_eq_true, decide_eq_true_eq, List.all_eq_true]
    exact ⟨h.len, h.origs, h.dests, fun x hx => by simpa [loopP] using h.loops x hx, fun x hx => by simpa [caseP] using h.cases x hx⟩
section
variable {w : World} {base bb : Nat} {v0 v1 v2 v3 v4 : Value} {o : Nat → Nat} {code : List S37} {origs dests : List Int} {loops cases : List S59}
theorem branch_act (h : BD w base bb v0 v1 v2 v3 v4 o code origs dests loops cases) (hf : Fd code origs dests loops cases) (hr : Room ⟨code, origs, dests, loops, cases⟩) (a : Int) (h1 : 1 ≤ a) (h6 : a ≤ 6) :
    Calls Try.prog 23 #[.pointer (some ⟨bb, 0, none⟩), .int .i64 a] w (BPost base bb w (actP ⟨code, origs, dests, loops, cases⟩ a)) := by
  have hro : origs.length < 4398046511104 - 1 := hr.origs
  have hrd : dests.length < 4398046511104 - 1 := hr.dests
  have e : a = 1 ∨ a = 2 ∨ a = 3 ∨ a = 4 ∨ a = 5 ∨ a = 6 := by omega
  rcases e with rfl | rfl | rfl | rfl | rfl | rfl
  · exact if_calls h (show origs.length < _ by omega)
  · rcases List.eq_nil_or_concat origs with rfl | ⟨xs, x, rfl⟩
    · exact ahead_empty h
    · have e : actP ⟨code, xs ++ [x], dests, loops, cases⟩ 2 = layP code 3 0 fun c => ⟨c, xs ++ [(code.length : Int), x], dests, loops, cases⟩ := by simp [actP, popP_snoc]
      rw [List.concat_eq_append] at *
      rw [e]
      exact ahead_calls h (by simp at hro; omega)
  · rcases List.eq_nil_or_concat origs with rfl | ⟨xs, x, rfl⟩
    · exact then_empty h
    · rw [List.concat_eq_append] at *
      have e : actP ⟨code, xs ++ [x], dests, loops, cases⟩ 3 = .inl ⟨aimed code.length code [x], xs, dests, loops, cases⟩ := by simp [actP, popP_snoc]
      rw [e]
      exact then_calls h (areP_range hf.origs x (by simp)) hf.len
  · exact begin_calls h (show dests.length < _ by omega)
  · rcases List.eq_nil_or_concat dests with rfl | ⟨xs, x, rfl⟩
    · exact again_empty h
    · rw [List.concat_eq_append] at *
      have e : actP ⟨code, origs, xs ++ [x], loops, cases⟩ 5 = layP code 3 x fun c => ⟨c, origs, xs, loops, cases⟩ := by simp [actP, popP_snoc]
      rw [e]
      exact again_calls h
  · rcases List.eq_nil_or_concat dests with rfl | ⟨xs, x, rfl⟩
    · exact until_empty h
    · rw [List.concat_eq_append] at *
      have e : actP ⟨code, origs, xs ++ [x], loops, cases⟩ 6 = layP code 4 x fun c => ⟨c, origs, xs, loops, cases⟩ := by simp [actP, popP_snoc]
      rw [e]
      exact until_calls h
theorem loop_act (h : BD w base bb v0 v1 v2 v3 v4 o code origs dests loops cases) (hf : Fd code origs dests loops cases) (hr : Room ⟨code, origs, dests, loops, cases⟩) (a : Int) (h1 : 7 ≤ a) (h6 : a ≤ 11) :
    Calls Try.prog 24 #[.pointer (some ⟨bb, 0, none⟩), .int .i64 a] w (BPost base bb w (actP ⟨code, origs, dests, loops, cases⟩ a)) := by
  have hro : loops.length < 4398046511104 - 1 := hr.loops
  have hrd : ∀ x ∈ loops, x.f1.length < 4398046511104 - 1 := hr.louts
  have e : a = 7 ∨ a = 8 ∨ a = 9 ∨ a = 10 ∨ a = 11 := by omega
  rcases e with rfl | rfl | rfl | rfl | rfl
  · exact do_calls h hro
  · exact qdo_calls h hro
  · rcases List.eq_nil_or_concat loops with rfl | ⟨ls, x, rfl⟩
    · exact loop_empty h
    · rw [List.concat_eq_append] at *
      have e : actP ⟨code, origs, dests, ls ++ [x], cases⟩ 9 = layP code 7 (x.f0 + 1) fun c => ⟨aimed c.length c (x.f1 ++ [x.f0]), origs, dests, ls, cases⟩ := by simp [actP, popP_snoc]
      rw [e]
      have hx := hf.loops x (by simp)
      exact loop_calls h (fun y hy => by
        rcases List.mem_append.1 hy with hy | hy
        · exact areP_range hx.2 y hy
        · rw [List.mem_singleton.1 hy]; exact isOf_range hx.1) (by have := hrd x (by simp); omega) hf.len
  · rcases List.eq_nil_or_concat loops with rfl | ⟨ls, x, rfl⟩
    · exact ploop_empty h
    · rw [List.concat_eq_append] at *
      have e : actP ⟨code, origs, dests, ls ++ [x], cases⟩ 10 = layP code 8 (x.f0 + 1) fun c => ⟨aimed c.length c (x.f1 ++ [x.f0]), origs, dests, ls, cases⟩ := by simp [actP, popP_snoc]
      rw [e]
      have hx := hf.loops x (by simp)
      exact ploop_calls h (fun y hy => by
        rcases List.mem_append.1 hy with hy | hy
        · exact areP_range hx.2 y hy
        · rw [List.mem_singleton.1 hy]; exact isOf_range hx.1) (by have := hrd x (by simp); omega) hf.len
  · rcases List.eq_nil_or_concat loops with rfl | ⟨ls, x, rfl⟩
    · exact leave_empty h
    · rw [List.concat_eq_append] at *
      have e : actP ⟨code, origs, dests, ls ++ [x], cases⟩ 11 = layP code 9 0 fun c => ⟨c, origs, dests, ls ++ [⟨x.f0, x.f1 ++ [(code.length : Int)]⟩], cases⟩ := by simp [actP, popP_snoc]
      rw [e]
      exact leave_calls h (by have := hrd x (by simp); omega) (by simp at hro; omega)
theorem cases_act (h : BD w base bb v0 v1 v2 v3 v4 o code origs dests loops cases) (hf : Fd code origs dests loops cases) (hr : Room ⟨code, origs, dests, loops, cases⟩) (a : Int) (h1 : 12 ≤ a) (h6 : a ≤ 15) :
    Calls Try.prog 25 #[.pointer (some ⟨bb, 0, none⟩), .int .i64 a] w (BPost base bb w (actP ⟨code, origs, dests, loops, cases⟩ a)) := by
  have hro : cases.length < 4398046511104 - 1 := hr.cases
  have hrd : ∀ x ∈ cases, x.f1.length < 4398046511104 - 1 := hr.couts
  have e : a = 12 ∨ a = 13 ∨ a = 14 ∨ a = 15 := by omega
  rcases e with rfl | rfl | rfl | rfl
  · exact case_calls h hro
  · rcases List.eq_nil_or_concat cases with rfl | ⟨ls, ⟨x, outs⟩, rfl⟩
    · exact of_empty h
    · rw [List.concat_eq_append] at *
      have e : actP ⟨code, origs, dests, loops, ls ++ [⟨x, outs⟩]⟩ 13 = if x = -1 then layP code 10 0 fun c => ⟨c, origs, dests, loops, ls ++ [⟨(code.length : Int), outs⟩]⟩ else .inr 13 := by simp [actP, popP_snoc]
      rw [e]
      by_cases hx : x = -1
      · rw [if_pos hx]
        subst hx
        exact of_calls h (by simp at hro; omega)
      · rw [if_neg hx]
        exact of_bad h hx
  · rcases List.eq_nil_or_concat cases with rfl | ⟨ls, ⟨x, outs⟩, rfl⟩
    · exact endof_empty h
    · rw [List.concat_eq_append] at *
      have e : actP ⟨code, origs, dests, loops, ls ++ [⟨x, outs⟩]⟩ 14 = if x = -1 then .inr 13 else layP code 3 0 fun c => ⟨aimed c.length c [x], origs, dests, loops, ls ++ [⟨-1, outs ++ [(code.length : Int)]⟩]⟩ := by simp [actP, popP_snoc]
      rw [e]
      by_cases hx : x = -1
      · rw [if_pos hx]
        subst hx
        exact endof_bad h
      · rw [if_neg hx]
        have hx2 := hf.cases ⟨x, outs⟩ (by simp)
        exact endof_calls h hx (isOf_range (hx2.1.resolve_left hx)) hf.len (by have := hrd ⟨x, outs⟩ (by simp); simp at this; omega) (by simp at hro; omega)
  · rcases List.eq_nil_or_concat cases with rfl | ⟨ls, ⟨x, outs⟩, rfl⟩
    · exact endcase_empty h
    · rw [List.concat_eq_append] at *
      have e : actP ⟨code, origs, dests, loops, ls ++ [⟨x, outs⟩]⟩ 15 = if x = -1 then layP code 11 0 fun c => ⟨aimed c.length c outs, origs, dests, loops, ls⟩ else .inr 13 := by simp [actP, popP_snoc]
      rw [e]
      by_cases hx : x = -1
      · rw [if_pos hx]
        subst hx
        have hx2 := hf.cases ⟨-1, outs⟩ (by simp)
        exact endcase_calls h (areP_range hx2.2) hf.len
      · rw [if_neg hx]
        exact endcase_bad h hx
end
end Go.Proofs.Ytmglkgjnhoojaaa.PCodeRows
