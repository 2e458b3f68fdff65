/- What an act does to a draft (the plain form), and the builder's three methods by it. -/
import Derived.Test.YtmglkgjnhoojaaatkB
import Derived.Test.YtmglkgjnhoojaaatkC
import Derived.Test.YtmglkgjnhoojaaatkD
import Derived.Test.YtmglkgjnhoojaaatkA
namespace Go.Proofs.Ytmglkgjnhoojaaa.PCodeRows
open Go.RowKit Go.Proofs.YtmglkgjnhoojaaaW.PrintWords Go.Proofs.YtmglkgjnhoojaaaW.PrintLast Go.Proofs.YtmglkgjnhoojaaaW.PrintMore
set_option linter.unusedVariables false
set_option linter.unusedSimpArgs false
/-- The newest of a list, and the rest. -/
def popP {α : Type} (l : List α) (f : List α → α → Dr ⊕ Int) : Dr ⊕ Int := match l.getLast? with
  | none => .inr 13
  | some x => f l.dropLast x
theorem popP_nil {α : Type} (f : List α → α → Dr ⊕ Int) : popP [] f = .inr 13 := rfl
theorem popP_snoc {α : Type} (xs : List α) (x : α) (f : List α → α → Dr ⊕ Int) : popP (xs ++ [x]) f = f xs x := by simp [popP]
def Dr.ok (d : Dr) : Bool := formedP d.code d.origs d.dests d.loops d.cases
/-- An act on a draft that is formed. -/
def actP (d : Dr) (a : Int) : Dr ⊕ Int :=
  if a = 1 then layP d.code 4 0 fun c => ⟨c, d.origs ++ [(d.code.length : Int)], d.dests, d.loops, d.cases⟩
  else if a = 2 then popP d.origs fun xs x => layP d.code 3 0 fun c => ⟨c, xs ++ [(d.code.length : Int), x], d.dests, d.loops, d.cases⟩
  else if a = 3 then popP d.origs fun xs x => .inl ⟨aimed d.code.length d.code [x], xs, d.dests, d.loops, d.cases⟩
  else if a = 4 then .inl ⟨d.code, d.origs, d.dests ++ [(d.code.length : Int)], d.loops, d.cases⟩
  else if a = 5 then popP d.dests fun xs x => layP d.code 3 x fun c => ⟨c, d.origs, xs, d.loops, d.cases⟩
  else if a = 6 then popP d.dests fun xs x => layP d.code 4 x fun c => ⟨c, d.origs, xs, d.loops, d.cases⟩
  else if a = 7 then layP d.code 5 0 fun c => ⟨c, d.origs, d.dests, d.loops ++ [⟨(d.code.length : Int), []⟩], d.cases⟩
  else if a = 8 then layP d.code 6 0 fun c => ⟨c, d.origs, d.dests, d.loops ++ [⟨(d.code.length : Int), []⟩], d.cases⟩
  else if a = 9 then popP d.loops fun ls x => layP d.code 7 (x.f0 + 1) fun c => ⟨aimed c.length c (x.f1 ++ [x.f0]), d.origs, d.dests, ls, d.cases⟩
  else if a = 10 then popP d.loops fun ls x => layP d.code 8 (x.f0 + 1) fun c => ⟨aimed c.length c (x.f1 ++ [x.f0]), d.origs, d.dests, ls, d.cases⟩
  else if a = 11 then popP d.loops fun ls x => layP d.code 9 0 fun c => ⟨c, d.origs, d.dests, ls ++ [⟨x.f0, x.f1 ++ [(d.code.length : Int)]⟩], d.cases⟩
  else if a = 12 then .inl ⟨d.code, d.origs, d.dests, d.loops, d.cases ++ [⟨-1, []⟩]⟩
  else if a = 13 then popP d.cases fun ls x => if x.f0 = -1 then layP d.code 10 0 fun c => ⟨c, d.origs, d.dests, d.loops, ls ++ [⟨(d.code.length : Int), x.f1⟩]⟩ else .inr 13
  else if a = 14 then popP d.cases fun ls x => if x.f0 = -1 then .inr 13 else layP d.code 3 0 fun c => ⟨aimed c.length c [x.f0], d.origs, d.dests, d.loops, ls ++ [⟨-1, x.f1 ++ [(d.code.length : Int)]⟩]⟩
  else if a = 15 then popP d.cases fun ls x => if x.f0 = -1 then layP d.code 11 0 fun c => ⟨aimed c.length c x.f1, d.origs, d.dests, d.loops, ls⟩ else .inr 13
  else .inr 1
/-- An instruction is put on a draft that is formed. -/
def putP (d : Dr) (k n : Int) : Dr ⊕ Int := if k ∈ ([1, 2, 12, 13] : List Int) then layP d.code k n fun c => ⟨c, d.origs, d.dests, d.loops, d.cases⟩ else .inr 1
/-- What is so little that no row outgrows the memory. -/
structure Room (d : Dr) : Prop where
  origs : d.origs.length < 4398046511104 - 1
  dests : d.dests.length < 4398046511104 - 1
  loops : d.loops.length < 4398046511104 - 1
  cases : d.cases.length < 4398046511104 - 1
  louts : ∀ x ∈ d.loops, x.f1.length < 4398046511104 - 1
  couts : ∀ x ∈ d.cases, x.f1.length < 4398046511104 - 1
theorem isOf_range {code : List S37} {ks : List Int} {n : Int} (h : isOf code ks n = true) : 0 ≤ n ∧ n < (code.length : Int) := by
  unfold isOf at h
  simp at h
  omega
theorem areP_range {code : List S37} {ks l : List Int} (h : areP code l ks = true) : ∀ x ∈ l, 0 ≤ x ∧ x < (code.length : Int) := fun x hx => by
  unfold areP at h
  exact isOf_range (List.all_eq_true.1 h x hx)
structure Fd (code : List S37) (origs dests : List Int) (loops cases : List S59) : Prop where
  len : code.length ≤ 256
  origs : areP code origs [3, 4] = true
  dests : destsP code dests = true
  loops : ∀ x ∈ loops, isOf code [5, 6] x.f0 = true ∧ areP code x.f1 [9] = true
  cases : ∀ x ∈ cases, (x.f0 = -1 ∨ isOf code [10] x.f0 = true) ∧ areP code x.f1 [3] = true
theorem formed_iff {code : List S37} {origs dests : List Int} {loops cases : List S59} : formedP code origs dests loops cases = true ↔ Fd code origs dests loops cases := by
  constructor
  · intro h
    simp only [formedP, Bool.and_eq_true, decide_eq_true_eq, List.all_eq_true] at h
    obtain ⟨h1, h2, h3, h4, h5⟩ := h
    refine ⟨h1, h2, h3, fun x hx => ?_, fun x hx => ?_⟩
    · have := h4 x hx
      simpa [loopP] using this
    · have := h5 x hx
      simpa [caseP] using this
  · intro h
    simp only [formedP, Bool.and_eq_true, decide_eq_true_eq, List.all_eq_true]
    exact ⟨h.len, h.origs, h.dests, fun x hx => by simpa [loopP] using h.loops x hx, fun x hx => by simpa [caseP] using h.cases x hx⟩
section
variable {w : World} {base bb : Nat} {v0 v1 v2 v3 v4 : Value} {o : Nat → Nat} {code : List S37} {origs dests : List Int} {loops cases : List S59}
theorem branch_act (h : BD w base bb v0 v1 v2 v3 v4 o code origs dests loops cases) (hf : Fd code origs dests loops cases) (hr : Room ⟨code, origs, dests, loops, cases⟩) (a : Int) (h1 : 1 ≤ a) (h6 : a ≤ 6) :
    Calls Try.prog 23 #[.pointer (some ⟨bb, 0, none⟩), .int .i64 a] w (BPost base bb w (actP ⟨code, origs, dests, loops, cases⟩ a)) := by
  have hro : origs.length < 4398046511104 - 1 := hr.origs
  have hrd : dests.length < 4398046511104 - 1 := hr.dests
  have e : a = 1 ∨ a = 2 ∨ a = 3 ∨ a = 4 ∨ a = 5 ∨ a = 6 := by omega
  rcases e with rfl | rfl | rfl | rfl | rfl | rfl
  · exact if_calls h (show origs.length < _ by omega)
  · rcases List.eq_nil_or_concat origs with rfl | ⟨xs, x, rfl⟩
    · exact ahead_empty h
    · have e : actP ⟨code, xs ++ [x], dests, loops, cases⟩ 2 = layP code 3 0 fun c => ⟨c, xs ++ [(code.length : Int), x], dests, loops, cases⟩ := by simp [actP, popP_snoc]
      rw [List.concat_eq_append] at *
      rw [e]
      exact ahead_calls h (by simp at hro; omega)
  · rcases List.eq_nil_or_concat origs with rfl | ⟨xs, x, rfl⟩
    · exact then_empty h
    · rw [List.concat_eq_append] at *
      have e : actP ⟨code, xs ++ [x], dests, loops, cases⟩ 3 = .inl ⟨aimed code.length code [x], xs, dests, loops, cases⟩ := by simp [actP, popP_snoc]
      rw [e]
      exact then_calls h (areP_range hf.origs x (by simp)) hf.len
  · exact begin_calls h (show dests.length < _ by omega)
  · rcases List.eq_nil_or_concat dests with rfl | ⟨xs, x, rfl⟩
    · exact again_empty h
    · rw [List.concat_eq_append] at *
      have e : actP ⟨code, origs, xs ++ [x], loops, cases⟩ 5 = layP code 3 x fun c => ⟨c, origs, xs, loops, cases⟩ := by simp [actP, popP_snoc]
      rw [e]
      exact again_calls h
  · rcases List.eq_nil_or_concat dests with rfl | ⟨xs, x, rfl⟩
    · exact until_empty h
    · rw [List.concat_eq_append] at *
      have e : actP ⟨code, origs, xs ++ [x], loops, cases⟩ 6 = layP code 4 x fun c => ⟨c, origs, xs, loops, cases⟩ := by simp [actP, popP_snoc]
      rw [e]
      exact until_calls h
theorem loop_act (h : BD w base bb v0 v1 v2 v3 v4 o code origs dests loops cases) (hf : Fd code origs dests loops cases) (hr : Room ⟨code, origs, dests, loops, cases⟩) (a : Int) (h1 : 7 ≤ a) (h6 : a ≤ 11) :
    Calls Try.prog 24 #[.pointer (some ⟨bb, 0, none⟩), .int .i64 a] w (BPost base bb w (actP ⟨code, origs, dests, loops, cases⟩ a)) := by
  have hro : loops.length < 4398046511104 - 1 := hr.loops
  have hrd : ∀ x ∈ loops, x.f1.length < 4398046511104 - 1 := hr.louts
  have e : a = 7 ∨ a = 8 ∨ a = 9 ∨ a = 10 ∨ a = 11 := by omega
  rcases e with rfl | rfl | rfl | rfl | rfl
  · exact do_calls h hro
  · exact qdo_calls h hro
  · rcases List.eq_nil_or_concat loops with rfl | ⟨ls, x, rfl⟩
    · exact loop_empty h
    · rw [List.concat_eq_append] at *
      have e : actP ⟨code, origs, dests, ls ++ [x], cases⟩ 9 = layP code 7 (x.f0 + 1) fun c => ⟨aimed c.length c (x.f1 ++ [x.f0]), origs, dests, ls, cases⟩ := by simp [actP, popP_snoc]
      rw [e]
      have hx := hf.loops x (by simp)
      exact loop_calls h (fun y hy => by
        rcases List.mem_append.1 hy with hy | hy
        · exact areP_range hx.2 y hy
        · rw [List.mem_singleton.1 hy]; exact isOf_range hx.1) (by have := hrd x (by simp); omega) hf.len
  · rcases List.eq_nil_or_concat loops with rfl | ⟨ls, x, rfl⟩
    · exact ploop_empty h
    · rw [List.concat_eq_append] at *
      have e : actP ⟨code, origs, dests, ls ++ [x], cases⟩ 10 = layP code 8 (x.f0 + 1) fun c => ⟨aimed c.length c (x.f1 ++ [x.f0]), origs, dests, ls, cases⟩ := by simp [actP, popP_snoc]
      rw [e]
      have hx := hf.loops x (by simp)
      exact ploop_calls h (fun y hy => by
        rcases List.mem_append.1 hy with hy | hy
        · exact areP_range hx.2 y hy
        · rw [List.mem_singleton.1 hy]; exact isOf_range hx.1) (by have := hrd x (by simp); omega) hf.len
  · rcases List.eq_nil_or_concat loops with rfl | ⟨ls, x, rfl⟩
    · exact leave_empty h
    · rw [List.concat_eq_append] at *
      have e : actP ⟨code, origs, dests, ls ++ [x], cases⟩ 11 = layP code 9 0 fun c => ⟨c, origs, dests, ls ++ [⟨x.f0, x.f1 ++ [(code.length : Int)]⟩], cases⟩ := by simp [actP, popP_snoc]
      rw [e]
      exact leave_calls h (by have := hrd x (by simp); omega) (by simp at hro; omega)
theorem cases_act (h : BD w base bb v0 v1 v2 v3 v4 o code origs dests loops cases) (hf : Fd code origs dests loops cases) (hr : Room ⟨code, origs, dests, loops, cases⟩) (a : Int) (h1 : 12 ≤ a) (h6 : a ≤ 15) :
    Calls Try.prog 25 #[.pointer (some ⟨bb, 0, none⟩), .int .i64 a] w (BPost base bb w (actP ⟨code, origs, dests, loops, cases⟩ a)) := by
  have hro : cases.length < 4398046511104 - 1 := hr.cases
  have hrd : ∀ x ∈ cases, x.f1.length < 4398046511104 - 1 := hr.couts
  have e : a = 12 ∨ a = 13 ∨ a = 14 ∨ a = 15 := by omega
  rcases e with rfl | rfl | rfl | rfl
  · exact case_calls h hro
  · rcases List.eq_nil_or_concat cases with rfl | ⟨ls, ⟨x, outs⟩, rfl⟩
    · exact of_empty h
    · rw [List.concat_eq_append] at *
      have e : actP ⟨code, origs, dests, loops, ls ++ [⟨x, outs⟩]⟩ 13 = if x = -1 then layP code 10 0 fun c => ⟨c, origs, dests, loops, ls ++ [⟨(code.length : Int), outs⟩]⟩ else .inr 13 := by simp [actP, popP_snoc]
      rw [e]
      by_cases hx : x = -1
      · rw [if_pos hx]
        subst hx
        exact of_calls h (by simp at hro; omega)
      · rw [if_neg hx]
        exact of_bad h hx
  · rcases List.eq_nil_or_concat cases with rfl | ⟨ls, ⟨x, outs⟩, rfl⟩
    · exact endof_empty h
    · rw [List.concat_eq_append] at *
      have e : actP ⟨code, origs, dests, loops, ls ++ [⟨x, outs⟩]⟩ 14 = if x = -1 then .inr 13 else layP code 3 0 fun c => ⟨aimed c.length c [x], origs, dests, loops, ls ++ [⟨-1, outs ++ [(code.length : Int)]⟩]⟩ := by simp [actP, popP_snoc]
      rw [e]
      by_cases hx : x = -1
      · rw [if_pos hx]
        subst hx
        exact endof_bad h
      · rw [if_neg hx]
        have hx2 := hf.cases ⟨x, outs⟩ (by simp)
        exact endof_calls h hx (isOf_range (hx2.1.resolve_left hx)) hf.len (by have := hrd ⟨x, outs⟩ (by simp); simp at this; omega) (by simp at hro; omega)
  · rcases List.eq_nil_or_concat cases with rfl | ⟨ls, ⟨x, outs⟩, rfl⟩
    · exact endcase_empty h
    · rw [List.concat_eq_append] at *
      have e : actP ⟨code, origs, dests, loops, ls ++ [⟨x, outs⟩]⟩ 15 = if x = -1 then layP code 11 0 fun c => ⟨aimed c.length c outs, origs, dests, loops, ls⟩ else .inr 13 := by simp [actP, popP_snoc]
      rw [e]
      by_cases hx : x = -1
      · rw [if_pos hx]
        subst hx
        have hx2 := hf.cases ⟨-1, outs⟩ (by simp)
        exact endcase_calls h (areP_range hx2.2) hf.len
      · rw [if_neg hx]
        exact endcase_bad h hx
end
end Go.Proofs.Ytmglkgjnhoojaaa.PCodeRows
/- Act (10) walked: on any draft that is read. -/
namespace Go.Proofs.Ytmglkgjnhoojaaa.PCodeRows
open Go.RowKit Go.Proofs.YtmglkgjnhoojaaaW.PrintWords Go.Proofs.YtmglkgjnhoojaaaW.PrintLast Go.Proofs.YtmglkgjnhoojaaaW.PrintMore
set_option linter.unusedVariables false
set_option linter.unusedSimpArgs false
abbrev zdraft : Value := .agg #[.slice none 0 0, .slice none 0 0, .slice none 0 0, .slice none 0 0, .slice none 0 0]
/-- What Act and Put leave: a draft that can be read, or an error. -/
def APost (w : World) (r : Dr ⊕ Int) (e : Ending) (w' : World) : Prop :=
  Below w.heap.size w w' ∧ match r with
    | .inl d => ∃ A0 A1 A2 A3 A4 c0 c1 c2 c3 c4 o, e = .returned (.tuple #[drV A0 A1 A2 A3 A4 c0 c1 c2 c3 c4 d.code.length d.origs.length d.dests.length d.loops.length d.cases.length, .int .i64 0]) ∧ C5 w' w.heap.size (.slice A0 d.code.length c0) (.slice A1 d.origs.length c1) (.slice A2 d.dests.length c2) (.slice A3 d.loops.length c3) (.slice A4 d.cases.length c4) o d.code d.origs d.dests d.loops d.cases
    | .inr c => e = .returned (.tuple #[zdraft, .int .i64 c])
theorem C5.drc {w : World} {base : Nat} {A0 A1 A2 A3 A4 : Option Addr} {c0 c1 c2 c3 c4 n0 n1 n2 n3 n4 : Nat} {o : Nat → Nat} {code : List S37} {origs dests : List Int} {loops cases : List S59}
    (h : C5 w base (.slice A0 n0 c0) (.slice A1 n1 c1) (.slice A2 n2 c2) (.slice A3 n3 c3) (.slice A4 n4 c4) o code origs dests loops cases) : DrC w A0 A1 A2 A3 A4 c0 c1 c2 c3 c4 code origs dests loops cases := by
  have h0 := Kd.R_reads' h.c3.hc
  have h1 := Kd.R_reads' h.c3.ho
  have h2 := Kd.R_reads' h.c3.hd
  have h3 := Kd.R_reads' (Kd.S_R h.hl)
  have h4 := Kd.R_reads' (Kd.S_R h.hs)
  exact ⟨h0.2.2, h1.2.2, h2.2.2, h3.2.2, h4.2.2, h0.1 ▸ h0.2.1, h1.1 ▸ h1.2.1, h2.1 ▸ h2.2.1, h3.1 ▸ h3.2.1, h4.1 ▸ h4.2.1⟩
theorem C5.lower {w : World} {base base' : Nat} {v0 v1 v2 v3 v4 : Value} {o : Nat → Nat} {code : List S37} {origs dests : List Int} {loops cases : List S59} (h : C5 w base v0 v1 v2 v3 v4 o code origs dests loops cases) (hb : base' ≤ base) : C5 w base' v0 v1 v2 v3 v4 o code origs dests loops cases :=
  ⟨⟨Kd.R_lower h.c3.hc hb, Kd.R_lower h.c3.ho hb, Kd.R_lower h.c3.hd hb⟩, Kd.S_lower h.hl hb, Kd.S_lower h.hs hb⟩
theorem C5.below {w w1 : World} {base : Nat} {v0 v1 v2 v3 v4 : Value} {o : Nat → Nat} {code : List S37} {origs dests : List Int} {loops cases : List S59} (h : C5 w base v0 v1 v2 v3 v4 o code origs dests loops cases) (hb : Below w.heap.size w w1) : C5 w1 base v0 v1 v2 v3 v4 o code origs dests loops cases :=
  ⟨⟨Kd.R_below h.c3.hc hb, Kd.R_below h.c3.ho hb, Kd.R_below h.c3.hd hb⟩, Kd.S_below h.hl hb, Kd.S_below h.hs hb⟩
theorem BD.of5 {w : World} {base : Nat} {v0 v1 v2 v3 v4 : Value} {o : Nat → Nat} {code : List S37} {origs dests : List Int} {loops cases : List S59} (h : C5 w base v0 v1 v2 v3 v4 o code origs dests loops cases) (hb : base ≤ w.heap.size) :
    BD (w.alloc (.cells #[v0, v1, v2, v3, v4] 53)) base w.heap.size v0 v1 v2 v3 v4 o code origs dests loops cases :=
  ⟨blk_new w _, hb, Kd.R_alloc h.c3.hc _, Kd.R_alloc h.c3.ho _, Kd.R_alloc h.c3.hd _, Kd.S_alloc h.hl _, Kd.S_alloc h.hs _⟩
theorem BD.c5 {w : World} {base bb : Nat} {v0 v1 v2 v3 v4 : Value} {o : Nat → Nat} {code : List S37} {origs dests : List Int} {loops cases : List S59} (h : BD w base bb v0 v1 v2 v3 v4 o code origs dests loops cases) : C5 w base v0 v1 v2 v3 v4 o code origs dests loops cases :=
  ⟨⟨h.hc, h.ho, h.hd⟩, h.hl, h.hs⟩
theorem layP_err {code : List S37} {k n c : Int} {f : List S37 → Dr} (h : layP code k n f = .inr c) : c ≠ 0 := by
  unfold layP at h
  split at h
  · cases h
  · injection h with h; omega
theorem popP_err {α : Type} {l : List α} {f : List α → α → Dr ⊕ Int} {c : Int} (h : popP l f = .inr c) (hf : ∀ xs x, f xs x = .inr c → c ≠ 0) : c ≠ 0 := by
  unfold popP at h
  split at h
  · injection h with h; omega
  · exact hf _ _ h
theorem actP_none {d : Dr} {a : Int} (h : a < 1 ∨ 15 < a) : actP d a = .inr 1 := by
  unfold actP
  repeat (rw [if_neg (by omega)])
theorem actP_err {d : Dr} {a c : Int} (h : actP d a = .inr c) : c ≠ 0 := by
  by_cases h0 : a < 1 ∨ 15 < a
  · rw [actP_none h0] at h
    injection h with h; omega
  have e : a = 1 ∨ a = 2 ∨ a = 3 ∨ a = 4 ∨ a = 5 ∨ a = 6 ∨ a = 7 ∨ a = 8 ∨ a = 9 ∨ a = 10 ∨ a = 11 ∨ a = 12 ∨ a = 13 ∨ a = 14 ∨ a = 15 := by omega
  clear h0
  rcases e with rfl | rfl | rfl | rfl | rfl | rfl | rfl | rfl | rfl | rfl | rfl | rfl | rfl | rfl | rfl <;> simp [actP] at h <;> try exact layP_err h
  all_goals
    refine popP_err h (fun xs x h => ?_)
    first
      | exact layP_err h
      | (cases h; done)
      | (split at h <;> first | exact layP_err h | (injection h with h; omega))
section
variable (A0 A1 A2 A3 A4 : Option Addr) (c0 c1 c2 c3 c4 : Nat) (code : List S37) (origs dests : List Int) (loops cases : List S59) (a : Int) (w : World)

set_option maxHeartbeats 2000000 in
theorem act_bad (h : DrC w A0 A1 A2 A3 A4 c0 c1 c2 c3 c4 code origs dests loops cases) (hf : formedP code origs dests loops cases = false) :
    Calls Try.prog 10 #[drV A0 A1 A2 A3 A4 c0 c1 c2 c3 c4 code.length origs.length dests.length loops.length cases.length, .int .i64 a] w (APost w (.inr 1)) := by
  have hsz : (w.alloc (.cells #[.slice A0 code.length c0, .slice A1 origs.length c1, .slice A2 dests.length c2, .slice A3 loops.length c3, .slice A4 cases.length c4] 26)).heap.size = w.heap.size + 1 := by simp
  have HD := Aside0.mk (blk_alloc (blk_new w (.cells #[.slice A0 code.length c0, .slice A1 origs.length c1, .slice A2 dests.length c2, .slice A3 loops.length c3, .slice A4 cases.length c4] 26)) (.cells #[.slice none 0 0, .slice none 0 0, .slice none 0 0, .slice none 0 0, .slice none 0 0] 26))
  have HR0 := blk_new (w.alloc (.cells #[.slice A0 code.length c0, .slice A1 origs.length c1, .slice A2 dests.length c2, .slice A3 loops.length c3, .slice A4 cases.length c4] 26)) (.cells #[.slice none 0 0, .slice none 0 0, .slice none 0 0, .slice none 0 0, .slice none 0 0] 26)
  rw [hsz] at HR0
  have HR := Aside0.mk HR0
  clear hsz HR0
  have HB := Aside0.mk (below_alloc (below_alloc (Below.refl w.heap.size w) (.cells #[.slice A0 code.length c0, .slice A1 origs.length c1, .slice A2 dests.length c2, .slice A3 loops.length c3, .slice A4 cases.length c4] 26)) (.cells #[.slice none 0 0, .slice none 0 0, .slice none 0 0, .slice none 0 0, .slice none 0 0] 26))
  have H := Aside0.mk h
  have HF := Aside0.mk hf
  clear h hf
  obtain ⟨k0, k1, k2, k3, k4⟩ := cells5 HD.out
  go_enter Try.func10, Try.ntmps10
  go_wp2_with fail
  clear k0 k1 k2 k3 k4
  refine (formed_calls A0 A1 A2 A3 A4 c0 c1 c2 c3 c4 code origs dests loops cases _ (H.out.below HB.out)).mono ?_
  rintro e w1 ⟨rfl, hb1⟩
  rw [HF.out]
  have HB1 := Aside0.mk (below_step HB.out hb1)
  have HD1 := Aside0.mk (blk_below HD.out hb1)
  have HR1 := Aside0.mk (blk_below HR.out hb1)
  clear hb1 HB HD HR
  have HRz := HR1
  obtain ⟨f0, f1, f2, f3, f4⟩ := frozen5 HRz.out
  obtain ⟨r0, r1, r2, r3, r4⟩ := cells5 (show w1.heap[w.heap.size + 1]? = some (.cells #[.slice none 0 0, .slice none 0 0, .slice none 0 0, .slice none 0 0, .slice none 0 0] _ _) from HRz.out)
  have g0 := blk_put HRz.out 0 (.slice none 0 0) rfl
  have g1 := blk_put g0 1 (.slice none 0 0) rfl
  have g2 := blk_put g1 2 (.slice none 0 0) rfl
  have g3 := blk_put g2 3 (.slice none 0 0) rfl
  have g4 := blk_put g3 4 (.slice none 0 0) rfl
  have HG4 := Aside0.mk g4
  have HBz := Aside0.mk ((((((HB1.out).setCell (p := ⟨w.heap.size + 1, 0, none⟩) (Nat.le_succ _) (.slice none 0 0)).setCell (p := ⟨w.heap.size + 1, 1, none⟩) (Nat.le_succ _) (.slice none 0 0)).setCell (p := ⟨w.heap.size + 1, 2, none⟩) (Nat.le_succ _) (.slice none 0 0)).setCell (p := ⟨w.heap.size + 1, 3, none⟩) (Nat.le_succ _) (.slice none 0 0)).setCell (p := ⟨w.heap.size + 1, 4, none⟩) (Nat.le_succ _) (.slice none 0 0))
  clear g0 g1 g2 g3 g4
  go_wp2_with fail
  obtain ⟨y0, y1, y2, y3, y4⟩ := cells5 HG4.out
  exact bodyPost_ret (v := .tuple #[zdraft, .int .i64 1]) (by simp [results, Try.results10, go_sem, y0, y1, y2, y3, y4]) rfl ⟨HBz.out, rfl⟩
set_option maxHeartbeats 4000000 in
theorem act_branch (h : DrC w A0 A1 A2 A3 A4 c0 c1 c2 c3 c4 code origs dests loops cases) (hf : formedP code origs dests loops cases = true) (hs : Small code origs dests loops cases) (hm : Room ⟨code, origs, dests, loops, cases⟩) (h1 : 1 ≤ a) (h6 : a ≤ 6) :
    Calls Try.prog 10 #[drV A0 A1 A2 A3 A4 c0 c1 c2 c3 c4 code.length origs.length dests.length loops.length cases.length, .int .i64 a] w (APost w (actP ⟨code, origs, dests, loops, cases⟩ a)) := by
  obtain ⟨r, R0⟩ : ∃ r, actP ⟨code, origs, dests, loops, cases⟩ a = r := ⟨_, rfl⟩
  have HC : Aside0 (∀ (W : World) (bb : Nat) (v0 v1 v2 v3 v4 : Value) (o : Nat → Nat) (base : Nat), BD W base bb v0 v1 v2 v3 v4 o code origs dests loops cases → Calls Try.prog 23 #[.pointer (some ⟨bb, 0, none⟩), .int .i64 a] W (BPost base bb W r)) := ⟨fun W bb v0 v1 v2 v3 v4 o base hb => R0 ▸ branch_act hb (formed_iff.1 hf) hm a h1 h6⟩
  have HE : Aside0 (∀ c, r = .inr c → c ≠ 0) := ⟨fun c hc => actP_err (R0.trans hc)⟩
  rw [R0]
  clear R0
  have t1a : decide (1 ≤ a) = true := decide_eq_true h1
  have t1b : decide (a ≤ 6) = true := decide_eq_true h6
  clear h1 h6
  have HM := Aside0.mk hm
  have HS := Aside0.mk hs
  clear hm hs
  have hsz : (w.alloc (.cells #[.slice A0 code.length c0, .slice A1 origs.length c1, .slice A2 dests.length c2, .slice A3 loops.length c3, .slice A4 cases.length c4] 26)).heap.size = w.heap.size + 1 := by simp
  have HD := Aside0.mk (blk_alloc (blk_new w (.cells #[.slice A0 code.length c0, .slice A1 origs.length c1, .slice A2 dests.length c2, .slice A3 loops.length c3, .slice A4 cases.length c4] 26)) (.cells #[.slice none 0 0, .slice none 0 0, .slice none 0 0, .slice none 0 0, .slice none 0 0] 26))
  have HR0 := blk_new (w.alloc (.cells #[.slice A0 code.length c0, .slice A1 origs.length c1, .slice A2 dests.length c2, .slice A3 loops.length c3, .slice A4 cases.length c4] 26)) (.cells #[.slice none 0 0, .slice none 0 0, .slice none 0 0, .slice none 0 0, .slice none 0 0] 26)
  rw [hsz] at HR0
  have HR := Aside0.mk HR0
  clear hsz HR0
  have HB := Aside0.mk (below_alloc (below_alloc (Below.refl w.heap.size w) (.cells #[.slice A0 code.length c0, .slice A1 origs.length c1, .slice A2 dests.length c2, .slice A3 loops.length c3, .slice A4 cases.length c4] 26)) (.cells #[.slice none 0 0, .slice none 0 0, .slice none 0 0, .slice none 0 0, .slice none 0 0] 26))
  have H := Aside0.mk h
  have HF := Aside0.mk hf
  clear h hf
  obtain ⟨k0, k1, k2, k3, k4⟩ := cells5 HD.out
  go_enter Try.func10, Try.ntmps10
  go_wp2_with fail
  clear k0 k1 k2 k3 k4
  refine (formed_calls A0 A1 A2 A3 A4 c0 c1 c2 c3 c4 code origs dests loops cases _ (H.out.below HB.out)).mono ?_
  rintro e w1 ⟨rfl, hb1⟩
  rw [HF.out]
  have HB1 := Aside0.mk (below_step HB.out hb1)
  have HD1 := Aside0.mk (blk_below HD.out hb1)
  have HR1 := Aside0.mk (blk_below HR.out hb1)
  clear hb1 HB HD HR
  obtain ⟨k0, k1, k2, k3, k4⟩ := cells5 HD1.out
  go_wp2_with fail
  clear k0 k1 k2 k3 k4
  refine (copied_calls A0 A1 A2 A3 A4 c0 c1 c2 c3 c4 code origs dests loops cases w1 (H.out.below HB1.out) HS.out).mono ?_
  rintro e w2 ⟨v0, v1, v2, v3, v4, o, rfl, h5, hb2⟩
  obtain ⟨B0, b0, rfl⟩ := Kd.R_slice h5.c3.hc
  obtain ⟨B1, b1, rfl⟩ := Kd.R_slice h5.c3.ho
  obtain ⟨B2, b2, rfl⟩ := Kd.R_slice h5.c3.hd
  obtain ⟨B3, b3, rfl⟩ := Kd.R_slice (Kd.S_R h5.hl)
  obtain ⟨B4, b4, rfl⟩ := Kd.R_slice (Kd.S_R h5.hs)
  have HBD := Aside0.mk (BD.of5 h5 hb2.size)
  have hw1 : w.heap.size ≤ w1.heap.size := HB1.out.size
  have HB2 := Aside0.mk (below_alloc hb2 (.cells #[.slice B0 code.length b0, .slice B1 origs.length b1, .slice B2 dests.length b2, .slice B3 loops.length b3, .slice B4 cases.length b4] 53))
  have hlt := blk_lt HR1.out
  clear h5 hb2
  go_wp2_with fail
  generalize w2.alloc (.cells #[.slice B0 code.length b0, .slice B1 origs.length b1, .slice B2 dests.length b2, .slice B3 loops.length b3, .slice B4 cases.length b4] 53) = w3 at HBD HB2 ⊢
  generalize w2.heap.size = bb at HBD HB2 ⊢
  refine (HC.out w3 bb _ _ _ _ _ o w1.heap.size HBD.out).mono ?_
  rintro e w4 hP
  cases r with
  | inr c =>
    obtain ⟨hB, rfl⟩ := hP
    have hc := HE.out c rfl
    have hc1 : (c == 0) = false := by simpa using hc
    have hc2 : (c != 0) = true := by simpa using hc
    clear hc
    have HB4 := Aside0.mk (HB2.out.trans hB)
    have HRz := Aside0.mk (blk_below HR1.out HB4.out)
    have HBw := Aside0.mk (below_step HB1.out HB4.out)
    clear hB HBD HB2 HC HE hw1 hlt
    obtain ⟨f0, f1, f2, f3, f4⟩ := frozen5 HRz.out
    obtain ⟨r0, r1, r2, r3, r4⟩ := cells5 (show w4.heap[w.heap.size + 1]? = some (.cells #[.slice none 0 0, .slice none 0 0, .slice none 0 0, .slice none 0 0, .slice none 0 0] _ _) from HRz.out)
    have g0 := blk_put HRz.out 0 (.slice none 0 0) rfl
    have g1 := blk_put g0 1 (.slice none 0 0) rfl
    have g2 := blk_put g1 2 (.slice none 0 0) rfl
    have g3 := blk_put g2 3 (.slice none 0 0) rfl
    have g4 := blk_put g3 4 (.slice none 0 0) rfl
    have HG4 := Aside0.mk g4
    have HBz := Aside0.mk ((((((HBw.out).setCell (p := ⟨w.heap.size + 1, 0, none⟩) (Nat.le_succ _) (.slice none 0 0)).setCell (p := ⟨w.heap.size + 1, 1, none⟩) (Nat.le_succ _) (.slice none 0 0)).setCell (p := ⟨w.heap.size + 1, 2, none⟩) (Nat.le_succ _) (.slice none 0 0)).setCell (p := ⟨w.heap.size + 1, 3, none⟩) (Nat.le_succ _) (.slice none 0 0)).setCell (p := ⟨w.heap.size + 1, 4, none⟩) (Nat.le_succ _) (.slice none 0 0))
    clear g0 g1 g2 g3 g4
    go_wp2_with fail
    obtain ⟨y0, y1, y2, y3, y4⟩ := cells5 HG4.out
    exact bodyPost_ret (v := .tuple #[zdraft, .int .i64 c]) (by simp [results, Try.results10, go_sem, y0, y1, y2, y3, y4]) rfl ⟨HBz.out, rfl⟩
  | inl d =>
    obtain ⟨hB, rfl, u0, u1, u2, u3, u4, o2, hbd⟩ := hP
    obtain ⟨B0, b0, rfl⟩ := Kd.R_slice hbd.hc
    obtain ⟨B1, b1, rfl⟩ := Kd.R_slice hbd.ho
    obtain ⟨B2, b2, rfl⟩ := Kd.R_slice hbd.hd
    obtain ⟨B3, b3, rfl⟩ := Kd.R_slice (Kd.S_R hbd.hl)
    obtain ⟨B4, b4, rfl⟩ := Kd.R_slice (Kd.S_R hbd.hs)
    have HB4 := Aside0.mk (HB2.out.trans hB)
    have HRz := Aside0.mk (blk_below HR1.out HB4.out)
    have HBw := Aside0.mk (below_step HB1.out HB4.out)
    have HX := Aside0.mk hbd.box
    have H5 := Aside0.mk hbd.c5
    clear hB HBD HB2 HC HE hw1 hlt hbd
    obtain ⟨k0, k1, k2, k3, k4⟩ := cells5 (show w4.heap[bb]? = some (.cells #[.slice B0 d.code.length b0, .slice B1 d.origs.length b1, .slice B2 d.dests.length b2, .slice B3 d.loops.length b3, .slice B4 d.cases.length b4] _ _) from HX.out)
    obtain ⟨f0, f1, f2, f3, f4⟩ := frozen5 HRz.out
    obtain ⟨r0, r1, r2, r3, r4⟩ := cells5 (show w4.heap[w.heap.size + 1]? = some (.cells #[.slice none 0 0, .slice none 0 0, .slice none 0 0, .slice none 0 0, .slice none 0 0] _ _) from HRz.out)
    have g0 := blk_put HRz.out 0 (.slice B0 d.code.length b0) rfl
    have g1 := blk_put g0 1 (.slice B1 d.origs.length b1) rfl
    have g2 := blk_put g1 2 (.slice B2 d.dests.length b2) rfl
    have g3 := blk_put g2 3 (.slice B3 d.loops.length b3) rfl
    have g4 := blk_put g3 4 (.slice B4 d.cases.length b4) rfl
    have HG4 := Aside0.mk g4
    have H8 := Aside0.mk ((((((((((H5.out).set HRz.out 0 (.slice B0 d.code.length b0))).set g0 1 (.slice B1 d.origs.length b1))).set g1 2 (.slice B2 d.dests.length b2))).set g2 3 (.slice B3 d.loops.length b3))).set g3 4 (.slice B4 d.cases.length b4))
    have HB9 := Aside0.mk ((((((((((HBw.out).setCell (p := ⟨w.heap.size + 1, 0, none⟩) (Nat.le_succ _) (.slice B0 d.code.length b0))).setCell (p := ⟨w.heap.size + 1, 1, none⟩) (Nat.le_succ _) (.slice B1 d.origs.length b1))).setCell (p := ⟨w.heap.size + 1, 2, none⟩) (Nat.le_succ _) (.slice B2 d.dests.length b2))).setCell (p := ⟨w.heap.size + 1, 3, none⟩) (Nat.le_succ _) (.slice B3 d.loops.length b3))).setCell (p := ⟨w.heap.size + 1, 4, none⟩) (Nat.le_succ _) (.slice B4 d.cases.length b4))
    clear g0 g1 g2 g3 g4 HX H5 HRz
    go_wp2_with fail
    obtain ⟨y0, y1, y2, y3, y4⟩ := cells5 HG4.out
    exact bodyPost_ret (v := .tuple #[drV B0 B1 B2 B3 B4 b0 b1 b2 b3 b4 d.code.length d.origs.length d.dests.length d.loops.length d.cases.length, .int .i64 0]) (by simp [results, Try.results10, go_sem, y0, y1, y2, y3, y4]) rfl ⟨HB9.out, _, _, _, _, _, _, _, _, _, _, _, rfl, H8.out.lower HB1.out.size⟩
set_option maxHeartbeats 4000000 in
theorem act_loop (h : DrC w A0 A1 A2 A3 A4 c0 c1 c2 c3 c4 code origs dests loops cases) (hf : formedP code origs dests loops cases = true) (hs : Small code origs dests loops cases) (hm : Room ⟨code, origs, dests, loops, cases⟩) (h1 : 7 ≤ a) (h6 : a ≤ 11) :
    Calls Try.prog 10 #[drV A0 A1 A2 A3 A4 c0 c1 c2 c3 c4 code.length origs.length dests.length loops.length cases.length, .int .i64 a] w (APost w (actP ⟨code, origs, dests, loops, cases⟩ a)) := by
  obtain ⟨r, R0⟩ : ∃ r, actP ⟨code, origs, dests, loops, cases⟩ a = r := ⟨_, rfl⟩
  have HC : Aside0 (∀ (W : World) (bb : Nat) (v0 v1 v2 v3 v4 : Value) (o : Nat → Nat) (base : Nat), BD W base bb v0 v1 v2 v3 v4 o code origs dests loops cases → Calls Try.prog 24 #[.pointer (some ⟨bb, 0, none⟩), .int .i64 a] W (BPost base bb W r)) := ⟨fun W bb v0 v1 v2 v3 v4 o base hb => R0 ▸ loop_act hb (formed_iff.1 hf) hm a h1 h6⟩
  have HE : Aside0 (∀ c, r = .inr c → c ≠ 0) := ⟨fun c hc => actP_err (R0.trans hc)⟩
  rw [R0]
  clear R0
  have t1a : decide (1 ≤ a) = true := decide_eq_true (by omega)
  have t1b : decide (a ≤ 6) = false := decide_eq_false (by omega)
  have t7a : decide (7 ≤ a) = true := decide_eq_true h1
  have t7b : decide (a ≤ 11) = true := decide_eq_true h6
  clear h1 h6
  have HM := Aside0.mk hm
  have HS := Aside0.mk hs
  clear hm hs
  have hsz : (w.alloc (.cells #[.slice A0 code.length c0, .slice A1 origs.length c1, .slice A2 dests.length c2, .slice A3 loops.length c3, .slice A4 cases.length c4] 26)).heap.size = w.heap.size + 1 := by simp
  have HD := Aside0.mk (blk_alloc (blk_new w (.cells #[.slice A0 code.length c0, .slice A1 origs.length c1, .slice A2 dests.length c2, .slice A3 loops.length c3, .slice A4 cases.length c4] 26)) (.cells #[.slice none 0 0, .slice none 0 0, .slice none 0 0, .slice none 0 0, .slice none 0 0] 26))
  have HR0 := blk_new (w.alloc (.cells #[.slice A0 code.length c0, .slice A1 origs.length c1, .slice A2 dests.length c2, .slice A3 loops.length c3, .slice A4 cases.length c4] 26)) (.cells #[.slice none 0 0, .slice none 0 0, .slice none 0 0, .slice none 0 0, .slice none 0 0] 26)
  rw [hsz] at HR0
  have HR := Aside0.mk HR0
  clear hsz HR0
  have HB := Aside0.mk (below_alloc (below_alloc (Below.refl w.heap.size w) (.cells #[.slice A0 code.length c0, .slice A1 origs.length c1, .slice A2 dests.length c2, .slice A3 loops.length c3, .slice A4 cases.length c4] 26)) (.cells #[.slice none 0 0, .slice none 0 0, .slice none 0 0, .slice none 0 0, .slice none 0 0] 26))
  have H := Aside0.mk h
  have HF := Aside0.mk hf
  clear h hf
  obtain ⟨k0, k1, k2, k3, k4⟩ := cells5 HD.out
  go_enter Try.func10, Try.ntmps10
  go_wp2_with fail
  clear k0 k1 k2 k3 k4
  refine (formed_calls A0 A1 A2 A3 A4 c0 c1 c2 c3 c4 code origs dests loops cases _ (H.out.below HB.out)).mono ?_
  rintro e w1 ⟨rfl, hb1⟩
  rw [HF.out]
  have HB1 := Aside0.mk (below_step HB.out hb1)
  have HD1 := Aside0.mk (blk_below HD.out hb1)
  have HR1 := Aside0.mk (blk_below HR.out hb1)
  clear hb1 HB HD HR
  obtain ⟨k0, k1, k2, k3, k4⟩ := cells5 HD1.out
  go_wp2_with fail
  clear k0 k1 k2 k3 k4
  refine (copied_calls A0 A1 A2 A3 A4 c0 c1 c2 c3 c4 code origs dests loops cases w1 (H.out.below HB1.out) HS.out).mono ?_
  rintro e w2 ⟨v0, v1, v2, v3, v4, o, rfl, h5, hb2⟩
  obtain ⟨B0, b0, rfl⟩ := Kd.R_slice h5.c3.hc
  obtain ⟨B1, b1, rfl⟩ := Kd.R_slice h5.c3.ho
  obtain ⟨B2, b2, rfl⟩ := Kd.R_slice h5.c3.hd
  obtain ⟨B3, b3, rfl⟩ := Kd.R_slice (Kd.S_R h5.hl)
  obtain ⟨B4, b4, rfl⟩ := Kd.R_slice (Kd.S_R h5.hs)
  have HBD := Aside0.mk (BD.of5 h5 hb2.size)
  have hw1 : w.heap.size ≤ w1.heap.size := HB1.out.size
  have HB2 := Aside0.mk (below_alloc hb2 (.cells #[.slice B0 code.length b0, .slice B1 origs.length b1, .slice B2 dests.length b2, .slice B3 loops.length b3, .slice B4 cases.length b4] 53))
  have hlt := blk_lt HR1.out
  clear h5 hb2
  go_wp2_with fail
  generalize w2.alloc (.cells #[.slice B0 code.length b0, .slice B1 origs.length b1, .slice B2 dests.length b2, .slice B3 loops.length b3, .slice B4 cases.length b4] 53) = w3 at HBD HB2 ⊢
  generalize w2.heap.size = bb at HBD HB2 ⊢
  refine (HC.out w3 bb _ _ _ _ _ o w1.heap.size HBD.out).mono ?_
  rintro e w4 hP
  cases r with
  | inr c =>
    obtain ⟨hB, rfl⟩ := hP
    have hc := HE.out c rfl
    have hc1 : (c == 0) = false := by simpa using hc
    have hc2 : (c != 0) = true := by simpa using hc
    clear hc
    have HB4 := Aside0.mk (HB2.out.trans hB)
    have HRz := Aside0.mk (blk_below HR1.out HB4.out)
    have HBw := Aside0.mk (below_step HB1.out HB4.out)
    clear hB HBD HB2 HC HE hw1 hlt
    obtain ⟨f0, f1, f2, f3, f4⟩ := frozen5 HRz.out
    obtain ⟨r0, r1, r2, r3, r4⟩ := cells5 (show w4.heap[w.heap.size + 1]? = some (.cells #[.slice none 0 0, .slice none 0 0, .slice none 0 0, .slice none 0 0, .slice none 0 0] _ _) from HRz.out)
    have g0 := blk_put HRz.out 0 (.slice none 0 0) rfl
    have g1 := blk_put g0 1 (.slice none 0 0) rfl
    have g2 := blk_put g1 2 (.slice none 0 0) rfl
    have g3 := blk_put g2 3 (.slice none 0 0) rfl
    have g4 := blk_put g3 4 (.slice none 0 0) rfl
    have HG4 := Aside0.mk g4
    have HBz := Aside0.mk ((((((HBw.out).setCell (p := ⟨w.heap.size + 1, 0, none⟩) (Nat.le_succ _) (.slice none 0 0)).setCell (p := ⟨w.heap.size + 1, 1, none⟩) (Nat.le_succ _) (.slice none 0 0)).setCell (p := ⟨w.heap.size + 1, 2, none⟩) (Nat.le_succ _) (.slice none 0 0)).setCell (p := ⟨w.heap.size + 1, 3, none⟩) (Nat.le_succ _) (.slice none 0 0)).setCell (p := ⟨w.heap.size + 1, 4, none⟩) (Nat.le_succ _) (.slice none 0 0))
    clear g0 g1 g2 g3 g4
    go_wp2_with fail
    obtain ⟨y0, y1, y2, y3, y4⟩ := cells5 HG4.out
    exact bodyPost_ret (v := .tuple #[zdraft, .int .i64 c]) (by simp [results, Try.results10, go_sem, y0, y1, y2, y3, y4]) rfl ⟨HBz.out, rfl⟩
  | inl d =>
    obtain ⟨hB, rfl, u0, u1, u2, u3, u4, o2, hbd⟩ := hP
    obtain ⟨B0, b0, rfl⟩ := Kd.R_slice hbd.hc
    obtain ⟨B1, b1, rfl⟩ := Kd.R_slice hbd.ho
    obtain ⟨B2, b2, rfl⟩ := Kd.R_slice hbd.hd
    obtain ⟨B3, b3, rfl⟩ := Kd.R_slice (Kd.S_R hbd.hl)
    obtain ⟨B4, b4, rfl⟩ := Kd.R_slice (Kd.S_R hbd.hs)
    have HB4 := Aside0.mk (HB2.out.trans hB)
    have HRz := Aside0.mk (blk_below HR1.out HB4.out)
    have HBw := Aside0.mk (below_step HB1.out HB4.out)
    have HX := Aside0.mk hbd.box
    have H5 := Aside0.mk hbd.c5
    clear hB HBD HB2 HC HE hw1 hlt hbd
    obtain ⟨k0, k1, k2, k3, k4⟩ := cells5 (show w4.heap[bb]? = some (.cells #[.slice B0 d.code.length b0, .slice B1 d.origs.length b1, .slice B2 d.dests.length b2, .slice B3 d.loops.length b3, .slice B4 d.cases.length b4] _ _) from HX.out)
    obtain ⟨f0, f1, f2, f3, f4⟩ := frozen5 HRz.out
    obtain ⟨r0, r1, r2, r3, r4⟩ := cells5 (show w4.heap[w.heap.size + 1]? = some (.cells #[.slice none 0 0, .slice none 0 0, .slice none 0 0, .slice none 0 0, .slice none 0 0] _ _) from HRz.out)
    have g0 := blk_put HRz.out 0 (.slice B0 d.code.length b0) rfl
    have g1 := blk_put g0 1 (.slice B1 d.origs.length b1) rfl
    have g2 := blk_put g1 2 (.slice B2 d.dests.length b2) rfl
    have g3 := blk_put g2 3 (.slice B3 d.loops.length b3) rfl
    have g4 := blk_put g3 4 (.slice B4 d.cases.length b4) rfl
    have HG4 := Aside0.mk g4
    have H8 := Aside0.mk ((((((((((H5.out).set HRz.out 0 (.slice B0 d.code.length b0))).set g0 1 (.slice B1 d.origs.length b1))).set g1 2 (.slice B2 d.dests.length b2))).set g2 3 (.slice B3 d.loops.length b3))).set g3 4 (.slice B4 d.cases.length b4))
    have HB9 := Aside0.mk ((((((((((HBw.out).setCell (p := ⟨w.heap.size + 1, 0, none⟩) (Nat.le_succ _) (.slice B0 d.code.length b0))).setCell (p := ⟨w.heap.size + 1, 1, none⟩) (Nat.le_succ _) (.slice B1 d.origs.length b1))).setCell (p := ⟨w.heap.size + 1, 2, none⟩) (Nat.le_succ _) (.slice B2 d.dests.length b2))).setCell (p := ⟨w.heap.size + 1, 3, none⟩) (Nat.le_succ _) (.slice B3 d.loops.length b3))).setCell (p := ⟨w.heap.size + 1, 4, none⟩) (Nat.le_succ _) (.slice B4 d.cases.length b4))
    clear g0 g1 g2 g3 g4 HX H5 HRz
    go_wp2_with fail
    obtain ⟨y0, y1, y2, y3, y4⟩ := cells5 HG4.out
    exact bodyPost_ret (v := .tuple #[drV B0 B1 B2 B3 B4 b0 b1 b2 b3 b4 d.code.length d.origs.length d.dests.length d.loops.length d.cases.length, .int .i64 0]) (by simp [results, Try.results10, go_sem, y0, y1, y2, y3, y4]) rfl ⟨HB9.out, _, _, _, _, _, _, _, _, _, _, _, rfl, H8.out.lower HB1.out.size⟩
set_option maxHeartbeats 4000000 in
theorem act_cases (h : DrC w A0 A1 A2 A3 A4 c0 c1 c2 c3 c4 code origs dests loops cases) (hf : formedP code origs dests loops cases = true) (hs : Small code origs dests loops cases) (hm : Room ⟨code, origs, dests, loops, cases⟩) (h1 : 12 ≤ a) (h6 : a ≤ 15) :
    Calls Try.prog 10 #[drV A0 A1 A2 A3 A4 c0 c1 c2 c3 c4 code.length origs.length dests.length loops.length cases.length, .int .i64 a] w (APost w (actP ⟨code, origs, dests, loops, cases⟩ a)) := by
  obtain ⟨r, R0⟩ : ∃ r, actP ⟨code, origs, dests, loops, cases⟩ a = r := ⟨_, rfl⟩
  have HC : Aside0 (∀ (W : World) (bb : Nat) (v0 v1 v2 v3 v4 : Value) (o : Nat → Nat) (base : Nat), BD W base bb v0 v1 v2 v3 v4 o code origs dests loops cases → Calls Try.prog 25 #[.pointer (some ⟨bb, 0, none⟩), .int .i64 a] W (BPost base bb W r)) := ⟨fun W bb v0 v1 v2 v3 v4 o base hb => R0 ▸ cases_act hb (formed_iff.1 hf) hm a h1 h6⟩
  have HE : Aside0 (∀ c, r = .inr c → c ≠ 0) := ⟨fun c hc => actP_err (R0.trans hc)⟩
  rw [R0]
  clear R0
  have t1a : decide (1 ≤ a) = true := decide_eq_true (by omega)
  have t1b : decide (a ≤ 6) = false := decide_eq_false (by omega)
  have t7a : decide (7 ≤ a) = true := decide_eq_true (by omega)
  have t7b : decide (a ≤ 11) = false := decide_eq_false (by omega)
  have t12a : decide (12 ≤ a) = true := decide_eq_true h1
  have t12b : decide (a ≤ 15) = true := decide_eq_true h6
  clear h1 h6
  have HM := Aside0.mk hm
  have HS := Aside0.mk hs
  clear hm hs
  have hsz : (w.alloc (.cells #[.slice A0 code.length c0, .slice A1 origs.length c1, .slice A2 dests.length c2, .slice A3 loops.length c3, .slice A4 cases.length c4] 26)).heap.size = w.heap.size + 1 := by simp
  have HD := Aside0.mk (blk_alloc (blk_new w (.cells #[.slice A0 code.length c0, .slice A1 origs.length c1, .slice A2 dests.length c2, .slice A3 loops.length c3, .slice A4 cases.length c4] 26)) (.cells #[.slice none 0 0, .slice none 0 0, .slice none 0 0, .slice none 0 0, .slice none 0 0] 26))
  have HR0 := blk_new (w.alloc (.cells #[.slice A0 code.length c0, .slice A1 origs.length c1, .slice A2 dests.length c2, .slice A3 loops.length c3, .slice A4 cases.length c4] 26)) (.cells #[.slice none 0 0, .slice none 0 0, .slice none 0 0, .slice none 0 0, .slice none 0 0] 26)
  rw [hsz] at HR0
  have HR := Aside0.mk HR0
  clear hsz HR0
  have HB := Aside0.mk (below_alloc (below_alloc (Below.refl w.heap.size w) (.cells #[.slice A0 code.length c0, .slice A1 origs.length c1, .slice A2 dests.length c2, .slice A3 loops.length c3, .slice A4 cases.length c4] 26)) (.cells #[.slice none 0 0, .slice none 0 0, .slice none 0 0, .slice none 0 0, .slice none 0 0] 26))
  have H := Aside0.mk h
  have HF := Aside0.mk hf
  clear h hf
  obtain ⟨k0, k1, k2, k3, k4⟩ := cells5 HD.out
  go_enter Try.func10, Try.ntmps10
  go_wp2_with fail
  clear k0 k1 k2 k3 k4
  refine (formed_calls A0 A1 A2 A3 A4 c0 c1 c2 c3 c4 code origs dests loops cases _ (H.out.below HB.out)).mono ?_
  rintro e w1 ⟨rfl, hb1⟩
  rw [HF.out]
  have HB1 := Aside0.mk (below_step HB.out hb1)
  have HD1 := Aside0.mk (blk_below HD.out hb1)
  have HR1 := Aside0.mk (blk_below HR.out hb1)
  clear hb1 HB HD HR
  obtain ⟨k0, k1, k2, k3, k4⟩ := cells5 HD1.out
  go_wp2_with fail
  clear k0 k1 k2 k3 k4
  refine (copied_calls A0 A1 A2 A3 A4 c0 c1 c2 c3 c4 code origs dests loops cases w1 (H.out.below HB1.out) HS.out).mono ?_
  rintro e w2 ⟨v0, v1, v2, v3, v4, o, rfl, h5, hb2⟩
  obtain ⟨B0, b0, rfl⟩ := Kd.R_slice h5.c3.hc
  obtain ⟨B1, b1, rfl⟩ := Kd.R_slice h5.c3.ho
  obtain ⟨B2, b2, rfl⟩ := Kd.R_slice h5.c3.hd
  obtain ⟨B3, b3, rfl⟩ := Kd.R_slice (Kd.S_R h5.hl)
  obtain ⟨B4, b4, rfl⟩ := Kd.R_slice (Kd.S_R h5.hs)
  have HBD := Aside0.mk (BD.of5 h5 hb2.size)
  have hw1 : w.heap.size ≤ w1.heap.size := HB1.out.size
  have HB2 := Aside0.mk (below_alloc hb2 (.cells #[.slice B0 code.length b0, .slice B1 origs.length b1, .slice B2 dests.length b2, .slice B3 loops.length b3, .slice B4 cases.length b4] 53))
  have hlt := blk_lt HR1.out
  clear h5 hb2
  go_wp2_with fail
  generalize w2.alloc (.cells #[.slice B0 code.length b0, .slice B1 origs.length b1, .slice B2 dests.length b2, .slice B3 loops.length b3, .slice B4 cases.length b4] 53) = w3 at HBD HB2 ⊢
  generalize w2.heap.size = bb at HBD HB2 ⊢
  refine (HC.out w3 bb _ _ _ _ _ o w1.heap.size HBD.out).mono ?_
  rintro e w4 hP
  cases r with
  | inr c =>
    obtain ⟨hB, rfl⟩ := hP
    have hc := HE.out c rfl
    have hc1 : (c == 0) = false := by simpa using hc
    have hc2 : (c != 0) = true := by simpa using hc
    clear hc
    have HB4 := Aside0.mk (HB2.out.trans hB)
    have HRz := Aside0.mk (blk_below HR1.out HB4.out)
    have HBw := Aside0.mk (below_step HB1.out HB4.out)
    clear hB HBD HB2 HC HE hw1 hlt
    obtain ⟨f0, f1, f2, f3, f4⟩ := frozen5 HRz.out
    obtain ⟨r0, r1, r2, r3, r4⟩ := cells5 (show w4.heap[w.heap.size + 1]? = some (.cells #[.slice none 0 0, .slice none 0 0, .slice none 0 0, .slice none 0 0, .slice none 0 0] _ _) from HRz.out)
    have g0 := blk_put HRz.out 0 (.slice none 0 0) rfl
    have g1 := blk_put g0 1 (.slice none 0 0) rfl
    have g2 := blk_put g1 2 (.slice none 0 0) rfl
    have g3 := blk_put g2 3 (.slice none 0 0) rfl
    have g4 := blk_put g3 4 (.slice none 0 0) rfl
    have HG4 := Aside0.mk g4
    have HBz := Aside0.mk ((((((HBw.out).setCell (p := ⟨w.heap.size + 1, 0, none⟩) (Nat.le_succ _) (.slice none 0 0)).setCell (p := ⟨w.heap.size + 1, 1, none⟩) (Nat.le_succ _) (.slice none 0 0)).setCell (p := ⟨w.heap.size + 1, 2, none⟩) (Nat.le_succ _) (.slice none 0 0)).setCell (p := ⟨w.heap.size + 1, 3, none⟩) (Nat.le_succ _) (.slice none 0 0)).setCell (p := ⟨w.heap.size + 1, 4, none⟩) (Nat.le_succ _) (.slice none 0 0))
    clear g0 g1 g2 g3 g4
    go_wp2_with fail
    obtain ⟨y0, y1, y2, y3, y4⟩ := cells5 HG4.out
    exact bodyPost_ret (v := .tuple #[zdraft, .int .i64 c]) (by simp [results, Try.results10, go_sem, y0, y1, y2, y3, y4]) rfl ⟨HBz.out, rfl⟩
  | inl d =>
    obtain ⟨hB, rfl, u0, u1, u2, u3, u4, o2, hbd⟩ := hP
    obtain ⟨B0, b0, rfl⟩ := Kd.R_slice hbd.hc
    obtain ⟨B1, b1, rfl⟩ := Kd.R_slice hbd.ho
    obtain ⟨B2, b2, rfl⟩ := Kd.R_slice hbd.hd
    obtain ⟨B3, b3, rfl⟩ := Kd.R_slice (Kd.S_R hbd.hl)
    obtain ⟨B4, b4, rfl⟩ := Kd.R_slice (Kd.S_R hbd.hs)
    have HB4 := Aside0.mk (HB2.out.trans hB)
    have HRz := Aside0.mk (blk_below HR1.out HB4.out)
    have HBw := Aside0.mk (below_step HB1.out HB4.out)
    have HX := Aside0.mk hbd.box
    have H5 := Aside0.mk hbd.c5
    clear hB HBD HB2 HC HE hw1 hlt hbd
    obtain ⟨k0, k1, k2, k3, k4⟩ := cells5 (show w4.heap[bb]? = some (.cells #[.slice B0 d.code.length b0, .slice B1 d.origs.length b1, .slice B2 d.dests.length b2, .slice B3 d.loops.length b3, .slice B4 d.cases.length b4] _ _) from HX.out)
    obtain ⟨f0, f1, f2, f3, f4⟩ := frozen5 HRz.out
    obtain ⟨r0, r1, r2, r3, r4⟩ := cells5 (show w4.heap[w.heap.size + 1]? = some (.cells #[.slice none 0 0, .slice none 0 0, .slice none 0 0, .slice none 0 0, .slice none 0 0] _ _) from HRz.out)
    have g0 := blk_put HRz.out 0 (.slice B0 d.code.length b0) rfl
    have g1 := blk_put g0 1 (.slice B1 d.origs.length b1) rfl
    have g2 := blk_put g1 2 (.slice B2 d.dests.length b2) rfl
    have g3 := blk_put g2 3 (.slice B3 d.loops.length b3) rfl
    have g4 := blk_put g3 4 (.slice B4 d.cases.length b4) rfl
    have HG4 := Aside0.mk g4
    have H8 := Aside0.mk ((((((((((H5.out).set HRz.out 0 (.slice B0 d.code.length b0))).set g0 1 (.slice B1 d.origs.length b1))).set g1 2 (.slice B2 d.dests.length b2))).set g2 3 (.slice B3 d.loops.length b3))).set g3 4 (.slice B4 d.cases.length b4))
    have HB9 := Aside0.mk ((((((((((HBw.out).setCell (p := ⟨w.heap.size + 1, 0, none⟩) (Nat.le_succ _) (.slice B0 d.code.length b0))).setCell (p := ⟨w.heap.size + 1, 1, none⟩) (Nat.le_succ _) (.slice B1 d.origs.length b1))).setCell (p := ⟨w.heap.size + 1, 2, none⟩) (Nat.le_succ _) (.slice B2 d.dests.length b2))).setCell (p := ⟨w.heap.size + 1, 3, none⟩) (Nat.le_succ _) (.slice B3 d.loops.length b3))).setCell (p := ⟨w.heap.size + 1, 4, none⟩) (Nat.le_succ _) (.slice B4 d.cases.length b4))
    clear g0 g1 g2 g3 g4 HX H5 HRz
    go_wp2_with fail
    obtain ⟨y0, y1, y2, y3, y4⟩ := cells5 HG4.out
    exact bodyPost_ret (v := .tuple #[drV B0 B1 B2 B3 B4 b0 b1 b2 b3 b4 d.code.length d.origs.length d.dests.length d.loops.length d.cases.length, .int .i64 0]) (by simp [results, Try.results10, go_sem, y0, y1, y2, y3, y4]) rfl ⟨HB9.out, _, _, _, _, _, _, _, _, _, _, _, rfl, H8.out.lower HB1.out.size⟩
set_option maxHeartbeats 4000000 in
theorem act_none (h : DrC w A0 A1 A2 A3 A4 c0 c1 c2 c3 c4 code origs dests loops cases) (hf : formedP code origs dests loops cases = true) (hs : Small code origs dests loops cases) (hm : Room ⟨code, origs, dests, loops, cases⟩) (h1 : a < 1 ∨ 15 < a) :
    Calls Try.prog 10 #[drV A0 A1 A2 A3 A4 c0 c1 c2 c3 c4 code.length origs.length dests.length loops.length cases.length, .int .i64 a] w (APost w (.inr 1)) := by
  rcases h1 with h1 | h1
  · have HM := Aside0.mk hm
    have HS := Aside0.mk hs
    clear hm hs
    have t1a : decide (1 ≤ a) = false := decide_eq_false (by omega)
    have t7a : decide (7 ≤ a) = false := decide_eq_false (by omega)
    have t12a : decide (12 ≤ a) = false := decide_eq_false (by omega)
    clear h1
    have hsz : (w.alloc (.cells #[.slice A0 code.length c0, .slice A1 origs.length c1, .slice A2 dests.length c2, .slice A3 loops.length c3, .slice A4 cases.length c4] 26)).heap.size = w.heap.size + 1 := by simp
    have HD := Aside0.mk (blk_alloc (blk_new w (.cells #[.slice A0 code.length c0, .slice A1 origs.length c1, .slice A2 dests.length c2, .slice A3 loops.length c3, .slice A4 cases.length c4] 26)) (.cells #[.slice none 0 0, .slice none 0 0, .slice none 0 0, .slice none 0 0, .slice none 0 0] 26))
    have HR0 := blk_new (w.alloc (.cells #[.slice A0 code.length c0, .slice A1 origs.length c1, .slice A2 dests.length c2, .slice A3 loops.length c3, .slice A4 cases.length c4] 26)) (.cells #[.slice none 0 0, .slice none 0 0, .slice none 0 0, .slice none 0 0, .slice none 0 0] 26)
    rw [hsz] at HR0
    have HR := Aside0.mk HR0
    clear hsz HR0
    have HB := Aside0.mk (below_alloc (below_alloc (Below.refl w.heap.size w) (.cells #[.slice A0 code.length c0, .slice A1 origs.length c1, .slice A2 dests.length c2, .slice A3 loops.length c3, .slice A4 cases.length c4] 26)) (.cells #[.slice none 0 0, .slice none 0 0, .slice none 0 0, .slice none 0 0, .slice none 0 0] 26))
    have H := Aside0.mk h
    have HF := Aside0.mk hf
    clear h hf
    obtain ⟨k0, k1, k2, k3, k4⟩ := cells5 HD.out
    go_enter Try.func10, Try.ntmps10
    go_wp2_with fail
    clear k0 k1 k2 k3 k4
    refine (formed_calls A0 A1 A2 A3 A4 c0 c1 c2 c3 c4 code origs dests loops cases _ (H.out.below HB.out)).mono ?_
    rintro e w1 ⟨rfl, hb1⟩
    rw [HF.out]
    have HB1 := Aside0.mk (below_step HB.out hb1)
    have HD1 := Aside0.mk (blk_below HD.out hb1)
    have HR1 := Aside0.mk (blk_below HR.out hb1)
    clear hb1 HB HD HR
    obtain ⟨k0, k1, k2, k3, k4⟩ := cells5 HD1.out
    go_wp2_with fail
    clear k0 k1 k2 k3 k4
    refine (copied_calls A0 A1 A2 A3 A4 c0 c1 c2 c3 c4 code origs dests loops cases w1 (H.out.below HB1.out) HS.out).mono ?_
    rintro e w2 ⟨v0, v1, v2, v3, v4, o, rfl, h5, hb2⟩
    obtain ⟨B0, b0, rfl⟩ := Kd.R_slice h5.c3.hc
    obtain ⟨B1, b1, rfl⟩ := Kd.R_slice h5.c3.ho
    obtain ⟨B2, b2, rfl⟩ := Kd.R_slice h5.c3.hd
    obtain ⟨B3, b3, rfl⟩ := Kd.R_slice (Kd.S_R h5.hl)
    obtain ⟨B4, b4, rfl⟩ := Kd.R_slice (Kd.S_R h5.hs)
    have HBD := Aside0.mk (BD.of5 h5 hb2.size)
    have hw1 : w.heap.size ≤ w1.heap.size := HB1.out.size
    have HB2 := Aside0.mk (below_alloc hb2 (.cells #[.slice B0 code.length b0, .slice B1 origs.length b1, .slice B2 dests.length b2, .slice B3 loops.length b3, .slice B4 cases.length b4] 53))
    have hlt := blk_lt HR1.out
    clear h5 hb2
    have HB4 := Aside0.mk HB2.out
    have HRz := Aside0.mk (blk_below HR1.out HB4.out)
    have HBw := Aside0.mk (below_step HB1.out HB4.out)
    clear HBD HB2 hw1 hlt
    obtain ⟨f0, f1, f2, f3, f4⟩ := frozen5 HRz.out
    obtain ⟨r0, r1, r2, r3, r4⟩ := cells5 (show (w2.alloc (.cells #[.slice B0 code.length b0, .slice B1 origs.length b1, .slice B2 dests.length b2, .slice B3 loops.length b3, .slice B4 cases.length b4] 53)).heap[w.heap.size + 1]? = some (.cells #[.slice none 0 0, .slice none 0 0, .slice none 0 0, .slice none 0 0, .slice none 0 0] _ _) from HRz.out)
    have g0 := blk_put HRz.out 0 (.slice none 0 0) rfl
    have g1 := blk_put g0 1 (.slice none 0 0) rfl
    have g2 := blk_put g1 2 (.slice none 0 0) rfl
    have g3 := blk_put g2 3 (.slice none 0 0) rfl
    have g4 := blk_put g3 4 (.slice none 0 0) rfl
    have HG4 := Aside0.mk g4
    have HBz := Aside0.mk ((((((HBw.out).setCell (p := ⟨w.heap.size + 1, 0, none⟩) (Nat.le_succ _) (.slice none 0 0)).setCell (p := ⟨w.heap.size + 1, 1, none⟩) (Nat.le_succ _) (.slice none 0 0)).setCell (p := ⟨w.heap.size + 1, 2, none⟩) (Nat.le_succ _) (.slice none 0 0)).setCell (p := ⟨w.heap.size + 1, 3, none⟩) (Nat.le_succ _) (.slice none 0 0)).setCell (p := ⟨w.heap.size + 1, 4, none⟩) (Nat.le_succ _) (.slice none 0 0))
    clear g0 g1 g2 g3 g4
    go_wp2_with fail
    obtain ⟨y0, y1, y2, y3, y4⟩ := cells5 HG4.out
    exact bodyPost_ret (v := .tuple #[zdraft, .int .i64 1]) (by simp [results, Try.results10, go_sem, y0, y1, y2, y3, y4]) rfl ⟨HBz.out, rfl⟩
  · have HM := Aside0.mk hm
    have HS := Aside0.mk hs
    clear hm hs
    have t1a : decide (1 ≤ a) = true := decide_eq_true (by omega)
    have t1b : decide (a ≤ 6) = false := decide_eq_false (by omega)
    have t7a : decide (7 ≤ a) = true := decide_eq_true (by omega)
    have t7b : decide (a ≤ 11) = false := decide_eq_false (by omega)
    have t12a : decide (12 ≤ a) = true := decide_eq_true (by omega)
    have t12b : decide (a ≤ 15) = false := decide_eq_false (by omega)
    clear h1
    have hsz : (w.alloc (.cells #[.slice A0 code.length c0, .slice A1 origs.length c1, .slice A2 dests.length c2, .slice A3 loops.length c3, .slice A4 cases.length c4] 26)).heap.size = w.heap.size + 1 := by simp
    have HD := Aside0.mk (blk_alloc (blk_new w (.cells #[.slice A0 code.length c0, .slice A1 origs.length c1, .slice A2 dests.length c2, .slice A3 loops.length c3, .slice A4 cases.length c4] 26)) (.cells #[.slice none 0 0, .slice none 0 0, .slice none 0 0, .slice none 0 0, .slice none 0 0] 26))
    have HR0 := blk_new (w.alloc (.cells #[.slice A0 code.length c0, .slice A1 origs.length c1, .slice A2 dests.length c2, .slice A3 loops.length c3, .slice A4 cases.length c4] 26)) (.cells #[.slice none 0 0, .slice none 0 0, .slice none 0 0, .slice none 0 0, .slice none 0 0] 26)
    rw [hsz] at HR0
    have HR := Aside0.mk HR0
    clear hsz HR0
    have HB := Aside0.mk (below_alloc (below_alloc (Below.refl w.heap.size w) (.cells #[.slice A0 code.length c0, .slice A1 origs.length c1, .slice A2 dests.length c2, .slice A3 loops.length c3, .slice A4 cases.length c4] 26)) (.cells #[.slice none 0 0, .slice none 0 0, .slice none 0 0, .slice none 0 0, .slice none 0 0] 26))
    have H := Aside0.mk h
    have HF := Aside0.mk hf
    clear h hf
    obtain ⟨k0, k1, k2, k3, k4⟩ := cells5 HD.out
    go_enter Try.func10, Try.ntmps10
    go_wp2_with fail
    clear k0 k1 k2 k3 k4
    refine (formed_calls A0 A1 A2 A3 A4 c0 c1 c2 c3 c4 code origs dests loops cases _ (H.out.below HB.out)).mono ?_
    rintro e w1 ⟨rfl, hb1⟩
    rw [HF.out]
    have HB1 := Aside0.mk (below_step HB.out hb1)
    have HD1 := Aside0.mk (blk_below HD.out hb1)
    have HR1 := Aside0.mk (blk_below HR.out hb1)
    clear hb1 HB HD HR
    obtain ⟨k0, k1, k2, k3, k4⟩ := cells5 HD1.out
    go_wp2_with fail
    clear k0 k1 k2 k3 k4
    refine (copied_calls A0 A1 A2 A3 A4 c0 c1 c2 c3 c4 code origs dests loops cases w1 (H.out.below HB1.out) HS.out).mono ?_
    rintro e w2 ⟨v0, v1, v2, v3, v4, o, rfl, h5, hb2⟩
    obtain ⟨B0, b0, rfl⟩ := Kd.R_slice h5.c3.hc
    obtain ⟨B1, b1, rfl⟩ := Kd.R_slice h5.c3.ho
    obtain ⟨B2, b2, rfl⟩ := Kd.R_slice h5.c3.hd
    obtain ⟨B3, b3, rfl⟩ := Kd.R_slice (Kd.S_R h5.hl)
    obtain ⟨B4, b4, rfl⟩ := Kd.R_slice (Kd.S_R h5.hs)
    have HBD := Aside0.mk (BD.of5 h5 hb2.size)
    have hw1 : w.heap.size ≤ w1.heap.size := HB1.out.size
    have HB2 := Aside0.mk (below_alloc hb2 (.cells #[.slice B0 code.length b0, .slice B1 origs.length b1, .slice B2 dests.length b2, .slice B3 loops.length b3, .slice B4 cases.length b4] 53))
    have hlt := blk_lt HR1.out
    clear h5 hb2
    have HB4 := Aside0.mk HB2.out
    have HRz := Aside0.mk (blk_below HR1.out HB4.out)
    have HBw := Aside0.mk (below_step HB1.out HB4.out)
    clear HBD HB2 hw1 hlt
    obtain ⟨f0, f1, f2, f3, f4⟩ := frozen5 HRz.out
    obtain ⟨r0, r1, r2, r3, r4⟩ := cells5 (show (w2.alloc (.cells #[.slice B0 code.length b0, .slice B1 origs.length b1, .slice B2 dests.length b2, .slice B3 loops.length b3, .slice B4 cases.length b4] 53)).heap[w.heap.size + 1]? = some (.cells #[.slice none 0 0, .slice none 0 0, .slice none 0 0, .slice none 0 0, .slice none 0 0] _ _) from HRz.out)
    have g0 := blk_put HRz.out 0 (.slice none 0 0) rfl
    have g1 := blk_put g0 1 (.slice none 0 0) rfl
    have g2 := blk_put g1 2 (.slice none 0 0) rfl
    have g3 := blk_put g2 3 (.slice none 0 0) rfl
    have g4 := blk_put g3 4 (.slice none 0 0) rfl
    have HG4 := Aside0.mk g4
    have HBz := Aside0.mk ((((((HBw.out).setCell (p := ⟨w.heap.size + 1, 0, none⟩) (Nat.le_succ _) (.slice none 0 0)).setCell (p := ⟨w.heap.size + 1, 1, none⟩) (Nat.le_succ _) (.slice none 0 0)).setCell (p := ⟨w.heap.size + 1, 2, none⟩) (Nat.le_succ _) (.slice none 0 0)).setCell (p := ⟨w.heap.size + 1, 3, none⟩) (Nat.le_succ _) (.slice none 0 0)).setCell (p := ⟨w.heap.size + 1, 4, none⟩) (Nat.le_succ _) (.slice none 0 0))
    clear g0 g1 g2 g3 g4
    go_wp2_with fail
    obtain ⟨y0, y1, y2, y3, y4⟩ := cells5 HG4.out
    exact bodyPost_ret (v := .tuple #[zdraft, .int .i64 1]) (by simp [results, Try.results10, go_sem, y0, y1, y2, y3, y4]) rfl ⟨HBz.out, rfl⟩
theorem act_calls (h : DrC w A0 A1 A2 A3 A4 c0 c1 c2 c3 c4 code origs dests loops cases) (hs : Small code origs dests loops cases) (hm : Room ⟨code, origs, dests, loops, cases⟩) :
    Calls Try.prog 10 #[drV A0 A1 A2 A3 A4 c0 c1 c2 c3 c4 code.length origs.length dests.length loops.length cases.length, .int .i64 a] w (APost w (if formedP code origs dests loops cases = true then actP ⟨code, origs, dests, loops, cases⟩ a else .inr 1)) := by
  by_cases hf : formedP code origs dests loops cases = true
  · rw [if_pos hf]
    by_cases h0 : a < 1 ∨ 15 < a
    · rw [actP_none h0]
      exact act_none A0 A1 A2 A3 A4 c0 c1 c2 c3 c4 code origs dests loops cases a w h hf hs hm h0
    · by_cases h1 : a ≤ 6
      · exact act_branch A0 A1 A2 A3 A4 c0 c1 c2 c3 c4 code origs dests loops cases a w h hf hs hm (by omega) h1
      · by_cases h2 : a ≤ 11
        · exact act_loop A0 A1 A2 A3 A4 c0 c1 c2 c3 c4 code origs dests loops cases a w h hf hs hm (by omega) h2
        · exact act_cases A0 A1 A2 A3 A4 c0 c1 c2 c3 c4 code origs dests loops cases a w h hf hs hm (by omega) (by omega)
  · rw [if_neg hf]
    exact act_bad A0 A1 A2 A3 A4 c0 c1 c2 c3 c4 code origs dests loops cases a w h (by simpa using hf)
end
end Go.Proofs.Ytmglkgjnhoojaaa.PCodeRows
