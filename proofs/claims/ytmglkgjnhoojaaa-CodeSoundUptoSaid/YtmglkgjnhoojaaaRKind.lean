/- The reference's kind and all: what they answer. -/
import Derived.Test.YtmglkgjnhoojaaaAre
import Derived.Test.YtmglkgjnhoojaaaPCodeRowsx2
namespace Go.Proofs.Ytmglkgjnhoojaaa.PCodeRows
open Go.RowKit Go.Proofs.YtmglkgjnhoojaaaW.PrintWords Go.Proofs.YtmglkgjnhoojaaaW.PrintLast Go.Proofs.YtmglkgjnhoojaaaW.PrintMore
set_option linter.unusedVariables false
set_option linter.unusedSimpArgs false
def kindOf (code : List S37) (n : Int) : Int := if 0 ≤ n ∧ n < code.length then (rd_T37 code n).f0 else 0
theorem kind_f (code : List S37) (a b : List Int) (c d : List S59) (n : Int) : tinderref10_kind.f code a b c d n = some (kindOf code n) := by
  unfold tinderref10_kind.f kindOf
  by_cases h0 : n < 0
  · rw [if_pos h0, if_neg (by omega)]
  · rw [if_neg h0]
    by_cases h1 : n ≥ (code.length : Int)
    · rw [if_pos h1, if_neg (by omega)]
    · rw [if_neg h1, if_pos (by omega), if_pos (by omega), if_pos (by omega)]
theorem isOf_kind (code : List S37) (ks : List Int) (h : (0 : Int) ∉ ks) (n : Int) : isOf code ks n = decide (kindOf code n ∈ ks) := by
  unfold isOf kindOf
  by_cases h0 : 0 ≤ n <;> by_cases h1 : n < (code.length : Int) <;> simp [h0, h1, h]
def allK (code : List S37) (l : List Int) (k : Int) : Bool := l.all fun n => decide (kindOf code n = k)
theorem all_f (code : List S37) (o b : List Int) (c d : List S59) (l : List Int) (k : Int) (hl : l.length ≤ 9223372036854775807) : ∀ m i : Nat, i + m = l.length → tinderref10_all.l0 (m + 1) l k (i : Int) code o b c d = some (allK code (l.drop i) k) := by
  intro m
  induction m with
  | zero =>
    intro i hi
    rw [List.drop_eq_nil_of_le (by omega)]
    simp only [tinderref10_all.l0]
    rw [if_neg (by omega)]
    rfl
  | succ m ih =>
    intro i hi
    have h1 : i < l.length := by omega
    have hr : rd l (i : Int) = l[i] := by simp [rd, List.getD_eq_getElem?_getD, h1]
    have hd := List.drop_eq_getElem_cons h1
    rw [hd]
    unfold tinderref10_all.l0
    rw [if_pos (by omega), if_pos (by omega), hr, kind_f, Option.bind_some]
    have hw : wrap64 ((i : Int) + 1) = ((i + 1 : Nat) : Int) := by
      have : wrap64 ((i : Int) + 1) = (i : Int) + 1 := IntWalk.wrap64_in _ ⟨by omega, by omega⟩
      rw [this]; omega
    unfold allK at ih ⊢
    rw [List.all_cons]
    by_cases hx : kindOf code l[i] = k
    · rw [if_pos hx, hw, ih (i + 1) (by omega), decide_eq_true hx, Bool.true_and]
    · rw [if_neg hx, decide_eq_false hx, Bool.false_and]
theorem all_areP (code : List S37) (l : List Int) (k : Int) (hk : k ≠ 0) : allK code l k = areP code l [k] := by
  unfold allK areP
  congr 1
  funext n
  rw [isOf_kind code [k] (by simp; omega)]
  simp
theorem kind_calls (A0 A1 A2 A3 A4 : Option Addr) (c0 c1 c2 c3 c4 : Nat) (code : List S37) (origs dests : List Int) (loops cases : List S59) (w : World)
    (h : DrC w A0 A1 A2 A3 A4 c0 c1 c2 c3 c4 code origs dests loops cases) (n : Int) :
    Calls Try.prog 30 #[drV A0 A1 A2 A3 A4 c0 c1 c2 c3 c4 code.length origs.length dests.length loops.length cases.length, .int .i64 n] w fun e w' => e = .returned (.int .i64 (kindOf code n)) ∧ Below w.heap.size w w' :=
  tinderref10_kind.calls A0 c0 code A1 c1 origs A2 c2 dests A3 c3 loops A4 c4 cases n _ w h.r0 h.l0 h.r1 h.l1 h.r2 h.l2 h.r3 h.l3 h.r4 h.l4 (kind_f _ _ _ _ _ _)
theorem all_calls (A0 A1 A2 A3 A4 : Option Addr) (c0 c1 c2 c3 c4 : Nat) (code : List S37) (origs dests : List Int) (loops cases : List S59) (w : World)
    (h : DrC w A0 A1 A2 A3 A4 c0 c1 c2 c3 c4 code origs dests loops cases) (B : Option Addr) (cB : Nat) (l : List Int) (k : Int) (hk : k ≠ 0) (hB : Kd.C (Kd.int .i64) w B l.length l) (hcB : l.length ≤ cB) :
    Calls Try.prog 31 #[drV A0 A1 A2 A3 A4 c0 c1 c2 c3 c4 code.length origs.length dests.length loops.length cases.length, .slice B l.length cB, .int .i64 k] w fun e w' => e = .returned (.bool (areP code l [k])) ∧ Below w.heap.size w w' :=
  tinderref10_all.calls (l.length + 1) A0 c0 code A1 c1 origs A2 c2 dests A3 c3 loops A4 c4 cases B cB l k _ w h.r0 h.l0 h.r1 h.l1 h.r2 h.l2 h.r3 h.l3 h.r4 h.l4 hB hcB (by
    rw [← all_areP code l k hk]
    have := all_f code origs dests loops cases l k hB.2.1 l.length 0 (by omega)
    rw [List.drop_zero] at this
    exact this)
theorem DrC.below {w w' : World} {A0 A1 A2 A3 A4 : Option Addr} {c0 c1 c2 c3 c4 : Nat} {code : List S37} {origs dests : List Int} {loops cases : List S59}
    (h : DrC w A0 A1 A2 A3 A4 c0 c1 c2 c3 c4 code origs dests loops cases) (hb : Below w.heap.size w w') : DrC w' A0 A1 A2 A3 A4 c0 c1 c2 c3 c4 code origs dests loops cases :=
  ⟨Kd.C_below h.r0 hb, Kd.C_below h.r1 hb, Kd.C_below h.r2 hb, Kd.C_below h.r3 hb, Kd.C_below h.r4 hb, h.l0, h.l1, h.l2, h.l3, h.l4⟩
end Go.Proofs.Ytmglkgjnhoojaaa.PCodeRows
