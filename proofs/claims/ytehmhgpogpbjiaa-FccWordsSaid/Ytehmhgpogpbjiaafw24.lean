/- Literal, of the program (39) and of the reference (48): the plain law. -/
import Derived.Test.Ytehmhgpogpbjiaafw21
import Derived.Test.Ytehmhgpogpbjiaafw22
import Derived.Test.Ytehmhgpogpbjiaafw23
import Derived.Test.Ytehmhgpogpbjiaafw04
namespace Go.Proofs.Ytehmhgpogpbjiaa.Fcc
open Go.RowKit Go.Proofs.YtehmhgpogpbjiaaW.PrintWords Go.Proofs.YtehmhgpogpbjiaaW.PrintLast Go.Proofs.YtehmhgpogpbjiaaW.PrintMore Go.Proofs.Ytehmhgpogpbjiaa.PFccTokens
set_option linter.unusedVariables false
set_option linter.unusedSimpArgs false
def valP (base b : Int) : Int × Bool := (digit_Value.f 10 b base).getD (0, false)
set_option maxRecDepth 100000 in
theorem val_all : ∀ base ∈ ([2, 8, 10, 16] : List Int), ∀ b : Fin 256, digit_Value.f 10 (b.val : Int) base = some (valP base b.val) ∧ tinderref02_Value.f 50 (b.val : Int) base = some (valP base b.val) ∧ 0 ≤ (valP base b.val).1 ∧ (valP base b.val).1 < 16 := by
  decide +kernel
theorem val_ev {base : Int} (hb : base ∈ ([2, 8, 10, 16] : List Int)) (s : ByteArray) (i : Int) : Ev (fun k => digit_Value.f k (bt s i) base) (valP base (bt s i)) ∧ Ev (fun k => tinderref02_Value.f k (bt s i) base) (valP base (bt s i)) ∧ 0 ≤ (valP base (bt s i)).1 ∧ (valP base (bt s i)).1 < 16 := by
  have hr := bt_range s i
  obtain ⟨n, hn⟩ : ∃ n : Nat, bt s i = n := ⟨(bt s i).toNat, by omega⟩
  have h := val_all base hb ⟨n, by omega⟩
  rw [hn]
  exact ⟨Ev.of (g := fun k => digit_Value.f k n base) (digit_Value.mono _ _) h.1, Ev.of (g := fun k => tinderref02_Value.f k n base) (tinderref02_Value.mono _ _) h.2.1, h.2.2⟩
def numI (base : Int) (s : ByteArray) : Nat → Nat → Int → Bool → Option (Int × Bool)
  | 0, _, n, big => some (n, big)
  | f + 1, i, n, big => if (valP base (bt s i)).2 = true then (if big = true then numI base s f (i + 1) n true else if n * base + (valP base (bt s i)).1 > 4294967295 then numI base s f (i + 1) 0 true else numI base s f (i + 1) (n * base + (valP base (bt s i)).1) false) else none
def outP (neg : Bool) : Option (Int × Bool) → Int × Int
  | none => (0, 15)
  | some (_, true) => (0, 4)
  | some (n, false) => (if neg = true then (4294967296 - n) % 4294967296 else n, 0)
theorem uw {x : Int} (h : 0 ≤ x) (h2 : x < 18446744073709551616) : IntKind.u64.wrap x = x := by rw [IntKind.wrap_u64]; omega
theorem mulb {base n : Int} (hb : base ∈ ([2, 8, 10, 16] : List Int)) (h : 0 ≤ n) (h1 : n ≤ 4294967296) : 0 ≤ n * base ∧ n * base ≤ 68719476736 ∧ 0 ≤ base ∧ base ≤ 16 := by
  simp only [List.mem_cons, List.not_mem_nil, or_false] at hb
  rcases hb with rfl | rfl | rfl | rfl <;> omega
theorem mulbig {base : Int} (hb : base ∈ ([2, 8, 10, 16] : List Int)) : 4294967295 < 4294967296 * base := by
  simp only [List.mem_cons, List.not_mem_nil, or_false] at hb
  rcases hb with rfl | rfl | rfl | rfl <;> decide
theorem dp_loop {base : Int} (hb : base ∈ ([2, 8, 10, 16] : List Int)) (s : ByteArray) (hs : s.size ≤ maxLen) (neg : Bool) : ∀ (f i : Nat) (n : Int) (big : Bool), i + f = s.size → 0 ≤ n → n < 4294967296 →
    Ev (fun k => digit_Parse.l0 k base s neg (if big = true then 4294967296 else n) (if big = true then 4 else 0) (s.size : Int) (i : Int)) (outP neg (numI base s f i n big)) := by
  intro f
  have hM : maxLen = 9223372036854775807 := rfl
  induction f with
  | zero =>
    intro i n big hi h0 h1
    have hlt : ¬ ((i : Int) < (s.size : Int)) := by omega
    refine Ev.step (f := fun _ => some (outP neg (numI base s 0 i n big))) (fun k => ?_) (Ev.now _)
    unfold digit_Parse.l0
    rw [if_neg hlt]
    cases big
    · simp only [numI, outP, Bool.false_eq_true, if_false, if_true]
      cases neg
      · simp only [Bool.false_eq_true, if_false]
        rw [Int.emod_eq_of_lt h0 h1]
      · simp only [if_true]
        rw [IntKind.wrap_u64]
        have : (-n % 18446744073709551616) % 4294967296 = (4294967296 - n) % 4294967296 := by omega
        rw [this]
    · simp [numI, outP]
  | succ f ih =>
    intro i n big hi h0 h1
    obtain ⟨hv, -, v0, v1⟩ := val_ev hb s (i : Int)
    have hlt : (i : Int) < (s.size : Int) := by omega
    have h0i : (0 : Int) ≤ (i : Int) := by omega
    have hw : wrap64 ((i : Int) + 1) = ((i + 1 : Nat) : Int) := by rw [IntWalk.wrap64_in _ ⟨by omega, by omega⟩]; omega
    refine Ev.step (f := fun k => digit_Parse.l0 (k + 1) base s neg (if big = true then 4294967296 else n) (if big = true then 4 else 0) (s.size : Int) (i : Int)) (fun k => rfl) ?_
    simp only [digit_Parse.l0, hlt, h0i, ↓reduceIte]
    refine Ev.bind hv ?_
    simp only [numI]
    generalize valP base (bt s (i : Int)) = v at v0 v1 ⊢
    obtain ⟨v, ok⟩ := v
    dsimp only at v0 v1 ⊢
    rw [hw]
    cases ok with
    | false => simp only [Bool.false_eq_true, if_false]; exact Ev.now _
    | true =>
      simp only [if_true]
      cases big with
      | true =>
        have hm := mulb hb (n := 4294967296) (by decide) (by decide)
        have hg := mulbig hb
        simp only [if_true]
        rw [uw hm.2.2.1 (by omega), uw v0 (by omega), uw hm.1 (by omega), uw (by omega) (by omega)]
        have hgg : 4294967296 * base + v > 4294967295 := by omega
        simp only [if_pos hgg]
        exact ih (i + 1) n true (by omega) h0 h1
      | false =>
        have hm := mulb hb h0 (by omega)
        simp only [Bool.false_eq_true, if_false]
        rw [uw hm.2.2.1 (by omega), uw v0 (by omega), uw hm.1 (by omega), uw (by omega) (by omega)]
        by_cases hg : n * base + v > 4294967295
        · simp only [if_pos hg]
          exact ih (i + 1) 0 true (by omega) (by decide) (by decide)
        · simp only [if_neg hg]
          exact ih (i + 1) _ false (by omega) (by omega) (by omega)
def restP (s : ByteArray) : ByteArray := if bt s 0 = 45 then s.extract 1 s.size else s
def parseP (s : ByteArray) (base : Int) : Int × Int := if (restP s).size = 0 then (0, 15) else outP (decide (bt s 0 = 45)) (numI base (restP s) (restP s).size 0 0 false)
theorem rest_size (s : ByteArray) : (restP s).size ≤ s.size := by
  unfold restP; split
  · simp
  · exact Nat.le_refl _
theorem bt_zero {s : ByteArray} (h : s.size = 0) : bt s 0 = 0 := by unfold bt; rw [dif_neg (by rw [h]; decide)]
theorem cutp (s : ByteArray) (hs : s.size ≤ maxLen) : strings_CutPrefix.f s ⟨#[45]⟩ = some (restP s, decide (bt s 0 = 45)) := by
  have h1 : ((⟨#[45]⟩ : ByteArray).size : Int) = 1 := rfl
  unfold strings_CutPrefix.f stringslite_CutPrefix.f stringslite_HasPrefix.f
  rw [h1]
  by_cases h : s.size = 0
  · have hb : ¬ bt s 0 = 45 := by rw [bt_zero h]; decide
    have hg : ¬ ((s.size : Int) ≥ 1) := by omega
    simp only [if_neg hg, Option.bind_some, Bool.false_eq_true, if_false, restP, if_neg hb, decide_eq_false hb]
  · have hg : (s.size : Int) ≥ 1 := by omega
    have hg2 : (1 : Int) ≤ (s.size : Int) := hg
    have he : ((s.extract 0 ((1 : Int) : Int).toNat).toList == (⟨#[45]⟩ : ByteArray).toList) = decide (bt s 0 = 45) := by
      have e1 : (s.extract 0 1).toList = [s[0]'(by omega)] := by
        rw [Go.Lib.toList_data]
        obtain ⟨⟨l⟩⟩ := s
        cases l with
        | nil => exact absurd rfl h
        | cons a l => simp [ByteArray.extract, ByteArray.copySlice]; rfl
      have e2 : bt s 0 = ((s[0]'(by omega)).toNat : Int) := (bt_at s 0 (by simp; omega)).symm
      rw [show ((1 : Int)).toNat = 1 from rfl, e1, e2, Go.Lib.toList_data]
      generalize (s[0]'(by omega)) = a
      by_cases ha : a = 45
      · subst ha; rfl
      · have hn : ¬ ((a.toNat : Int) = 45) := fun e => ha (UInt8.toNat_inj.1 (by show a.toNat = 45; omega))
        rw [decide_eq_false hn]
        show ([a] == [(45 : UInt8)]) = false
        exact beq_eq_false_iff_ne.2 fun e => ha (List.cons.inj e).1
    rw [he]
    by_cases hb : bt s 0 = 45
    · simp only [if_pos hg, if_pos hg2, decide_eq_true hb, Option.bind_some, if_true, restP, if_pos hb, show (0 : Int) ≤ 1 by decide, show ((1 : Int)).toNat = 1 from rfl]
    · simp only [if_pos hg, if_pos hg2, decide_eq_false hb, Option.bind_some, if_true, restP, if_neg hb, show (0 : Int) ≤ 1 by decide, Bool.false_eq_true, if_false]
theorem empty_iff (s : ByteArray) : (s.toList = ([] : List UInt8)) ↔ s.size = 0 := by
  rw [Go.Lib.toList_data s]
  constructor
  · intro h; have := congrArg List.length h; simpa using this
  · intro h; exact List.length_eq_zero_iff.1 (by simpa using h)
theorem dparse_ev {base : Int} (hb : base ∈ ([2, 8, 10, 16] : List Int)) (s : ByteArray) (hs : s.size ≤ maxLen) : Ev (fun k => digit_Parse.f k s base) (parseP s base) := by
  have hf : digit_fit.f base = some true := by
    simp only [List.mem_cons, List.not_mem_nil, or_false] at hb
    rcases hb with rfl | rfl | rfl | rfl <;> rfl
  unfold digit_Parse.f
  simp only [hf, Option.bind_some, if_true, cutp s hs, empty_iff]
  unfold parseP
  by_cases h : (restP s).size = 0
  · simp only [if_pos h]; exact Ev.now _
  · simp only [if_neg h]
    exact dp_loop hb (restP s) (Nat.le_trans (rest_size s) hs) _ (restP s).size 0 0 false (by omega) (by decide) (by decide)
end Go.Proofs.Ytehmhgpogpbjiaa.Fcc

/- Literal: litP; the contracts of the program's (39) and of the reference's (48). -/
namespace Go.Proofs.Ytehmhgpogpbjiaa.Fcc
open Go.RowKit Go.Proofs.YtehmhgpogpbjiaaW.PrintWords Go.Proofs.YtehmhgpogpbjiaaW.PrintLast Go.Proofs.YtehmhgpogpbjiaaW.PrintMore Go.Proofs.Ytehmhgpogpbjiaa.PFccTokens
set_option linter.unusedVariables false
set_option linter.unusedSimpArgs false
def smallP (b : Int) : Int := (tinderref02_Small.f b).getD 0
def baseP (b : Int) : Int := if smallP b = 104 then 16 else if smallP b = 111 then 8 else if smallP b = 98 then 2 else if smallP b = 100 then 10 else 0
set_option maxRecDepth 100000 in
theorem base_all : ∀ b : Fin 256, tinderref02_Small.f (b.val : Int) = some (smallP b.val) ∧ digit_bases.f (b.val : Int) = some (baseP b.val) := by
  decide +kernel
theorem base_of (s : ByteArray) (i : Int) : tinderref02_Small.f (bt s i) = some (smallP (bt s i)) ∧ digit_bases.f (bt s i) = some (baseP (bt s i)) := by
  have hr := bt_range s i
  obtain ⟨n, hn⟩ : ∃ n : Nat, bt s i = n := ⟨(bt s i).toNat, by omega⟩
  rw [hn]
  exact base_all ⟨n, by omega⟩
def okP (p : Int × Int) : Option Int := if p.2 = 0 then some p.1 else none
def litP (s : ByteArray) : Option Int :=
  if s.size > 2 ∧ bt s 1 = 35 then (if baseP (bt s 0) = 0 then none else okP (parseP (s.extract 2 s.size) (baseP (bt s 0)))) else okP (parseP s 10)
theorem base_mem (b : Int) (h : ¬ baseP b = 0) : baseP b ∈ ([2, 8, 10, 16] : List Int) := by
  unfold baseP at h ⊢
  repeat' split
  all_goals simp_all
theorem okP_p (p : Int × Int) : ∃ z, (if p.2 = 0 then some (p.1, true) else some ((0 : Int), false)) = some ((okP p).getD z, (okP p).isSome) := by
  unfold okP; split
  · exact ⟨0, rfl⟩
  · exact ⟨0, rfl⟩
theorem ext_size (s : ByteArray) (hs : s.size ≤ maxLen) : (s.extract 2 s.size).size ≤ maxLen := by
  have : (s.extract 2 s.size).size ≤ s.size := by simp
  omega
theorem dlit_ev (s : ByteArray) (hs : s.size ≤ maxLen) : ∃ z, Ev (fun k => digit_Literal.f k s) ((litP s).getD z, (litP s).isSome) := by
  unfold digit_Literal.f
  have plain : ∃ z, Ev (fun k => digit_Literal.j0 k s 10 false) ((okP (parseP s 10)).getD z, (okP (parseP s 10)).isSome) := by
    obtain ⟨z, hz⟩ := okP_p (parseP s 10)
    refine ⟨z, ?_⟩
    refine Ev.step (f := fun k => digit_Literal.j0 (k + 1) s 10 false) (fun k => rfl) ?_
    simp only [digit_Literal.j0, Bool.false_eq_true, if_false]
    refine Ev.bind (dparse_ev (by simp) s hs) ?_
    simp only [hz]
    exact Ev.now _
  by_cases h2 : s.size > 2
  · simp only [if_pos (show (s.size : Int) > 2 by omega), if_pos (show (1 : Int) < (s.size : Int) by omega)]
    by_cases h1 : bt s 1 = 35
    · have e : litP s = (if baseP (bt s 0) = 0 then none else okP (parseP (s.extract 2 s.size) (baseP (bt s 0)))) := by unfold litP; rw [if_pos ⟨h2, h1⟩]
      rw [e, beq_iff_eq.2 h1]
      by_cases h0 : baseP (bt s 0) = 0
      · refine ⟨0, ?_⟩
        refine Ev.step (f := fun k => digit_Literal.j0 (k + 1) s 10 true) (fun k => rfl) ?_
        simp only [digit_Literal.j0, if_true, if_pos (show (0 : Int) < (s.size : Int) by omega), if_pos (show (2 : Int) ≤ (s.size : Int) by omega), (base_of s 0).2, Option.bind_some, h0]
        refine Ev.bind (a := (0, 1)) ?_ ?_
        · have : ∀ k, digit_Parse.f k (s.extract 2 s.size) 0 = some (0, 1) := fun k => rfl
          exact Ev.congr this (Ev.now _)
        · exact Ev.now _
      · obtain ⟨z, hz⟩ := okP_p (parseP (s.extract 2 s.size) (baseP (bt s 0)))
        refine ⟨z, ?_⟩
        rw [if_neg h0]
        refine Ev.step (f := fun k => digit_Literal.j0 (k + 1) s 10 true) (fun k => rfl) ?_
        simp only [digit_Literal.j0, if_true, if_pos (show (0 : Int) < (s.size : Int) by omega), if_pos (show (2 : Int) ≤ (s.size : Int) by omega), (base_of s 0).2, Option.bind_some]
        refine Ev.bind (dparse_ev (base_mem _ h0) _ (ext_size s hs)) ?_
        simp only [hz]
        exact Ev.now _
    · have e : litP s = okP (parseP s 10) := by unfold litP; rw [if_neg (fun h => h1 h.2)]
      rw [e, beq_eq_false_iff_ne.2 h1]
      exact plain
  · have e : litP s = okP (parseP s 10) := by unfold litP; rw [if_neg (fun h => h2 h.1)]
    rw [e]
    simp only [if_neg (show ¬ (s.size : Int) > 2 by omega)]
    exact plain
theorem below_drawn {w w' : World} (h : Drawn0 w w') : Below w.heap.size w w' := by
  obtain ⟨n, rfl⟩ := h
  exact pw_below_drewN (Below.refl _ _) n
theorem lit_contract : LitC litP := by
  intro s W hs
  obtain ⟨z, hz⟩ := dlit_ev s hs
  obtain ⟨k, h⟩ := hz.rounds
  exact (digit_Literal.calls k s _ _ W h).mono fun e w' ⟨he, hd⟩ => ⟨⟨z, he⟩, below_drawn hd⟩
theorem num_range {base : Int} (hb : base ∈ ([2, 8, 10, 16] : List Int)) (s : ByteArray) : ∀ (f i : Nat) (n : Int) (big : Bool), 0 ≤ n → n < 4294967296 → ∀ r, numI base s f i n big = some (r, false) → 0 ≤ r ∧ r < 4294967296 := by
  intro f
  induction f with
  | zero =>
    intro i n big h0 h1 r h
    unfold numI at h
    obtain ⟨rfl, -⟩ := Prod.mk.inj (Option.some.inj h)
    exact ⟨h0, h1⟩
  | succ f ih =>
    intro i n big h0 h1 r h
    obtain ⟨-, -, v0, v1⟩ := val_ev hb s (i : Int)
    have hm := mulb hb h0 (by omega)
    unfold numI at h
    by_cases hv : (valP base (bt s i)).2 = true
    · rw [if_pos hv] at h
      by_cases hg : big = true
      · rw [if_pos hg] at h; exact ih _ _ _ h0 h1 r h
      · rw [if_neg hg] at h
        by_cases hx : n * base + (valP base (bt s i)).1 > 4294967295
        · rw [if_pos hx] at h; exact ih _ _ _ (by decide) (by decide) r h
        · rw [if_neg hx] at h; exact ih _ _ _ (by omega) (by omega) r h
    · rw [if_neg hv] at h; cases h
theorem out_range {neg : Bool} {o : Option (Int × Bool)} (h : ∀ r, o = some (r, false) → 0 ≤ r ∧ r < 4294967296) : 0 ≤ (outP neg o).1 ∧ (outP neg o).1 < 4294967296 := by
  match o, h with
  | none, _ => exact ⟨(by decide : (0 : Int) ≤ 0), (by decide : (0 : Int) < 4294967296)⟩
  | some (_, true), _ => exact ⟨(by decide : (0 : Int) ≤ 0), (by decide : (0 : Int) < 4294967296)⟩
  | some (n, false), h =>
    have hn := h n rfl
    unfold outP; dsimp only; split <;> omega
theorem parse_range {base : Int} (hb : base ∈ ([2, 8, 10, 16] : List Int)) (s : ByteArray) : 0 ≤ (parseP s base).1 ∧ (parseP s base).1 < 4294967296 := by
  unfold parseP; split
  · exact ⟨by decide, by decide⟩
  · exact out_range fun r h => num_range hb _ _ _ _ _ (by decide) (by decide) r h
theorem ok_range {p : Int × Int} (h : 0 ≤ p.1 ∧ p.1 < 4294967296) (v : Int) (e : okP p = some v) : 0 ≤ v ∧ v < 4294967296 := by
  unfold okP at e; split at e
  · obtain rfl := Option.some.inj e; exact h
  · cases e
theorem lit_range (s : ByteArray) (v : Int) (e : litP s = some v) : 0 ≤ v ∧ v < 4294967296 := by
  unfold litP at e
  split at e
  · split at e
    · cases e
    · rename_i h; exact ok_range (parse_range (base_mem _ h) _) v e
  · exact ok_range (parse_range (by simp) _) v e
end Go.Proofs.Ytehmhgpogpbjiaa.Fcc

/- fcc.Tokens (7): what it answers for every text. -/
namespace Go.Proofs.Ytehmhgpogpbjiaa.Fcc
open Go.RowKit Go.Proofs.YtehmhgpogpbjiaaW.PrintWords Go.Proofs.YtehmhgpogpbjiaaW.PrintLast Go.Proofs.YtehmhgpogpbjiaaW.PrintMore Go.Proofs.Ytehmhgpogpbjiaa.PFccTokens
set_option linter.unusedVariables false
set_option linter.unusedSimpArgs false
set_option maxRecDepth 100000
theorem prims_small : primsL.length ≤ 1000 ∧ ∀ p ∈ primsL, p.f0.size ≤ maxLen ∧ 0 ≤ p.f1 ∧ p.f1 ≤ 4095 := by decide +kernel
noncomputable def toksP (s : ByteArray) : List S37 × Int := if (cutP s).2 = 0 then tokensP isName (primsL.map pr).reverse litP sizeP (cutP s).1 else ([], (cutP s).2)
theorem tokens_calls (s : ByteArray) (hs : s.size ≤ maxLen) (w : World) : Calls Try.prog 7 #[.string s] w (TPost (toksP s) w) := by
  unfold toksP
  by_cases he : (cutP s).2 = 0
  · rw [if_pos he]
    exact tokens_ok acts_calls lit_contract lit_range named_contract prims_contract prims_small.1 prims_small.2 cut_contract cut_ok s hs he
  · rw [if_neg he]
    exact tokens_err cut_contract s hs he
end Go.Proofs.Ytehmhgpogpbjiaa.Fcc

/- The tokens of plain words and numbers: one behind the other. -/
namespace Go.Proofs.Ytehmhgpogpbjiaa.Fcc
open Go.RowKit Go.Proofs.Ytehmhgpogpbjiaa Go.Proofs.YtehmhgpogpbjiaaW.PrintWords Go.Proofs.YtehmhgpogpbjiaaW.PrintLast Go.Proofs.YtehmhgpogpbjiaaW.PrintMore Go.Proofs.Ytehmhgpogpbjiaa.PFccTokens
set_option linter.unusedVariables false
set_option linter.unusedSimpArgs false
/-- A word that the text's own words don't change. -/
def plainW (s : ByteArray) : Prop := insideP s = false ∧ outsideP s = false ∧ s.toList ≠ ([39] : List UInt8) ∧ s.toList ≠ ([116, 111] : List UInt8)
instance (s : ByteArray) : Decidable (plainW s) := by unfold plainW; infer_instance
/-- What it is made. -/
def wantP (prims : List (ByteArray × Int)) (lit : ByteArray → Option Int) (s : ByteArray) : Option Tk :=
  match (prims.find? (fun p => decide (p.1 = s))).map (·.2) with
  | some c => some ⟨c, 0, emp, 0⟩
  | none => (lit s).map fun v => ⟨16, v, emp, 0⟩
theorem one_plain {named : ByteArray → Bool} {prims : List (ByteArray × Int)} {lit : ByteArray → Option Int} {m : Mk} {s : ByteArray} {t : Tk} (hp : plainW s) (hn : m.names = []) (hw : wantP prims lit s = some t) : oneP named prims lit m s = .inl { m with out := m.out ++ [t] } := by
  obtain ⟨h1, h2, h3, h4⟩ := hp
  unfold oneP
  rw [h1, h2]
  simp only [Bool.false_and, Bool.or_self, Bool.false_eq_true, if_false, if_neg h3, if_neg h4]
  unfold wantP at hw
  have hf : findP prims m s = (prims.find? (fun p => decide (p.1 = s))).map (·.2) := by unfold findP; rw [hn]; rfl
  rw [hf]
  generalize (prims.find? (fun p => decide (p.1 = s))).map (·.2) = c at hw ⊢
  cases c with
  | some c => simp only [Option.some.injEq] at hw; subst hw; rfl
  | none =>
    simp only at hw ⊢
    cases hl : lit s with
    | none => rw [hl] at hw; cases hw
    | some v => rw [hl] at hw; simp only [Option.map_some, Option.some.injEq] at hw; subst hw; rfl
theorem all_plain {named : ByteArray → Bool} {prims : List (ByteArray × Int)} {lit : ByteArray → Option Int} : ∀ (ts : List Tin) (ws : List Tk) (m : Mk), m.inp = ts → m.names = [] → (∀ t ∈ ts, t.f0 = 1 ∧ plainW t.f1) → ts.map (fun t => wantP prims lit t.f1) = ws.map some →
    allP named prims lit ts.length m = .inl { m with inp := [], out := m.out ++ ws }
  | [], ws, m, hi, hn, hp, hw => by
    obtain rfl : ws = [] := by cases ws with | nil => rfl | cons a l => cases hw
    obtain ⟨inp, out, names, next, opn, name, code, o1, o2, o3, o4, o5⟩ := m
    simp only at hi
    subst hi
    simp [allP]
  | t :: ts, ws, m, hi, hn, hp, hw => by
    cases ws with
    | nil => cases hw
    | cons x ws =>
      simp only [List.map_cons, List.cons.injEq] at hw
      obtain ⟨h0, h1⟩ := hp t (by simp)
      have ht : tokP named prims lit { m with inp := ts } t = .inl { m with inp := ts, out := m.out ++ [x] } := by
        unfold tokP
        rw [if_pos h0]
        exact one_plain h1 hn hw.1
      show allP named prims lit (ts.length + 1) m = _
      unfold allP
      rw [hi]
      simp only [ht]
      rw [all_plain ts ws { m with inp := ts, out := m.out ++ [x] } rfl hn (fun t ht => hp t (by simp [ht])) hw.2]
      simp
theorem tokens_plain {named : ByteArray → Bool} {prims : List (ByteArray × Int)} {lit : ByteArray → Option Int} {size : Tk → Int} (ts : List Tin) (ws : List Tk) (hp : ∀ t ∈ ts, t.f0 = 1 ∧ plainW t.f1) (hw : ts.map (fun t => wantP prims lit t.f1) = ws.map some) :
    tokensP named prims lit size ts = (ws ++ [⟨0, 0, emp, 0⟩], 0) := by
  unfold tokensP
  rw [all_plain ts ws (start ts) rfl rfl hp hw]
  simp [start, aimP, Mk.add]
/-- The program's tokens of a text of plain words. -/
theorem words_toks (l : List (List UInt8 × UInt8)) (ws : List Tk) (h : ∀ p ∈ l, okW p.1 ∧ isB p.2 = true) (hs : (itemsT l).length ≤ 4096) (hp : ∀ p ∈ l, plainW (byt (p.1.map small8)))
    (hw : l.map (fun p => wantP (primsL.map pr).reverse litP (byt (p.1.map small8))) = ws.map some) : toksP (byt (itemsT l)) = (ws ++ [⟨0, 0, emp, 0⟩], 0) := by
  obtain ⟨h0, hm⟩ := words_cut l h hs
  unfold toksP
  rw [if_pos h0]
  generalize (cutP (byt (itemsT l))).1 = ts at hm
  have h1 : ∀ t ∈ ts, t.f0 = 1 ∧ plainW t.f1 := by
    intro t ht
    have : (t.f0, t.f1) ∈ l.map (fun p => ((1 : Int), byt (p.1.map small8))) := hm ▸ List.mem_map_of_mem ht
    obtain ⟨p, hpm, e⟩ := List.mem_map.1 this
    obtain ⟨e1, e2⟩ := Prod.mk.inj e
    rw [← e1, ← e2]
    exact ⟨rfl, hp p hpm⟩
  refine tokens_plain ts ws h1 ?_
  rw [← hw]
  have h2 : ts.map (fun t => t.f1) = l.map (fun p => byt (p.1.map small8)) := by
    have := congrArg (List.map Prod.snd) hm
    simpa [List.map_map, Function.comp_def] using this
  have h3 := congrArg (List.map (wantP (primsL.map pr).reverse litP)) h2
  simpa [List.map_map, Function.comp_def] using h3
end Go.Proofs.Ytehmhgpogpbjiaa.Fcc

/- Names of the dictionary, and numbers with h#, are plain words. -/
namespace Go.Proofs.Ytehmhgpogpbjiaa.Fcc
open Go.RowKit Go.Proofs.Ytehmhgpogpbjiaa Go.Proofs.YtehmhgpogpbjiaaW.PrintWords Go.Proofs.YtehmhgpogpbjiaaW.PrintLast Go.Proofs.YtehmhgpogpbjiaaW.PrintMore Go.Proofs.Ytehmhgpogpbjiaa.PFccTokens
set_option linter.unusedVariables false
set_option linter.unusedSimpArgs false
set_option maxRecDepth 100000
instance (w : List UInt8) : Decidable (specW w) := by unfold specW; infer_instance
instance (w : List UInt8) : Decidable (okW w) := by unfold okW; infer_instance
theorem prim_facts : ∀ p ∈ primsL, okW p.f0.data.toList ∧ plainW (byt (p.f0.data.toList.map small8)) ∧ ((primsL.map pr).reverse.find? (fun q => decide (q.1 = byt (p.f0.data.toList.map small8)))).map (·.2) = some p.f1 ∧ p.f0.size ≤ 24 := by
  decide +kernel
theorem prim_want (p : S34) (h : p ∈ primsL) : wantP (primsL.map pr).reverse litP (byt (p.f0.data.toList.map small8)) = some ⟨p.f1, 0, emp, 0⟩ := by
  unfold wantP
  rw [(prim_facts p h).2.2.1]
def hexd (d : Nat) : UInt8 := if d < 10 then 48 + d.toUInt8 else 87 + d.toUInt8
theorem hexd_facts : ∀ d : Fin 16, isB (hexd d.val) = false ∧ small8 (hexd d.val) = hexd d.val ∧ valP 16 ((hexd d.val).toNat : Int) = ((d.val : Int), true) := by
  decide +kernel
def hexW (a b c d e f g h : Fin 16) : List UInt8 := [104, 35, hexd a, hexd b, hexd c, hexd d, hexd e, hexd f, hexd g, hexd h]
theorem hex_small (a b c d e f g h : Fin 16) : (hexW a b c d e f g h).map small8 = hexW a b c d e f g h := by
  unfold hexW
  simp only [List.map_cons, List.map_nil, (hexd_facts a).2.1, (hexd_facts b).2.1, (hexd_facts c).2.1, (hexd_facts d).2.1, (hexd_facts e).2.1, (hexd_facts f).2.1, (hexd_facts g).2.1, (hexd_facts h).2.1]
  rfl
theorem hex_ok (a b c d e f g h : Fin 16) : okW (hexW a b c d e f g h) := by
  refine ⟨by simp [hexW], ?_, ?_⟩
  · intro x hx
    simp only [hexW, List.mem_cons, List.not_mem_nil, or_false] at hx
    rcases hx with rfl | rfl | rfl | rfl | rfl | rfl | rfl | rfl | rfl | rfl
    · decide
    · decide
    all_goals exact (hexd_facts _).1
  · unfold specW hexW; simp
theorem hex_plain (a b c d e f g h : Fin 16) : plainW (byt (hexW a b c d e f g h)) := by
  have hl : (byt (hexW a b c d e f g h)).toList = hexW a b c d e f g h := by rw [Go.Lib.toList_data]; simp [byt]
  unfold plainW insideP outsideP tableP makesP
  simp only [hl]
  simp [hexW]
theorem num_step {s : ByteArray} {f i : Nat} {n : Int} {d : Fin 16} (hb : bt s (i : Int) = ((hexd d.val).toNat : Int)) (hn : n * 16 + (d.val : Int) ≤ 4294967295) : numI 16 s (f + 1) i n false = numI 16 s f (i + 1) (n * 16 + (d.val : Int)) false := by
  conv => lhs; unfold numI
  rw [hb, (hexd_facts d).2.2]
  simp only [if_true, Bool.false_eq_true, if_false]
  rw [if_neg (by omega)]
theorem hex_num (a b c d e f g h : Fin 16) : numI 16 (byt [hexd a, hexd b, hexd c, hexd d, hexd e, hexd f, hexd g, hexd h]) 8 0 0 false = some ((((((((((0 : Int) * 16 + (a.val : Int)) * 16 + (b.val : Int)) * 16 + (c.val : Int)) * 16 + (d.val : Int)) * 16 + (e.val : Int)) * 16 + (f.val : Int)) * 16 + (g.val : Int)) * 16 + (h.val : Int)), false) := by
  have ha := a.2; have hb := b.2; have hc := c.2; have hd := d.2; have he := e.2; have hf := f.2; have hg := g.2; have hh := h.2
  rw [num_step (d := a) (by kernel_rfl) (by omega)]
  rw [num_step (d := b) (by kernel_rfl) (by omega)]
  rw [num_step (d := c) (by kernel_rfl) (by omega)]
  rw [num_step (d := d) (by kernel_rfl) (by omega)]
  rw [num_step (d := e) (by kernel_rfl) (by omega)]
  rw [num_step (d := f) (by kernel_rfl) (by omega)]
  rw [num_step (d := g) (by kernel_rfl) (by omega)]
  rw [num_step (d := h) (by kernel_rfl) (by omega)]
  rfl
theorem hex_names : ∀ p ∈ primsL, p.f0.data.toList.take 2 ≠ [104, 35] := by decide +kernel
theorem hex_want (a b c d e f g h : Fin 16) : wantP (primsL.map pr).reverse litP (byt (hexW a b c d e f g h)) = some ⟨16, (((((((((0 : Int) * 16 + (a.val : Int)) * 16 + (b.val : Int)) * 16 + (c.val : Int)) * 16 + (d.val : Int)) * 16 + (e.val : Int)) * 16 + (f.val : Int)) * 16 + (g.val : Int)) * 16 + (h.val : Int)), emp, 0⟩ := by
  have hn : (primsL.map pr).reverse.find? (fun q => decide (q.1 = byt (hexW a b c d e f g h))) = none := by
    rw [List.find?_eq_none]
    intro q hq hd
    obtain ⟨p, hp, rfl⟩ := List.mem_map.1 (List.mem_reverse.1 hq)
    have e1 : p.f0 = byt (hexW a b c d e f g h) := of_decide_eq_true hd
    exact hex_names p hp (by rw [e1]; rfl)
  have hl : litP (byt (hexW a b c d e f g h)) = some (((((((((0 : Int) * 16 + (a.val : Int)) * 16 + (b.val : Int)) * 16 + (c.val : Int)) * 16 + (d.val : Int)) * 16 + (e.val : Int)) * 16 + (f.val : Int)) * 16 + (g.val : Int)) * 16 + (h.val : Int)) := by
    unfold litP
    have h1 : bt (byt (hexW a b c d e f g h)) 1 = 35 := by kernel_rfl
    have h0 : bt (byt (hexW a b c d e f g h)) 0 = 104 := by kernel_rfl
    have hbp : baseP 104 = 16 := by decide +kernel
    have hsz : (byt (hexW a b c d e f g h)).size = 10 := rfl
    have hx : (byt (hexW a b c d e f g h)).extract 2 (byt (hexW a b c d e f g h)).size = byt [hexd a, hexd b, hexd c, hexd d, hexd e, hexd f, hexd g, hexd h] := by kernel_rfl
    rw [if_pos ⟨by rw [hsz]; decide, h1⟩, h0, hbp, if_neg (by decide), hx]
    have hneg : ∀ d : Fin 16, ¬ (((hexd d.val).toNat : Int) = 45) := by decide +kernel
    have hb0 : bt (byt [hexd a, hexd b, hexd c, hexd d, hexd e, hexd f, hexd g, hexd h]) 0 = ((hexd a.val).toNat : Int) := by kernel_rfl
    have hr : restP (byt [hexd a, hexd b, hexd c, hexd d, hexd e, hexd f, hexd g, hexd h]) = byt [hexd a, hexd b, hexd c, hexd d, hexd e, hexd f, hexd g, hexd h] := by unfold restP; rw [if_neg (by rw [hb0]; exact hneg a)]
    have hs8 : (byt [hexd a, hexd b, hexd c, hexd d, hexd e, hexd f, hexd g, hexd h]).size = 8 := rfl
    unfold parseP
    rw [hr, hs8, if_neg (by decide), hb0, decide_eq_false (hneg a), hex_num]
    simp [outP, okP]
  unfold wantP
  rw [hn, hl]
  rfl
end Go.Proofs.Ytehmhgpogpbjiaa.Fcc

/- FccWords' rows: the items, their tokens. -/
namespace Go.Proofs.Ytehmhgpogpbjiaa.Fcc
open Go.RowKit Go.Proofs.Ytehmhgpogpbjiaa Go.Proofs.YtehmhgpogpbjiaaW.PrintWords Go.Proofs.YtehmhgpogpbjiaaW.PrintLast Go.Proofs.YtehmhgpogpbjiaaW.PrintMore Go.Proofs.Ytehmhgpogpbjiaa.PFccTokens
set_option linter.unusedVariables false
set_option linter.unusedSimpArgs false
def nib (n : Int) (k : Int) : Fin 16 := ⟨(n / k % 16).toNat, by omega⟩
def hexN (n : Int) : List UInt8 := hexW (nib n 268435456) (nib n 16777216) (nib n 1048576) (nib n 65536) (nib n 4096) (nib n 256) (nib n 16) (nib n 1)
theorem nib_val (n k : Int) : (((nib n k).val : Nat) : Int) = n / k % 16 := by unfold nib; dsimp only; omega
theorem hexN_want (n : Int) (h0 : 0 ≤ n) (h1 : n < 4294967296) : wantP (primsL.map pr).reverse litP (byt ((hexN n).map small8)) = some ⟨16, n, emp, 0⟩ := by
  unfold hexN
  rw [hex_small, hex_want]
  simp only [nib_val]
  have e : ((((((((0 : Int) * 16 + n / 268435456 % 16) * 16 + n / 16777216 % 16) * 16 + n / 1048576 % 16) * 16 + n / 65536 % 16) * 16 + n / 4096 % 16) * 16 + n / 256 % 16) * 16 + n / 16 % 16) * 16 + n / 1 % 16 = n := by omega
  rw [e]
def primAt (l0 : List Int) (i : Nat) : S34 := primsL.getD (l0.getD i 0 % 111).toNat ⟨emp, 0⟩
theorem primAt_mem (l0 : List Int) (i : Nat) : primAt l0 i ∈ primsL := by
  unfold primAt
  have hl : primsL.length = 111 := rfl
  have hj : (l0.getD i 0 % 111).toNat < primsL.length := by omega
  rw [List.getD_eq_getElem?_getD, List.getElem?_eq_getElem hj]
  exact List.getElem_mem hj
def itemAt (l0 l1 : List Int) (i : Nat) : List ((List UInt8 × UInt8) × Tk) :=
  (((primAt l0 i).f0.data.toList, 32), ⟨(primAt l0 i).f1, 0, emp, 0⟩) :: (if i < l1.length then [((hexN (l1.getD i 0), 10), ⟨16, l1.getD i 0, emp, 0⟩)] else [])
def itemsL (l0 l1 : List Int) (k : Nat) : List ((List UInt8 × UInt8) × Tk) := (List.range k).flatMap (itemAt l0 l1)
theorem item_ok (l0 l1 : List Int) (h1 : ∀ i, 0 ≤ l1.getD i 0 ∧ l1.getD i 0 < 4294967296) (k : Nat) : ∀ x ∈ itemsL l0 l1 k, okW x.1.1 ∧ isB x.1.2 = true ∧ plainW (byt (x.1.1.map small8)) ∧ wantP (primsL.map pr).reverse litP (byt (x.1.1.map small8)) = some x.2 := by
  intro x hx
  obtain ⟨i, -, hx⟩ := List.mem_flatMap.1 hx
  unfold itemAt at hx
  rcases List.mem_cons.1 hx with rfl | hx
  · have hm := primAt_mem l0 i
    have hf := prim_facts _ hm
    exact ⟨hf.1, (by decide : isB 32 = true), hf.2.1, prim_want _ hm⟩
  · split at hx
    · obtain rfl := List.mem_singleton.1 hx
      refine ⟨hex_ok _ _ _ _ _ _ _ _, (by decide : isB 10 = true), ?_, hexN_want _ (h1 i).1 (h1 i).2⟩
      show plainW (byt ((hexN (l1.getD i 0)).map small8))
      unfold hexN
      rw [hex_small]
      exact hex_plain _ _ _ _ _ _ _ _
    · cases hx
def textL (l0 l1 : List Int) (k : Nat) : List UInt8 := itemsT ((itemsL l0 l1 k).map (·.1))
def toksL (l0 l1 : List Int) (k : Nat) : List Tk := (itemsL l0 l1 k).map (·.2)
theorem textL_len (l0 l1 : List Int) (k : Nat) : (textL l0 l1 k).length ≤ 36 * k := by
  unfold textL itemsL
  induction k with
  | zero => simp [itemsT]
  | succ k ih =>
    rw [List.range_succ, List.flatMap_append, List.map_append]
    have e : ∀ a b, itemsT (a ++ b) = itemsT a ++ itemsT b := fun a b => by simp [itemsT]
    rw [e, List.length_append]
    have h2 : (itemsT (([k].flatMap (itemAt l0 l1)).map (·.1))).length ≤ 36 := by
      have hs := (prim_facts _ (primAt_mem l0 k)).2.2.2
      have hs2 : (primAt l0 k).f0.data.toList.length ≤ 24 := by simpa using hs
      simp only [List.flatMap_cons, List.flatMap_nil, List.append_nil, itemAt]
      split
      · simp [itemsT, hexN, hexW]; simp at hs2; omega
      · simp [itemsT]; simp at hs2; omega
    omega
/-- What the program makes of the text of FccWords. -/
theorem words_law (l0 l1 : List Int) (h1 : ∀ i, 0 ≤ l1.getD i 0 ∧ l1.getD i 0 < 4294967296) (k : Nat) (hk : k ≤ 100) : toksP (byt (textL l0 l1 k)) = (toksL l0 l1 k ++ [⟨0, 0, emp, 0⟩], 0) := by
  have hi := item_ok l0 l1 h1 k
  have hl := textL_len l0 l1 k
  refine words_toks _ _ ?_ (by unfold textL at hl; omega) ?_ ?_
  · intro p hp
    obtain ⟨x, hx, rfl⟩ := List.mem_map.1 hp
    exact ⟨(hi x hx).1, (hi x hx).2.1⟩
  · intro p hp
    obtain ⟨x, hx, rfl⟩ := List.mem_map.1 hp
    exact (hi x hx).2.2.1
  · unfold toksL
    rw [List.map_map, List.map_map]
    refine List.map_congr_left fun x hx => ?_
    exact (hi x hx).2.2.2
end Go.Proofs.Ytehmhgpogpbjiaa.Fcc

namespace Go.Proofs.Ytehmhgpogpbjiaa.PFccTokens
open Go.RowKit Go.Proofs.YtehmhgpogpbjiaaW.PrintWords Go.Proofs.YtehmhgpogpbjiaaW.PrintLast Go.Proofs.YtehmhgpogpbjiaaW.PrintMore
attribute [local go_sem] max2_int min2_int max_two min_two max_three min_three max_four min_four   -- for this text's walks alone
set_option linter.unusedVariables false
set_option linter.unusedSimpArgs false

theorem eqA37 (d : Nat) (w : World) (x0 y0 : Int) (x1 y1 : Int) (x2 y2 : ByteArray) (x3 y3 : Int) :
    (Op.equalIn (d + 2) 37 (.agg #[.int .i64 x0, .int .u32 x1, .string x2, .int .i64 x3]) (.agg #[.int .i64 y0, .int .u32 y1, .string y2, .int .i64 y3])).run Try.prog w = .ok (x0 == y0 && (x1 == y1 && (x2.toList == y2.toList && (x3 == y3)))) w := by
  refine eqA_of Try.underlying37 (by kernel_rfl) ?_
  refine eqf_cons (by rfl) (by go_simp; rfl) (by go_simp; rfl) (by go_simp) ?_
  refine eqf_cons (by rfl) (by go_simp; rfl) (by go_simp; rfl) (by go_simp) ?_
  refine eqf_cons (by rfl) (by go_simp; rfl) (by go_simp; rfl) (by go_simp) ?_
  exact eqf_last (by rfl) (by go_simp; rfl) (by go_simp; rfl) (by go_simp)
end Go.Proofs.Ytehmhgpogpbjiaa.PFccTokens

-- written by a program of this session (xprint.py) out of the translation
namespace Go.Proofs.Ytehmhgpogpbjiaa.PFccTokens
open Go.RowKit Go.Proofs.YtehmhgpogpbjiaaW.PrintWords Go.Proofs.YtehmhgpogpbjiaaW.PrintLast Go.Proofs.YtehmhgpogpbjiaaW.PrintMore
attribute [local go_sem high] eqA37
attribute [local go_sem] max2_int min2_int max_two min_two max_three min_three max_four min_four   -- for this text's walks alone
set_option linter.unusedVariables false
set_option linter.unusedSimpArgs false

/-! ### tinderref13_Same: function 9 -/
def tinderref13_Same.l0 : Nat → List (S37) → List (S37) → Int → Option (Bool)
  | 0, _, _, _ => none
  | k + 1, x0, x1, x5 => if x5 < (x0.length : Int) then (if 0 ≤ x5 then (if x5 < (x1.length : Int) then (if (!(((rd_T37 x0 x5).f0) == ((rd_T37 x1 x5).f0)) || (!(((rd_T37 x0 x5).f1) == ((rd_T37 x1 x5).f1)) || (!((((rd_T37 x0 x5).f2).toList) == (((rd_T37 x1 x5).f2).toList)) || (!(((rd_T37 x0 x5).f3) == ((rd_T37 x1 x5).f3)))))) = true then (some false) else (tinderref13_Same.l0 k x0 x1 (wrap64 (x5 + 1)))) else (none)) else (none)) else (some true)
def tinderref13_Same.f (k : Nat) (l0 : List (S37)) (l1 : List (S37)) : Option (Bool) := if (l0.length : Int) = (l1.length : Int) then (tinderref13_Same.l0 k l0 l1 0) else (some false)
theorem tinderref13_Same.mono_l : ∀ k, (∀ y0 y1 y2, LeO (tinderref13_Same.l0 k y0 y1 y2) (tinderref13_Same.l0 (k + 1) y0 y1 y2))
  | 0 => fun _ _ _ r h => by simp [tinderref13_Same.l0] at h
  | k + 1 => by
    have ih0 := tinderref13_Same.mono_l k
    · intro y0 y1 y2
      unfold tinderref13_Same.l0
      repeat' first
      | (with_reducible exact ih0 _ _ _)
      | (with_reducible exact LeO.refl _)
      | (with_reducible exact LeO.none _)
      | (with_reducible refine LeO.ite ?_ ?_)
      | (with_reducible refine LeO.bind ?_ (fun _ => ?_))
      | exact ih0 _ _ _
      | exact LeO.none _
      | refine LeO.ite ?_ ?_
      | refine LeO.bind ?_ (fun _ => ?_)
theorem tinderref13_Same.mono : ∀ a0 a1 k, LeO (tinderref13_Same.f k a0 a1) (tinderref13_Same.f (k + 1) a0 a1) := by
  intro a0 a1 k
  have ih0 := tinderref13_Same.mono_l k
  unfold tinderref13_Same.f
  repeat' first
      | (with_reducible exact ih0 _ _ _)
      | (with_reducible exact LeO.refl _)
      | (with_reducible exact LeO.none _)
      | (with_reducible refine LeO.ite ?_ ?_)
      | (with_reducible refine LeO.bind ?_ (fun _ => ?_))
      | exact ih0 _ _ _
      | exact LeO.none _
      | refine LeO.ite ?_ ?_
      | refine LeO.bind ?_ (fun _ => ?_)
set_option maxHeartbeats 8000000 in
set_option maxRecDepth 100000 in
theorem tinderref13_Same.calls (k : Nat) (A0 : Option Addr) (c0 : Nat) (l0 : List (S37)) (A1 : Option Addr) (c1 : Nat) (l1 : List (S37)) (r : Bool) (w : World) (hr0 : Kd.C k37 w A0 l0.length l0) (hc0 : l0.length ≤ c0) (hr1 : Kd.C k37 w A1 l1.length l1) (hc1 : l1.length ≤ c1) (h : tinderref13_Same.f k l0 l1 = some r) :
    Calls Try.prog 9 #[.slice A0 l0.length c0, .slice A1 l1.length c1] w fun e w' => e = .returned (.bool r) ∧ Drawn0 w w' := by
  have hu37 := Try.underlying37
  have HR0 := Aside0.mk hr0
  have HC0 := Aside0.mk hc0
  clear hr0 hc0
  have HR1 := Aside0.mk hr1
  have HC1 := Aside0.mk hc1
  clear hr1 hc1
  have H : (if (l0.length : Int) = (l1.length : Int) then (tinderref13_Same.l0 k l0 l1 0) else (some false)) = some r := h
  clear h
  by_cases c3 : (l0.length : Int) = (l1.length : Int)
  · rw [if_pos c3] at H
    have c3b0 : ((l0.length : Int) == (l1.length : Int)) = true := beq_iff_eq.mpr c3
    have c3b1 : ((l0.length : Int) != (l1.length : Int)) = false := bne_eq_false_iff_eq.mpr c3
    have c3b2 : (l0.length == l1.length) = true := by first | simpa using c3 | (simp at c3 ⊢; omega)
    clear c3
    have H' := Aside0.mk H
    clear H
    go_enter Try.func9, Try.ntmps9
    go_wp2
    repeat (go_quiet (fail); try go_wp2)
    go_loopg [5] k (fun kq v5 w' => ∃ (x5_1 : Int), v5 = .int .i64 x5_1 ∧ Aside0 (tinderref13_Same.l0 kq l0 l1 x5_1 = some r) ∧ Aside0 (kq ≤ k) ∧ Drawn0 w w')
    case atStart => exact ⟨(0), (by first | rfl | (simp; done) | (simp [*]; done) | (simp <;> omega) | (simp [*] <;> omega)), H', ⟨Nat.le_refl _⟩, by repeat (first | exact Drawn0.refl _ | apply Drawn0.step)⟩
    case round =>
      clear H'
      try clear c1
      try clear p2
      try clear c3
      try clear c3b0
      try clear c3b1
      try clear c3b2
      obtain ⟨x5_1, rfl, HA, HK1, ⟨m1, rfl⟩⟩ := hrel
      cases gk with
      | zero => exact absurd HA.out (by simp [tinderref13_Same.l0])
      | succ k1 =>
        have H := HA.out
        clear HA
        simp only [tinderref13_Same.l0] at H
        by_cases c4 : x5_1 < (l0.length : Int)
        · rw [if_pos c4] at H
          have c4b0 : decide (x5_1 < (l0.length : Int)) = true := decide_eq_true c4
          clear c4
          by_cases c5 : 0 ≤ x5_1
          · rw [if_pos c5] at H
            have c5b0 : decide (0 ≤ x5_1) = true := decide_eq_true c5
            clear c5
            by_cases c6 : x5_1 < (l1.length : Int)
            · rw [if_pos c6] at H
              have c6b0 : decide (x5_1 < (l1.length : Int)) = true := decide_eq_true c6
              clear c6
              by_cases c7 : (!(((rd_T37 l0 x5_1).f0) == ((rd_T37 l1 x5_1).f0)) || (!(((rd_T37 l0 x5_1).f1) == ((rd_T37 l1 x5_1).f1)) || (!((((rd_T37 l0 x5_1).f2).toList) == (((rd_T37 l1 x5_1).f2).toList)) || (!(((rd_T37 l0 x5_1).f3) == ((rd_T37 l1 x5_1).f3)))))) = true
              · rw [if_pos c7] at H
                have c7b0 : (!(((rd_T37 l0 x5_1).f0) == ((rd_T37 l1 x5_1).f0)) || (!(((rd_T37 l0 x5_1).f1) == ((rd_T37 l1 x5_1).f1)) || (!((((rd_T37 l0 x5_1).f2).toList) == (((rd_T37 l1 x5_1).f2).toList)) || (!(((rd_T37 l0 x5_1).f3) == ((rd_T37 l1 x5_1).f3)))))) = true := c7
                clear c7
                obtain rfl := Option.some.inj H
                have p236 : 0 ≤ (x5_1 : Int) := of_decide_eq_true (by first | (with_reducible assumption) | assumption)
                have q236 : x5_1 < (l0.length : Int) := of_decide_eq_true (by first | (with_reducible assumption) | assumption)
                obtain ⟨ad236, e236, hx236_0, hx236_1, hx236_2, hx236_3⟩ := at_T37 HR0.out x5_1 p236 q236
                cases e236
                replace p236 := eq_true p236
                replace q236 := eq_true q236
                have p237 : 0 ≤ (x5_1 : Int) := of_decide_eq_true (by first | (with_reducible assumption) | assumption)
                have q237 : x5_1 < (l1.length : Int) := of_decide_eq_true (by first | (with_reducible assumption) | assumption)
                obtain ⟨ad237, e237, hx237_0, hx237_1, hx237_2, hx237_3⟩ := at_T37 HR1.out x5_1 p237 q237
                cases e237
                replace p237 := eq_true p237
                replace q237 := eq_true q237
                go_wp2
                repeat (go_quiet (fail); try go_wp2)
                go_ret
                exact ⟨by first | rfl | (simp; done) | (simp [*]; done) | (simp <;> omega) | (simp [*] <;> omega), by repeat (first | exact Drawn0.refl _ | apply Drawn0.step)⟩
              · rw [if_neg c7] at H
                have c7b0 : (!(((rd_T37 l0 x5_1).f0) == ((rd_T37 l1 x5_1).f0)) || (!(((rd_T37 l0 x5_1).f1) == ((rd_T37 l1 x5_1).f1)) || (!((((rd_T37 l0 x5_1).f2).toList) == (((rd_T37 l1 x5_1).f2).toList)) || (!(((rd_T37 l0 x5_1).f3) == ((rd_T37 l1 x5_1).f3)))))) = false := by simpa using c7
                clear c7
                have H' := Aside0.mk H
                clear H
                have p236 : 0 ≤ (x5_1 : Int) := of_decide_eq_true (by first | (with_reducible assumption) | assumption)
                have q236 : x5_1 < (l0.length : Int) := of_decide_eq_true (by first | (with_reducible assumption) | assumption)
                obtain ⟨ad236, e236, hx236_0, hx236_1, hx236_2, hx236_3⟩ := at_T37 HR0.out x5_1 p236 q236
                cases e236
                replace p236 := eq_true p236
                replace q236 := eq_true q236
                have p237 : 0 ≤ (x5_1 : Int) := of_decide_eq_true (by first | (with_reducible assumption) | assumption)
                have q237 : x5_1 < (l1.length : Int) := of_decide_eq_true (by first | (with_reducible assumption) | assumption)
                obtain ⟨ad237, e237, hx237_0, hx237_1, hx237_2, hx237_3⟩ := at_T37 HR1.out x5_1 p237 q237
                cases e237
                replace p237 := eq_true p237
                replace q237 := eq_true q237
                go_wp2
                repeat (go_quiet (fail); try go_wp2)
                go_roundg k1
                case measure => have := HK1.out; omega
                case rel => exact ⟨(wrap64 (x5_1 + 1)), (by first | rfl | (simp; done) | (simp [*]; done) | (simp <;> omega) | (simp [*] <;> omega)), H', ⟨by have := HK1.out; omega⟩, by repeat (first | exact Drawn0.refl _ | apply Drawn0.step)⟩
            · rw [if_neg c6] at H
              exact absurd H (by simp)
          · rw [if_neg c5] at H
            exact absurd H (by simp)
        · rw [if_neg c4] at H
          have c4b0 : decide (x5_1 < (l0.length : Int)) = false := decide_eq_false c4
          clear c4
          obtain rfl := Option.some.inj H
          go_wp2
          repeat (go_quiet (fail); try go_wp2)
          go_ret
          exact ⟨by first | rfl | (simp; done) | (simp [*]; done) | (simp <;> omega) | (simp [*] <;> omega), by repeat (first | exact Drawn0.refl _ | apply Drawn0.step)⟩
  · rw [if_neg c3] at H
    have c3b0 : ((l0.length : Int) == (l1.length : Int)) = false := beq_eq_false_iff_ne.mpr c3
    have c3b1 : ((l0.length : Int) != (l1.length : Int)) = true := bne_iff_ne.mpr c3
    have c3b2 : (l0.length == l1.length) = false := by first | simpa using c3 | (simp at c3 ⊢; omega)
    obtain rfl := Option.some.inj H
    go_enter Try.func9, Try.ntmps9
    go_wp2
    repeat (go_quiet (fail); try go_wp2)
    go_ret
    exact ⟨by first | rfl | (simp; done) | (simp [*]; done) | (simp <;> omega) | (simp [*] <;> omega), by repeat (first | exact Drawn0.refl _ | apply Drawn0.step)⟩

-- NOT PRINTED: function 6 (tinderlaw15_alive)
end Go.Proofs.Ytehmhgpogpbjiaa.PFccTokens

/- alive (6): the fixed fact. -/
namespace Go.Proofs.Ytehmhgpogpbjiaa.Fcc
open Go.RowKit Go.Proofs.YtehmhgpogpbjiaaW.PrintWords Go.Proofs.YtehmhgpogpbjiaaW.PrintLast Go.Proofs.YtehmhgpogpbjiaaW.PrintMore Go.Proofs.Ytehmhgpogpbjiaa.PFccTokens
set_option linter.unusedVariables false
set_option linter.unusedSimpArgs false
set_option maxRecDepth 100000
def aliveT : ByteArray := ⟨#[58, 32, 120, 32, 105, 102, 32, 49, 32, 116, 104, 101, 110, 32, 59]⟩
def aliveL : List S37 := [⟨182, 2048, ⟨#[120]⟩, 0⟩, ⟨183, 0, ⟨#[]⟩, 0⟩, ⟨20, 0, ⟨#[]⟩, 4⟩, ⟨166, 0, ⟨#[]⟩, 0⟩, ⟨178, 0, ⟨#[]⟩, 0⟩, ⟨194, 0, ⟨#[]⟩, 0⟩, ⟨0, 0, ⟨#[]⟩, 0⟩]
theorem alive_cut : cutP aliveT = ([⟨1, ⟨#[58]⟩, 0⟩, ⟨1, ⟨#[120]⟩, 2⟩, ⟨1, ⟨#[105, 102]⟩, 4⟩, ⟨1, ⟨#[49]⟩, 7⟩, ⟨1, ⟨#[116, 104, 101, 110]⟩, 9⟩, ⟨1, ⟨#[59]⟩, 14⟩], 0) :=
  cutP_eq (k := 100) (by kernel_rfl)
theorem alive_toks : toksP aliveT = (aliveL, 0) := by
  unfold toksP
  rw [alive_cut]
  kernel_rfl
theorem alive_same : tinderref13_Same.f 20 aliveL aliveL = some true := by kernel_rfl
def cells37 (l : List S37) : List Value := l.flatMap fun x => [.int .i64 x.f0, .int .u32 x.f1, .string x.f2, .int .i64 x.f3]
theorem cells37_reps {w : World} {base : Nat} {ok : Nat → Prop} : ∀ l : List S37, Reps (k37.M w base ok) 4 l (cells37 l)
  | [] => Reps.none _ _
  | x :: l => Reps.c4 (k37_mkM _ _ _ x) (cells37_reps l)
/-- A row of tokens that is written out. -/
theorem lit37 (W : World) (l : List S37) (hl : l.length ≤ 1000) : Kd.R k37 37 (W.alloc (.cells (cells37 l).toArray 37)) W.heap.size (fun _ => True) (.slice (some ⟨W.heap.size, 0, none⟩) l.length l.length) l := by
  refine ⟨fun _ _ => trivial, cells37 l, ?_, ?_⟩
  · have h2 := World.ownsRow_lit (base := W.heap.size) (e := 37) (size := k37.sz) W (cells37 l).toArray l.length (Nat.le_refl _) (by have : maxLen = 9223372036854775807 := rfl; omega) (by have h := (cells37_reps (w := W) (base := 0) (ok := fun _ => True) l).1; have hz : k37.sz = 4 := rfl; rw [hz]; simpa using h)
    simpa using h2
  · exact cells37_reps l
set_option maxHeartbeats 4000000 in
theorem alive_calls (w : World) : Calls Try.prog 6 #[] w fun e W' => e = .returned (.bool true) ∧ Below w.heap.size w W' := by
  have h7 := tokens_calls aliveT (by decide) w
  rw [alive_toks] at h7
  have h7' := Aside0.mk h7
  clear h7
  go_enter Try.func6, Try.ntmps6
  go_wp2_with fail
  refine h7'.out.mono ?_
  rintro e w1 ⟨v, rfl, hR, hB⟩
  obtain ⟨A, c, rfl, hc, hC⟩ := Kd.R_reads hR
  have hL : aliveL.length = 7 := rfl
  have hRm := Kd.R_below hR (below_alloc (Below.refl w1.heap.size w1) (.cells (cells37 aliveL).toArray 37))
  obtain ⟨A2, c2, e2, hc2, hC2⟩ := Kd.R_reads hRm
  cases e2
  have hl := lit37 w1 aliveL (by decide)
  obtain ⟨A3, c3, e3, hc3, hC3⟩ := Kd.R_reads hl
  cases e3
  have hS := tinderref13_Same.calls 20 _ _ aliveL _ _ aliveL true _ hC2 hc hC3 (Nat.le_refl _) alive_same
  have hBa := hB.trans (Below.mono (below_alloc (Below.refl w1.heap.size w1) (.cells (cells37 aliveL).toArray 37)) hB.size)
  have hS' := Aside0.mk hS
  have hBa' := Aside0.mk hBa
  clear hS hBa hC hC2 hC3 hRm hR hc hc2 hc3 hl
  go_wp2_with fail
  refine hS'.out.mono ?_
  rintro e w2 ⟨rfl, n, rfl⟩
  go_wp2_with fail
  exact bodyPost_ret (v := .bool true) (by simp [results, Try.results6, go_sem]) rfl ⟨rfl, pw_below_drewN hBa'.out n⟩
end Go.Proofs.Ytehmhgpogpbjiaa.Fcc

/- Same (9) of a row and itself. -/
namespace Go.Proofs.Ytehmhgpogpbjiaa.Fcc
open Go.RowKit Go.Proofs.YtehmhgpogpbjiaaW.PrintWords Go.Proofs.YtehmhgpogpbjiaaW.PrintLast Go.Proofs.YtehmhgpogpbjiaaW.PrintMore Go.Proofs.Ytehmhgpogpbjiaa.PFccTokens
set_option linter.unusedVariables false
set_option linter.unusedSimpArgs false
theorem same_loop (l : List S37) (hl : l.length ≤ 9223372036854775807) : ∀ (f i : Nat), i + f = l.length → Ev (fun k => tinderref13_Same.l0 k l l (i : Int)) true := by
  intro f
  induction f with
  | zero =>
    intro i hi
    refine Ev.step (f := fun k => tinderref13_Same.l0 (k + 1) l l (i : Int)) (fun k => rfl) ?_
    simp only [tinderref13_Same.l0, if_neg (show ¬ ((i : Int) < (l.length : Int)) by omega)]
    exact Ev.now _
  | succ f ih =>
    intro i hi
    refine Ev.step (f := fun k => tinderref13_Same.l0 (k + 1) l l (i : Int)) (fun k => rfl) ?_
    have hw : wrap64 ((i : Int) + 1) = ((i + 1 : Nat) : Int) := by rw [IntWalk.wrap64_in _ ⟨by omega, by omega⟩]; omega
    simp only [tinderref13_Same.l0, if_pos (show (i : Int) < (l.length : Int) by omega), if_pos (show (0 : Int) ≤ (i : Int) by omega), beq_self_eq_true, Bool.not_true, Bool.or_self, Bool.false_eq_true, if_false, hw]
    exact ih (i + 1) (by omega)
theorem same_ev (l : List S37) (hl : l.length ≤ 9223372036854775807) : Ev (fun k => tinderref13_Same.f k l l) true := by
  unfold tinderref13_Same.f
  simp only [if_true, ↓reduceIte]
  exact same_loop l hl l.length 0 (by omega)
theorem same_calls (l : List S37) (hl : l.length ≤ 9223372036854775807) (A0 A1 : Option Addr) (c0 c1 : Nat) (w : World) (hr0 : Kd.C k37 w A0 l.length l) (hc0 : l.length ≤ c0) (hr1 : Kd.C k37 w A1 l.length l) (hc1 : l.length ≤ c1) :
    Calls Try.prog 9 #[.slice A0 l.length c0, .slice A1 l.length c1] w fun e w' => e = .returned (.bool true) ∧ Drawn0 w w' := by
  obtain ⟨k, h⟩ := (same_ev l hl).rounds
  exact tinderref13_Same.calls k A0 c0 l A1 c1 l true w hr0 hc0 hr1 hc1 h
end Go.Proofs.Ytehmhgpogpbjiaa.Fcc
