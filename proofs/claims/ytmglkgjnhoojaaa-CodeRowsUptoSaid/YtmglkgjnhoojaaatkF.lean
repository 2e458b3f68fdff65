/- alive (8) walked: it answers true. -/
import Derived.Test.YtmglkgjnhoojaaatkA
import Derived.Test.YtmglkgjnhoojaaatkE
import Derived.Test.YtmglkgjnhoojaaatkD
namespace Go.Proofs.Ytmglkgjnhoojaaa.PCodeRows
open Go.RowKit Go.Proofs.YtmglkgjnhoojaaaW.PrintWords Go.Proofs.YtmglkgjnhoojaaaW.PrintLast Go.Proofs.YtmglkgjnhoojaaaW.PrintMore
set_option linter.unusedVariables false
set_option linter.unusedSimpArgs false
theorem c5_nil (w : World) (base : Nat) : C5 w base (.slice none 0 0) (.slice none 0 0) (.slice none 0 0) (.slice none 0 0) (.slice none 0 0) (fun _ => 0) [] [] [] [] [] :=
  ⟨⟨Kd.R_nil _ _ _ _ _, Kd.R_nil _ _ _ _ _, Kd.R_nil _ _ _ _ _⟩, Kd.S_nil _ _ _ _ _, Kd.S_nil _ _ _ _ _⟩
theorem drc_nil (w : World) : DrC w none none none none none 0 0 0 0 0 [] [] [] [] [] := (c5_nil w 0).drc
theorem small_of {code : List S37} {origs dests : List Int} {loops cases : List S59} {N : Nat} (hN : N ≤ 1099511627776) (h0 : code.length ≤ N) (h1 : origs.length ≤ N) (h2 : dests.length ≤ N) (h3 : loops.length ≤ N) (h4 : cases.length ≤ N)
    (h5 : ∀ x ∈ loops, x.f1.length ≤ N) (h6 : ∀ x ∈ cases, x.f1.length ≤ N) : Small code origs dests loops cases :=
  ⟨by omega, by omega, by omega, by omega, by omega, fun x hx => by have := h5 x hx; omega, fun x hx => by have := h6 x hx; omega⟩
theorem room_of {code : List S37} {origs dests : List Int} {loops cases : List S59} {N : Nat} (hN : N ≤ 1099511627776) (h1 : origs.length ≤ N) (h2 : dests.length ≤ N) (h3 : loops.length ≤ N) (h4 : cases.length ≤ N)
    (h5 : ∀ x ∈ loops, x.f1.length ≤ N) (h6 : ∀ x ∈ cases, x.f1.length ≤ N) : Room ⟨code, origs, dests, loops, cases⟩ :=
  ⟨show origs.length < _ by omega, show dests.length < _ by omega, show loops.length < _ by omega, show cases.length < _ by omega, fun x hx => by have := h5 x hx; omega, fun x hx => by have := h6 x hx; omega⟩
theorem alive1 (w : World) : Calls Try.prog 10 #[drV none none none none none 0 0 0 0 0 0 0 0 0 0, .int .i64 1] w (APost w (.inl ⟨[⟨4, 0⟩], [0], [], [], []⟩)) := by
  have h := act_calls none none none none none 0 0 0 0 0 [] [] [] [] [] 1 w (drc_nil w) (small_of (N := 0) (by omega) (by simp) (by simp) (by simp) (by simp) (by simp) (by simp) (by simp)) (room_of (N := 0) (by omega) (by simp) (by simp) (by simp) (by simp) (by simp) (by simp))
  have e : (if formedP [] [] [] [] [] = true then actP ⟨[], [], [], [], []⟩ 1 else .inr 1) = (.inl ⟨[⟨4, 0⟩], [0], [], [], []⟩ : Dr ⊕ Int) := by kernel_rfl
  rw [e] at h
  exact h
theorem alive2 (A0 A1 A2 A3 A4 : Option Addr) (c0 c1 c2 c3 c4 : Nat) (w : World) (h : DrC w A0 A1 A2 A3 A4 c0 c1 c2 c3 c4 [⟨4, 0⟩] [0] [] [] []) : Calls Try.prog 10 #[drV A0 A1 A2 A3 A4 c0 c1 c2 c3 c4 1 1 0 0 0, .int .i64 3] w (APost w (.inl ⟨[⟨4, 1⟩], [], [], [], []⟩)) := by
  have h := act_calls A0 A1 A2 A3 A4 c0 c1 c2 c3 c4 [⟨4, 0⟩] [0] [] [] [] 3 w h (small_of (N := 1) (by omega) (by simp) (by simp) (by simp) (by simp) (by simp) (by simp) (by simp)) (room_of (N := 1) (by omega) (by simp) (by simp) (by simp) (by simp) (by simp) (by simp))
  have e : (if formedP [⟨4, 0⟩] [0] [] [] [] = true then actP ⟨[⟨4, 0⟩], [0], [], [], []⟩ 3 else .inr 1) = (.inl ⟨[⟨4, 1⟩], [], [], [], []⟩ : Dr ⊕ Int) := by kernel_rfl
  rw [e] at h
  exact h
theorem alive3 (A0 A1 A2 A3 A4 : Option Addr) (c0 c1 c2 c3 c4 : Nat) (w : World) (h : DrC w A0 A1 A2 A3 A4 c0 c1 c2 c3 c4 [⟨4, 1⟩] [] [] [] []) : Calls Try.prog 17 #[drV A0 A1 A2 A3 A4 c0 c1 c2 c3 c4 1 0 0 0 0] w (FPost w (.inl [⟨4, 1⟩])) := by
  have h := finish_calls A0 A1 A2 A3 A4 c0 c1 c2 c3 c4 [⟨4, 1⟩] [] [] [] [] w h (small_of (N := 1) (by omega) (by simp) (by simp) (by simp) (by simp) (by simp) (by simp) (by simp))
  have e : finP [⟨4, 1⟩] [] [] [] [] = (.inl [⟨4, 1⟩] : List S37 ⊕ Int) := by kernel_rfl
  rw [e] at h
  exact h
set_option maxHeartbeats 2000000 in
theorem alive_calls (w : World) : Calls Try.prog 8 #[] w fun e w' => e = .returned (.bool true) ∧ Below w.heap.size w w' := by
  go_enter Try.func8, Try.ntmps8
  go_wp2_with fail
  refine (alive1 w).mono ?_
  rintro e w1 ⟨hb1, A0, A1, A2, A3, A4, c0, c1, c2, c3, c4, o1, rfl, h1⟩
  have H1 := Aside0.mk (h1.below (below_alloc (Below.refl _ _) (.cells #[.slice A0 1 c0, .slice A1 1 c1, .slice A2 0 c2, .slice A3 0 c3, .slice A4 0 c4] 26)))
  have HB1 := Aside0.mk (below_alloc hb1 (.cells #[.slice A0 1 c0, .slice A1 1 c1, .slice A2 0 c2, .slice A3 0 c3, .slice A4 0 c4] 26))
  have HX1 := Aside0.mk (blk_new w1 (.cells #[.slice A0 1 c0, .slice A1 1 c1, .slice A2 0 c2, .slice A3 0 c3, .slice A4 0 c4] 26))
  have hz : w.heap.size ≤ w1.heap.size := hb1.size
  clear h1 hb1
  go_wp2_with fail
  generalize w1.alloc (.cells #[.slice A0 1 c0, .slice A1 1 c1, .slice A2 0 c2, .slice A3 0 c3, .slice A4 0 c4] 26) = w2 at H1 HB1 HX1 ⊢
  generalize w1.heap.size = g at HX1 hz ⊢
  refine (alive2 A0 A1 A2 A3 A4 c0 c1 c2 c3 c4 w2 H1.out.drc).mono ?_
  rintro e w3 ⟨hb3, B0, B1, B2, B3, B4, b0, b1, b2, b3, b4, o3, rfl, h3⟩
  have HX3 := Aside0.mk (blk_below HX1.out hb3)
  have HB3 := Aside0.mk (below_step HB1.out hb3)
  obtain ⟨f0, f1, f2, f3, f4⟩ := frozen5 HX3.out
  obtain ⟨r0, r1, r2, r3, r4⟩ := cells5 HX3.out
  have g0 := blk_put HX3.out 0 (.slice B0 1 b0) rfl
  have g1 := blk_put g0 1 (.slice B1 0 b1) rfl
  have g2 := blk_put g1 2 (.slice B2 0 b2) rfl
  have g3 := blk_put g2 3 (.slice B3 0 b3) rfl
  have g4 := blk_put g3 4 (.slice B4 0 b4) rfl
  have H4 := Aside0.mk (((((h3.set HX3.out 0 (.slice B0 1 b0)).set g0 1 (.slice B1 0 b1)).set g1 2 (.slice B2 0 b2)).set g2 3 (.slice B3 0 b3)).set g3 4 (.slice B4 0 b4))
  have HB4 := Aside0.mk (((((HB3.out.setCell (p := ⟨g, 0, none⟩) hz (.slice B0 1 b0)).setCell (p := ⟨g, 1, none⟩) hz (.slice B1 0 b1)).setCell (p := ⟨g, 2, none⟩) hz (.slice B2 0 b2)).setCell (p := ⟨g, 3, none⟩) hz (.slice B3 0 b3)).setCell (p := ⟨g, 4, none⟩) hz (.slice B4 0 b4))
  have HX4 := Aside0.mk g4
  clear g0 g1 g2 g3 g4 h3 hb3 hz
  obtain ⟨k0, k1, k2, k3, k4⟩ := cells5 HX4.out
  go_wp2_with fail
  clear k0 k1 k2 k3 k4 f0 f1 f2 f3 f4 r0 r1 r2 r3 r4
  refine (alive3 B0 B1 B2 B3 B4 b0 b1 b2 b3 b4 _ H4.out.drc).mono ?_
  rintro e w4 ⟨hb4, C, c, rfl, hC⟩
  have HB5 := Aside0.mk (below_step HB4.out hb4)
  obtain ⟨ad, e0, q0, q1⟩ := at_T37 (Kd.R_reads' hC).2.2 0 (by omega) (by decide)
  cases e0
  obtain ⟨g2, rfl⟩ := Kd.R_head hC
  have q2 : w4.cell? ⟨g2, 0, none⟩ = some (.int .i64 4) := q0.trans rfl
  have q3 : w4.cell? ⟨g2, 1, none⟩ = some (.int .u32 1) := q1.trans rfl
  clear q0 q1 hC hb4 HX4 HB4 H4 HX3 HX1 H1 HB1
  go_wp2_with fail
  go_ret
  exact ⟨rfl, HB5.out⟩
end Go.Proofs.Ytmglkgjnhoojaaa.PCodeRows
/- Deeds, one behind the other (the plain form), and how great a draft grows by them. -/
namespace Go.Proofs.Ytmglkgjnhoojaaa.PCodeRows
open Go.RowKit Go.Proofs.YtmglkgjnhoojaaaW.PrintWords Go.Proofs.YtmglkgjnhoojaaaW.PrintLast Go.Proofs.YtmglkgjnhoojaaaW.PrintMore
set_option linter.unusedVariables false
set_option linter.unusedSimpArgs false
def zdr : Dr := ⟨[], [], [], [], []⟩
def actR (d : Dr) (a : Int) : Dr ⊕ Int := if formedP d.code d.origs d.dests d.loops d.cases = true then actP d a else .inr 1
def putR (d : Dr) (k n : Int) : Dr ⊕ Int := if formedP d.code d.origs d.dests d.loops d.cases = true then putP d k n else .inr 1
def stepP (d : Dr) (x : S48) : Dr ⊕ Int := if x.f0 = 0 then putR d x.f1.f0 x.f1.f1 else actR d x.f0
def buildP : Dr → List S48 → Nat → Dr × Nat × Int
  | d, [], i => (d, i, 0)
  | d, x :: r, i => match stepP d x with
    | .inl d' => buildP d' r (i + 1)
    | .inr c => (d, i, c)
/-- The draft and the error that Go answers. -/
def outP : Dr ⊕ Int → Dr × Int
  | .inl d => (d, 0)
  | .inr c => (zdr, c)
theorem layP_inl {code : List S37} {k n : Int} {f : List S37 → Dr} {d : Dr} (h : layP code k n f = .inl d) : code.length < 256 ∧ d = f (code ++ [⟨k, n % 4294967296⟩]) := by
  unfold layP at h
  split at h
  · injection h with h; exact ⟨by assumption, h.symm⟩
  · cases h
theorem popP_inl {α : Type} {l : List α} {f : List α → α → Dr ⊕ Int} {d : Dr} (h : popP l f = .inl d) : ∃ xs x, l = xs ++ [x] ∧ f xs x = .inl d := by
  rcases List.eq_nil_or_concat l with rfl | ⟨xs, x, rfl⟩
  · cases h
  · rw [List.concat_eq_append] at h ⊢
    rw [popP_snoc] at h
    exact ⟨xs, x, rfl, h⟩
theorem act_split {a : Int} (h : ¬ (a < 1 ∨ 15 < a)) : a = 1 ∨ a = 2 ∨ a = 3 ∨ a = 4 ∨ a = 5 ∨ a = 6 ∨ a = 7 ∨ a = 8 ∨ a = 9 ∨ a = 10 ∨ a = 11 ∨ a = 12 ∨ a = 13 ∨ a = 14 ∨ a = 15 := by omega
/-- An act's draft, told: one of fifteen. -/
inductive Acted (d : Dr) : Int → Dr → Prop where
  | a1 (h : d.code.length < 256) : Acted d 1 ⟨d.code ++ [⟨4, 0⟩], d.origs ++ [(d.code.length : Int)], d.dests, d.loops, d.cases⟩
  | a2 (xs : List Int) (x : Int) (e : d.origs = xs ++ [x]) (h : d.code.length < 256) : Acted d 2 ⟨d.code ++ [⟨3, 0⟩], xs ++ [(d.code.length : Int), x], d.dests, d.loops, d.cases⟩
  | a3 (xs : List Int) (x : Int) (e : d.origs = xs ++ [x]) : Acted d 3 ⟨aimed d.code.length d.code [x], xs, d.dests, d.loops, d.cases⟩
  | a4 : Acted d 4 ⟨d.code, d.origs, d.dests ++ [(d.code.length : Int)], d.loops, d.cases⟩
  | a5 (xs : List Int) (x : Int) (e : d.dests = xs ++ [x]) (h : d.code.length < 256) : Acted d 5 ⟨d.code ++ [⟨3, x % 4294967296⟩], d.origs, xs, d.loops, d.cases⟩
  | a6 (xs : List Int) (x : Int) (e : d.dests = xs ++ [x]) (h : d.code.length < 256) : Acted d 6 ⟨d.code ++ [⟨4, x % 4294967296⟩], d.origs, xs, d.loops, d.cases⟩
  | a7 (h : d.code.length < 256) : Acted d 7 ⟨d.code ++ [⟨5, 0⟩], d.origs, d.dests, d.loops ++ [⟨(d.code.length : Int), []⟩], d.cases⟩
  | a8 (h : d.code.length < 256) : Acted d 8 ⟨d.code ++ [⟨6, 0⟩], d.origs, d.dests, d.loops ++ [⟨(d.code.length : Int), []⟩], d.cases⟩
  | a9 (ls : List S59) (x : S59) (e : d.loops = ls ++ [x]) (h : d.code.length < 256) : Acted d 9 ⟨aimed (d.code.length + 1 : Nat) (d.code ++ [⟨7, (x.f0 + 1) % 4294967296⟩]) (x.f1 ++ [x.f0]), d.origs, d.dests, ls, d.cases⟩
  | a10 (ls : List S59) (x : S59) (e : d.loops = ls ++ [x]) (h : d.code.length < 256) : Acted d 10 ⟨aimed (d.code.length + 1 : Nat) (d.code ++ [⟨8, (x.f0 + 1) % 4294967296⟩]) (x.f1 ++ [x.f0]), d.origs, d.dests, ls, d.cases⟩
  | a11 (ls : List S59) (x : S59) (e : d.loops = ls ++ [x]) (h : d.code.length < 256) : Acted d 11 ⟨d.code ++ [⟨9, 0⟩], d.origs, d.dests, ls ++ [⟨x.f0, x.f1 ++ [(d.code.length : Int)]⟩], d.cases⟩
  | a12 : Acted d 12 ⟨d.code, d.origs, d.dests, d.loops, d.cases ++ [⟨-1, []⟩]⟩
  | a13 (ls : List S59) (x : S59) (e : d.cases = ls ++ [x]) (hx : x.f0 = -1) (h : d.code.length < 256) : Acted d 13 ⟨d.code ++ [⟨10, 0⟩], d.origs, d.dests, d.loops, ls ++ [⟨(d.code.length : Int), x.f1⟩]⟩
  | a14 (ls : List S59) (x : S59) (e : d.cases = ls ++ [x]) (hx : x.f0 ≠ -1) (h : d.code.length < 256) : Acted d 14 ⟨aimed (d.code.length + 1 : Nat) (d.code ++ [⟨3, 0⟩]) [x.f0], d.origs, d.dests, d.loops, ls ++ [⟨-1, x.f1 ++ [(d.code.length : Int)]⟩]⟩
  | a15 (ls : List S59) (x : S59) (e : d.cases = ls ++ [x]) (hx : x.f0 = -1) (h : d.code.length < 256) : Acted d 15 ⟨aimed (d.code.length + 1 : Nat) (d.code ++ [⟨11, 0⟩]) x.f1, d.origs, d.dests, d.loops, ls⟩
theorem len_snoc {α : Type} (l : List α) (x : α) : ((l ++ [x]).length : Int) = ((l.length + 1 : Nat) : Int) := by simp
theorem acted {d d' : Dr} {a : Int} (h : actP d a = .inl d') : Acted d a d' := by
  by_cases h0 : a < 1 ∨ 15 < a
  · rw [actP_none h0] at h; cases h
  rcases act_split h0 with rfl | rfl | rfl | rfl | rfl | rfl | rfl | rfl | rfl | rfl | rfl | rfl | rfl | rfl | rfl <;> clear h0
  · obtain ⟨hl, rfl⟩ := layP_inl (show layP _ _ _ _ = _ by simpa [actP] using h); exact .a1 hl
  · obtain ⟨xs, x, e, h⟩ := popP_inl (show popP _ _ = _ by simpa [actP] using h); obtain ⟨hl, rfl⟩ := layP_inl h; exact .a2 xs x e hl
  · obtain ⟨xs, x, e, h⟩ := popP_inl (show popP _ _ = _ by simpa [actP] using h); injection h with h; subst h; exact .a3 xs x e
  · simp [actP] at h; subst h; exact .a4
  · obtain ⟨xs, x, e, h⟩ := popP_inl (show popP _ _ = _ by simpa [actP] using h); obtain ⟨hl, rfl⟩ := layP_inl h; exact .a5 xs x e hl
  · obtain ⟨xs, x, e, h⟩ := popP_inl (show popP _ _ = _ by simpa [actP] using h); obtain ⟨hl, rfl⟩ := layP_inl h; exact .a6 xs x e hl
  · obtain ⟨hl, rfl⟩ := layP_inl (show layP _ _ _ _ = _ by simpa [actP] using h); exact .a7 hl
  · obtain ⟨hl, rfl⟩ := layP_inl (show layP _ _ _ _ = _ by simpa [actP] using h); exact .a8 hl
  · obtain ⟨xs, x, e, h⟩ := popP_inl (show popP _ _ = _ by simpa [actP] using h); obtain ⟨hl, rfl⟩ := layP_inl h; simp only [len_snoc]; exact .a9 xs x e hl
  · obtain ⟨xs, x, e, h⟩ := popP_inl (show popP _ _ = _ by simpa [actP] using h); obtain ⟨hl, rfl⟩ := layP_inl h; simp only [len_snoc]; exact .a10 xs x e hl
  · obtain ⟨xs, x, e, h⟩ := popP_inl (show popP _ _ = _ by simpa [actP] using h); obtain ⟨hl, rfl⟩ := layP_inl h; exact .a11 xs x e hl
  · simp [actP] at h; subst h; exact .a12
  · obtain ⟨xs, x, e, h⟩ := popP_inl (show popP _ _ = _ by simpa [actP] using h)
    split at h
    · obtain ⟨hl, rfl⟩ := layP_inl h; exact .a13 xs x e (by assumption) hl
    · cases h
  · obtain ⟨xs, x, e, h⟩ := popP_inl (show popP _ _ = _ by simpa [actP] using h)
    split at h
    · cases h
    · obtain ⟨hl, rfl⟩ := layP_inl h; simp only [len_snoc]; exact .a14 xs x e (by assumption) hl
  · obtain ⟨xs, x, e, h⟩ := popP_inl (show popP _ _ = _ by simpa [actP] using h)
    split at h
    · obtain ⟨hl, rfl⟩ := layP_inl h; simp only [len_snoc]; exact .a15 xs x e (by assumption) hl
    · cases h
/-- How great the rows of a draft are, at most. -/
structure Bnd (d : Dr) (N : Nat) : Prop where
  code : d.code.length ≤ N
  origs : d.origs.length ≤ N
  dests : d.dests.length ≤ N
  loops : d.loops.length ≤ N
  cases : d.cases.length ≤ N
  louts : ∀ x ∈ d.loops, x.f1.length ≤ N
  couts : ∀ x ∈ d.cases, x.f1.length ≤ N
theorem Bnd.small {d : Dr} {N : Nat} (h : Bnd d N) (hN : N ≤ 1099511627776) : Small d.code d.origs d.dests d.loops d.cases := small_of hN h.code h.origs h.dests h.loops h.cases h.louts h.couts
theorem Bnd.room {d : Dr} {N : Nat} (h : Bnd d N) (hN : N ≤ 1099511627776) : Room d := room_of (code := d.code) hN h.origs h.dests h.loops h.cases h.louts h.couts
theorem Bnd.act {d d' : Dr} {a : Int} {N : Nat} (h : Bnd d N) (ha : actP d a = .inl d') : Bnd d' (N + 1) := by
  obtain ⟨h0, h1, h2, h3, h4, h5, h6⟩ := h
  have g5 : ∀ x ∈ d.loops, x.f1.length ≤ N + 1 := fun x hx => Nat.le_succ_of_le (h5 x hx)
  have g6 : ∀ x ∈ d.cases, x.f1.length ≤ N + 1 := fun x hx => Nat.le_succ_of_le (h6 x hx)
  cases acted ha
  case a9 ls x e hl =>
    rw [e] at h3 h5
    simp only [List.length_append, List.length_singleton] at h3
    exact ⟨by simp [aimed_len]; omega, by simp; omega, by simp; omega, by simp; omega, by simp; omega, fun y hy => Nat.le_succ_of_le (h5 y (by simp_all)), g6⟩
  case a10 ls x e hl =>
    rw [e] at h3 h5
    simp only [List.length_append, List.length_singleton] at h3
    exact ⟨by simp [aimed_len]; omega, by simp; omega, by simp; omega, by simp; omega, by simp; omega, fun y hy => Nat.le_succ_of_le (h5 y (by simp_all)), g6⟩
  case a11 ls x e hl =>
    rw [e] at h3 h5
    simp only [List.length_append, List.length_singleton] at h3
    refine ⟨by simp; omega, by simp; omega, by simp; omega, by simp; omega, by simp; omega, fun y hy => ?_, g6⟩
    rcases List.mem_append.1 hy with hy | hy
    · exact Nat.le_succ_of_le (h5 y (by simp_all))
    · rw [List.mem_singleton.1 hy]
      have := h5 x (by simp)
      simp; omega
  case a13 ls x e hx hl =>
    rw [e] at h4 h6
    simp only [List.length_append, List.length_singleton] at h4
    refine ⟨by simp; omega, by simp; omega, by simp; omega, by simp; omega, by simp; omega, g5, fun y hy => ?_⟩
    rcases List.mem_append.1 hy with hy | hy
    · exact Nat.le_succ_of_le (h6 y (by simp_all))
    · rw [List.mem_singleton.1 hy]
      have := h6 x (by simp)
      show x.f1.length ≤ N + 1
      omega
  case a14 ls x e hx hl =>
    rw [e] at h4 h6
    simp only [List.length_append, List.length_singleton] at h4
    refine ⟨by simp [aimed_len]; omega, by simp; omega, by simp; omega, by simp; omega, by simp; omega, g5, fun y hy => ?_⟩
    rcases List.mem_append.1 hy with hy | hy
    · exact Nat.le_succ_of_le (h6 y (by simp_all))
    · rw [List.mem_singleton.1 hy]
      have := h6 x (by simp)
      simp; omega
  case a15 ls x e hx hl =>
    rw [e] at h4 h6
    simp only [List.length_append, List.length_singleton] at h4
    exact ⟨by simp [aimed_len]; omega, by simp; omega, by simp; omega, by simp; omega, by simp; omega, g5, fun y hy => Nat.le_succ_of_le (h6 y (by simp_all))⟩
  case a12 =>
    refine ⟨by simp; omega, by simp; omega, by simp; omega, by simp; omega, by simp; omega, g5, fun y hy => ?_⟩
    rcases List.mem_append.1 hy with hy | hy
    · exact g6 y hy
    · rw [List.mem_singleton.1 hy]; simp
  case a7 hl =>
    refine ⟨by simp; omega, by simp; omega, by simp; omega, by simp; omega, by simp; omega, fun y hy => ?_, g6⟩
    rcases List.mem_append.1 hy with hy | hy
    · exact g5 y hy
    · rw [List.mem_singleton.1 hy]; simp
  case a8 hl =>
    refine ⟨by simp; omega, by simp; omega, by simp; omega, by simp; omega, by simp; omega, fun y hy => ?_, g6⟩
    rcases List.mem_append.1 hy with hy | hy
    · exact g5 y hy
    · rw [List.mem_singleton.1 hy]; simp
  case a1 hl => exact ⟨by simp; omega, by simp; omega, by simp; omega, by simp; omega, by simp; omega, g5, g6⟩
  case a4 => exact ⟨by simp; omega, by simp; omega, by simp; omega, by simp; omega, by simp; omega, g5, g6⟩
  case a2 xs x e hl => rw [e] at h1; simp at h1; exact ⟨by simp; omega, by simp; omega, by simp; omega, by simp; omega, by simp; omega, g5, g6⟩
  case a3 xs x e => rw [e] at h1; simp at h1; exact ⟨by simp [aimed_len]; omega, by simp; omega, by simp; omega, by simp; omega, by simp; omega, g5, g6⟩
  case a5 xs x e hl => rw [e] at h2; simp at h2; exact ⟨by simp; omega, by simp; omega, by simp; omega, by simp; omega, by simp; omega, g5, g6⟩
  case a6 xs x e hl => rw [e] at h2; simp at h2; exact ⟨by simp; omega, by simp; omega, by simp; omega, by simp; omega, by simp; omega, g5, g6⟩
theorem Bnd.mono {d : Dr} {N M : Nat} (h : Bnd d N) (hN : N ≤ M) : Bnd d M :=
  ⟨Nat.le_trans h.code hN, Nat.le_trans h.origs hN, Nat.le_trans h.dests hN, Nat.le_trans h.loops hN, Nat.le_trans h.cases hN, fun x hx => Nat.le_trans (h.louts x hx) hN, fun x hx => Nat.le_trans (h.couts x hx) hN⟩
theorem bnd_zdr (N : Nat) : Bnd zdr N := ⟨Nat.zero_le _, Nat.zero_le _, Nat.zero_le _, Nat.zero_le _, Nat.zero_le _, fun x hx => (by cases hx), fun x hx => (by cases hx)⟩
theorem putP_inl {d d' : Dr} {k n : Int} (h : putP d k n = .inl d') : k ∈ ([1, 2, 12, 13] : List Int) ∧ d.code.length < 256 ∧ d' = ⟨d.code ++ [⟨k, n % 4294967296⟩], d.origs, d.dests, d.loops, d.cases⟩ := by
  unfold putP at h
  split at h
  · obtain ⟨hl, rfl⟩ := layP_inl h
    exact ⟨by assumption, hl, rfl⟩
  · cases h
theorem Bnd.put {d d' : Dr} {k n : Int} {N : Nat} (h : Bnd d N) (ha : putP d k n = .inl d') : Bnd d' (N + 1) := by
  obtain ⟨_, _, rfl⟩ := putP_inl ha
  exact ⟨by have := h.code; simp; omega, Nat.le_succ_of_le h.origs, Nat.le_succ_of_le h.dests, Nat.le_succ_of_le h.loops, Nat.le_succ_of_le h.cases, fun x hx => Nat.le_succ_of_le (h.louts x hx), fun x hx => Nat.le_succ_of_le (h.couts x hx)⟩
theorem stepP_inl {d d' : Dr} {x : S48} (h : stepP d x = .inl d') : formedP d.code d.origs d.dests d.loops d.cases = true ∧ ((x.f0 = 0 ∧ putP d x.f1.f0 x.f1.f1 = .inl d') ∨ (x.f0 ≠ 0 ∧ actP d x.f0 = .inl d')) := by
  unfold stepP putR actR at h
  split at h
  · split at h
    · exact ⟨by assumption, .inl ⟨by assumption, h⟩⟩
    · cases h
  · split at h
    · exact ⟨by assumption, .inr ⟨by assumption, h⟩⟩
    · cases h
theorem Bnd.step {d d' : Dr} {x : S48} {N : Nat} (h : Bnd d N) (ha : stepP d x = .inl d') : Bnd d' (N + 1) := by
  rcases (stepP_inl ha).2 with ⟨_, h2⟩ | ⟨_, h2⟩
  · exact h.put h2
  · exact h.act h2
theorem putP_err {d : Dr} {k n c : Int} (h : putP d k n = .inr c) : c ≠ 0 := by
  unfold putP at h
  split at h
  · exact layP_err h
  · injection h with h; omega
theorem stepP_err {d : Dr} {x : S48} {c : Int} (h : stepP d x = .inr c) : c ≠ 0 := by
  unfold stepP putR actR at h
  split at h
  · split at h
    · exact putP_err h
    · injection h with h; omega
  · split at h
    · exact actP_err h
    · injection h with h; omega
end Go.Proofs.Ytmglkgjnhoojaaa.PCodeRows
/- A struct of five cells, stored whole. -/
namespace Go.Proofs.Ytmglkgjnhoojaaa.PCodeRows
open Go.RowKit Go.Proofs.YtmglkgjnhoojaaaW.PrintWords Go.Proofs.YtmglkgjnhoojaaaW.PrintLast Go.Proofs.YtmglkgjnhoojaaaW.PrintMore
set_option linter.unusedVariables false
set_option linter.unusedSimpArgs false
abbrev put5 (W : World) (g : Nat) (u0 u1 u2 u3 u4 : Value) : World := ((((W.setCell ⟨g, 0, none⟩ u0).setCell ⟨g, 1, none⟩ u1).setCell ⟨g, 2, none⟩ u2).setCell ⟨g, 3, none⟩ u3).setCell ⟨g, 4, none⟩ u4
section
variable {w W : World} {g g' base B t : Nat} {a0 a1 a2 a3 a4 u0 u1 u2 u3 u4 v0 v1 v2 v3 v4 : Value} {cs : Array Value} {o : Nat → Nat} {code : List S37} {origs dests : List Int} {loops cases : List S59}
theorem blk_put5 (h : W.heap[g]? = some (.cells #[a0, a1, a2, a3, a4] 26 (0, 0))) (u0 u1 u2 u3 u4 : Value) : (put5 W g u0 u1 u2 u3 u4).heap[g]? = some (.cells #[u0, u1, u2, u3, u4] 26 (0, 0)) :=
  blk_put (blk_put (blk_put (blk_put (blk_put h 0 u0 rfl) 1 u1 rfl) 2 u2 rfl) 3 u3 rfl) 4 u4 rfl
theorem blk_far5 (h : W.heap[g']? = some (.cells cs t (0, 0))) (hne : g' ≠ g) (u0 u1 u2 u3 u4 : Value) : (put5 W g u0 u1 u2 u3 u4).heap[g']? = some (.cells cs t (0, 0)) :=
  blk_far (blk_far (blk_far (blk_far (blk_far h (p := ⟨g, 0, none⟩) hne u0) (p := ⟨g, 1, none⟩) hne u1) (p := ⟨g, 2, none⟩) hne u2) (p := ⟨g, 3, none⟩) hne u3) (p := ⟨g, 4, none⟩) hne u4
theorem below_put5 (hb : Below B w W) (hg : B ≤ g) (u0 u1 u2 u3 u4 : Value) : Below B w (put5 W g u0 u1 u2 u3 u4) :=
  ((((hb.setCell (p := ⟨g, 0, none⟩) hg u0).setCell (p := ⟨g, 1, none⟩) hg u1).setCell (p := ⟨g, 2, none⟩) hg u2).setCell (p := ⟨g, 3, none⟩) hg u3).setCell (p := ⟨g, 4, none⟩) hg u4
theorem C5.put5 (h : C5 W base v0 v1 v2 v3 v4 o code origs dests loops cases) (hb : W.heap[g]? = some (.cells #[a0, a1, a2, a3, a4] 26 (0, 0))) (u0 u1 u2 u3 u4 : Value) : C5 (put5 W g u0 u1 u2 u3 u4) base v0 v1 v2 v3 v4 o code origs dests loops cases :=
  ((((h.set hb 0 u0).set (blk_put hb 0 u0 rfl) 1 u1).set (blk_put (blk_put hb 0 u0 rfl) 1 u1 rfl) 2 u2).set (blk_put (blk_put (blk_put hb 0 u0 rfl) 1 u1 rfl) 2 u2 rfl) 3 u3).set (blk_put (blk_put (blk_put (blk_put hb 0 u0 rfl) 1 u1 rfl) 2 u2 rfl) 3 u3 rfl) 4 u4
end
end Go.Proofs.Ytmglkgjnhoojaaa.PCodeRows
/- What Act and Put leave, the same for both ends. -/
namespace Go.Proofs.Ytmglkgjnhoojaaa.PCodeRows
open Go.RowKit Go.Proofs.YtmglkgjnhoojaaaW.PrintWords Go.Proofs.YtmglkgjnhoojaaaW.PrintLast Go.Proofs.YtmglkgjnhoojaaaW.PrintMore
set_option linter.unusedVariables false
set_option linter.unusedSimpArgs false
/-- What Act and Put leave, the same for both ends. -/
def UPost (w : World) (d : Dr) (c : Int) (e : Ending) (w' : World) : Prop :=
  Below w.heap.size w w' ∧ ∃ A0 A1 A2 A3 A4 c0 c1 c2 c3 c4 o, e = .returned (.tuple #[drV A0 A1 A2 A3 A4 c0 c1 c2 c3 c4 d.code.length d.origs.length d.dests.length d.loops.length d.cases.length, .int .i64 c]) ∧ C5 w' 0 (.slice A0 d.code.length c0) (.slice A1 d.origs.length c1) (.slice A2 d.dests.length c2) (.slice A3 d.loops.length c3) (.slice A4 d.cases.length c4) o d.code d.origs d.dests d.loops d.cases
theorem upost_of {w w' : World} {r : Dr ⊕ Int} {e : Ending} (h : APost w r e w') {d : Dr} {c : Int} (hr : outP r = (d, c)) : UPost w d c e w' := by
  cases r with
  | inl d' =>
    injection hr with h1 h2
    subst h1 h2
    obtain ⟨hb, A0, A1, A2, A3, A4, c0, c1, c2, c3, c4, o, rfl, h5⟩ := h
    exact ⟨hb, A0, A1, A2, A3, A4, c0, c1, c2, c3, c4, o, rfl, h5.lower (Nat.zero_le _)⟩
  | inr c' =>
    injection hr with h1 h2
    subst h1 h2
    obtain ⟨hb, rfl⟩ := h
    exact ⟨hb, none, none, none, none, none, 0, 0, 0, 0, 0, _, rfl, c5_nil _ _⟩
theorem out_split {d E : Dr} {c : Int} {r : Dr ⊕ Int} (he : ∀ k, r = .inr k → k ≠ 0) (h : outP r = (E, c)) : (c = 0 ∧ r = .inl E) ∨ (c ≠ 0 ∧ r = .inr c) := by
  cases r with
  | inl d' => injection h with h1 h2; subst h1 h2; exact .inl ⟨rfl, rfl⟩
  | inr k => injection h with h1 h2; subst h2; exact .inr ⟨he k rfl, rfl⟩
end Go.Proofs.Ytmglkgjnhoojaaa.PCodeRows
/- What stays so by acts: a draft that is formed stays formed; each branch leads into the code, or to its end. -/
namespace Go.Proofs.Ytmglkgjnhoojaaa.PCodeRows
open Go.RowKit Go.Proofs.YtmglkgjnhoojaaaW.PrintWords
set_option linter.unusedVariables false
set_option linter.unusedSimpArgs false
theorem kind_aim1 (t : Int) (code : List S37) (m n : Int) : (rd_T37 (aim1 t code m) n).f0 = (rd_T37 code n).f0 := by
  unfold aim1 rd_T37
  rw [List.getD_eq_getElem?_getD, List.getD_eq_getElem?_getD, List.getD_eq_getElem?_getD, List.getElem?_set]
  by_cases h : m.toNat = n.toNat
  · rw [if_pos h, ← h]
    by_cases hl : m.toNat < code.length
    · rw [if_pos hl]
      simp
    · rw [if_neg hl, List.getElem?_eq_none (by omega)]
  · rw [if_neg h]
theorem isOf_aim1 (t : Int) (code : List S37) (ks : List Int) (m n : Int) : isOf (aim1 t code m) ks n = isOf code ks n := by
  unfold isOf
  rw [kind_aim1]
  unfold aim1
  rw [List.length_set]
theorem isOf_aimed (t : Int) (ks : List Int) (n : Int) (l : List Int) : ∀ code : List S37, isOf (aimed t code l) ks n = isOf code ks n := by
  induction l with
  | nil => intro code; rfl
  | cons m r ih =>
    intro code
    show isOf (aimed t (aim1 t code m) r) ks n = _
    rw [ih, isOf_aim1]
theorem are_aimed (t : Int) (ks l m : List Int) (code : List S37) : areP (aimed t code m) l ks = areP code l ks := by
  unfold areP
  congr 1
  funext n
  exact isOf_aimed t ks n m code
theorem Fd.aimed {code : List S37} {origs dests : List Int} {loops cases : List S59} (h : Fd code origs dests loops cases) (t : Int) (m : List Int) : Fd (aimed t code m) origs dests loops cases := by
  refine ⟨by rw [aimed_len]; exact h.len, by rw [are_aimed]; exact h.origs, ?_, fun x hx => ?_, fun x hx => ?_⟩
  · have := h.dests
    unfold destsP at this ⊢
    rw [aimed_len]
    exact this
  · rw [isOf_aimed, are_aimed]; exact h.loops x hx
  · rw [isOf_aimed, are_aimed]; exact h.cases x hx
theorem are_sub {code : List S37} {ks l m : List Int} (h : areP code l ks = true) (hm : ∀ x ∈ m, x ∈ l ∨ isOf code ks x = true) : areP code m ks = true := by
  unfold areP at h ⊢
  rw [List.all_eq_true] at h ⊢
  intro x hx
  rcases hm x hx with h1 | h1
  · exact h x h1
  · exact h1
theorem Fd.put {code : List S37} {origs dests xs ys : List Int} {loops cases ls ms : List S59} (h : Fd code origs dests loops cases) (ho : ∀ x ∈ xs, x ∈ origs ∨ isOf code [3, 4] x = true) (hd : ∀ x ∈ ys, x ∈ dests ∨ (0 ≤ x ∧ x ≤ (code.length : Int)))
    (hl : ∀ x ∈ ls, x ∈ loops ∨ (isOf code [5, 6] x.f0 = true ∧ areP code x.f1 [9] = true)) (hc : ∀ x ∈ ms, x ∈ cases ∨ ((x.f0 = -1 ∨ isOf code [10] x.f0 = true) ∧ areP code x.f1 [3] = true)) : Fd code xs ys ls ms := by
  refine ⟨h.len, are_sub h.origs ho, ?_, fun x hx => (hl x hx).elim (h.loops x) id, fun x hx => (hc x hx).elim (h.cases x) id⟩
  have := h.dests
  unfold destsP at this ⊢
  rw [List.all_eq_true] at this ⊢
  intro n hn
  rcases hd n hn with h1 | h1
  · exact this n h1
  · simp; exact h1
abbrev Dr.Fd (d : Dr) : Prop := PCodeRows.Fd d.code d.origs d.dests d.loops d.cases
/-- Each branch leads into the code, or to its end. -/
def Snd (code : List S37) : Prop := ∀ c ∈ code, 3 ≤ c.f0 → c.f0 ≤ 10 → 0 ≤ c.f1 ∧ c.f1 ≤ (code.length : Int)
theorem Snd.aim1 {code : List S37} (h : Snd code) {t : Int} (h0 : 0 ≤ t) (ht : t ≤ code.length) (n : Int) : Snd (aim1 t code n) := by
  intro c hc h3 h10
  have e : (PCodeRows.aim1 t code n).length = code.length := by unfold PCodeRows.aim1; rw [List.length_set]
  rw [e]
  unfold PCodeRows.aim1 at hc
  rcases List.mem_or_eq_of_mem_set hc with hc | rfl
  · exact h c hc h3 h10
  · exact ⟨h0, ht⟩
theorem Snd.aimed {t : Int} (h0 : 0 ≤ t) (l : List Int) : ∀ {code : List S37}, Snd code → t ≤ code.length → Snd (aimed t code l) := by
  induction l with
  | nil => intro code h _; exact h
  | cons m r ih =>
    intro code h ht
    exact ih (code := PCodeRows.aim1 t code m) (h.aim1 h0 ht m) (by unfold PCodeRows.aim1; rw [List.length_set]; exact ht)
theorem build_bnd (l : List S48) : ∀ (d : Dr) (i N : Nat), Bnd d N → Bnd (buildP d l i).1 (N + l.length) := by
  induction l with
  | nil => intro d i N h; exact h
  | cons x r ih =>
    intro d i N h
    unfold buildP
    cases hx : stepP d x with
    | inl d' =>
      have := ih d' (i + 1) (N + 1) (h.step hx)
      rw [List.length_cons]
      have e : N + (r.length + 1) = N + 1 + r.length := by omega
      rw [e]
      exact this
    | inr c => exact h.mono (by omega)
end Go.Proofs.Ytmglkgjnhoojaaa.PCodeRows
/- An act's draft, told: the act comes to it. -/
namespace Go.Proofs.Ytmglkgjnhoojaaa.PCodeRows
open Go.RowKit Go.Proofs.YtmglkgjnhoojaaaW.PrintWords
set_option linter.unusedVariables false
set_option linter.unusedSimpArgs false
theorem of_acted {d d' : Dr} {a : Int} (h : Acted d a d') : actP d a = .inl d' := by
  cases h
  case a1 hl => simp [actP, layP, hl]
  case a2 xs x e hl => simp [actP, e, popP_snoc, layP, hl]
  case a3 xs x e => simp [actP, e, popP_snoc]
  case a4 => simp [actP]
  case a5 xs x e hl => simp [actP, e, popP_snoc, layP, hl]
  case a6 xs x e hl => simp [actP, e, popP_snoc, layP, hl]
  case a7 hl => simp [actP, layP, hl]
  case a8 hl => simp [actP, layP, hl]
  case a9 ls x e hl => simp [actP, e, popP_snoc, layP, hl]
  case a10 ls x e hl => simp [actP, e, popP_snoc, layP, hl]
  case a11 ls x e hl => simp [actP, e, popP_snoc, layP, hl]
  case a12 => simp [actP]
  case a13 ls x e hx hl => simp [actP, e, popP_snoc, layP, hl, hx]
  case a14 ls x e hx hl => simp [actP, e, popP_snoc, layP, hl, hx]
  case a15 ls x e hx hl => simp [actP, e, popP_snoc, layP, hl, hx]
end Go.Proofs.Ytmglkgjnhoojaaa.PCodeRows
