/- Finish (17), whole. -/
import Derived.Test.YtmglkgjnhoojaaaFin
import Derived.Test.YtmglkgjnhoojaaaCopied
namespace Go.Proofs.Ytmglkgjnhoojaaa.PCodeRows
open Go.RowKit Go.Proofs.YtmglkgjnhoojaaaW.PrintWords Go.Proofs.YtmglkgjnhoojaaaW.PrintLast Go.Proofs.YtmglkgjnhoojaaaW.PrintMore
set_option linter.unusedVariables false
set_option linter.unusedSimpArgs false
set_option maxHeartbeats 1000000 in
theorem finish_open (A0 A1 A2 A3 A4 : Option Addr) (c0 c1 c2 c3 c4 : Nat) (code : List S37) (origs dests : List Int) (loops cases : List S59) (w : World)
    (h : DrC w A0 A1 A2 A3 A4 c0 c1 c2 c3 c4 code origs dests loops cases) (hf : formedP code origs dests loops cases = true) (hs : Small code origs dests loops cases) (ho : 0 < origs.length + dests.length + loops.length + cases.length) :
    Calls Try.prog 17 #[drV A0 A1 A2 A3 A4 c0 c1 c2 c3 c4 code.length origs.length dests.length loops.length cases.length] w fun e w' => Below w.heap.size w w' ∧ e = .returned (.tuple #[.slice none 0 0, .int .i64 13]) := by
  have HD := Aside0.mk (blk_new w (.cells #[.slice A0 code.length c0, .slice A1 origs.length c1, .slice A2 dests.length c2, .slice A3 loops.length c3, .slice A4 cases.length c4] 26))
  have HB := Aside0.mk (below_alloc (Below.refl w.heap.size w) (.cells #[.slice A0 code.length c0, .slice A1 origs.length c1, .slice A2 dests.length c2, .slice A3 loops.length c3, .slice A4 cases.length c4] 26))
  have k0 := (blk_cell HD.out 0).trans rfl
  have k1 := (blk_cell HD.out 1).trans rfl
  have k2 := (blk_cell HD.out 2).trans rfl
  have k3 := (blk_cell HD.out 3).trans rfl
  have k4 := (blk_cell HD.out 4).trans rfl
  have H := Aside0.mk h
  have HF := Aside0.mk hf
  have s1 : origs.length ≤ 100000000000000 := by have := hs.s1; omega
  have s2 : dests.length ≤ 100000000000000 := by have := hs.s2; omega
  have s3 : loops.length ≤ 100000000000000 := by have := hs.s3; omega
  have s4 : cases.length ≤ 100000000000000 := by have := hs.s4; omega
  clear h hf hs
  have HN := Aside0.mk (formed_calls A0 A1 A2 A3 A4 c0 c1 c2 c3 c4 code origs dests loops cases _ (H.out.below HB.out))
  rw [HF.out] at HN
  generalize origs.length = n1 at *
  generalize dests.length = n2 at *
  generalize loops.length = n3 at *
  generalize cases.length = n4 at *
  have hp : decide ((n1 : Int) + (n2 : Int) + (n3 : Int) + (n4 : Int) > 0) = true := decide_eq_true (by omega)
  have hp2 : decide ((0 : Int) < (n1 : Int) + (n2 : Int) + (n3 : Int) + (n4 : Int)) = true := decide_eq_true (by omega)
  clear ho
  go_enter Try.func17, Try.ntmps17
  go_wp2_with fail
  clear k0 k1 k2 k3 k4
  refine HN.out.mono ?_
  rintro e w1 ⟨rfl, hb1⟩
  have HB1 := Aside0.mk (below_step HB.out hb1)
  have HD1 := Aside0.mk (blk_below HD.out hb1)
  clear hb1 HB HD HN HF H
  have k1 := (blk_cell HD1.out 1).trans rfl
  have k2 := (blk_cell HD1.out 2).trans rfl
  have k3 := (blk_cell HD1.out 3).trans rfl
  have k4 := (blk_cell HD1.out 4).trans rfl
  go_wp2_with fail
  exact bodyPost_ret (v := .tuple #[.slice none 0 0, .int .i64 13]) (by simp [results, Try.results17, go_sem]) rfl ⟨HB1.out, rfl⟩
/-- What Finish leaves: the code, or an error. -/
def FPost (w : World) (r : List S37 ⊕ Int) (e : Ending) (w' : World) : Prop :=
  Below w.heap.size w w' ∧ match r with
    | .inl code => ∃ A c, e = .returned (.tuple #[.slice A code.length c, .int .i64 0]) ∧ Kd.R k37 37 w' w.heap.size (fun _ => True) (.slice A code.length c) code
    | .inr c => e = .returned (.tuple #[.slice none 0 0, .int .i64 c])
def finP (code : List S37) (origs dests : List Int) (loops cases : List S59) : List S37 ⊕ Int :=
  if formedP code origs dests loops cases = true then (if 0 < origs.length + dests.length + loops.length + cases.length then .inr 13 else .inl code) else .inr 1
theorem finish_calls (A0 A1 A2 A3 A4 : Option Addr) (c0 c1 c2 c3 c4 : Nat) (code : List S37) (origs dests : List Int) (loops cases : List S59) (w : World)
    (h : DrC w A0 A1 A2 A3 A4 c0 c1 c2 c3 c4 code origs dests loops cases) (hs : Small code origs dests loops cases) :
    Calls Try.prog 17 #[drV A0 A1 A2 A3 A4 c0 c1 c2 c3 c4 code.length origs.length dests.length loops.length cases.length] w (FPost w (finP code origs dests loops cases)) := by
  unfold finP
  by_cases hf : formedP code origs dests loops cases = true
  · rw [if_pos hf]
    by_cases ho : 0 < origs.length + dests.length + loops.length + cases.length
    · rw [if_pos ho]
      exact finish_open A0 A1 A2 A3 A4 c0 c1 c2 c3 c4 code origs dests loops cases w h hf hs ho
    · rw [if_neg ho]
      obtain rfl : origs = [] := List.eq_nil_of_length_eq_zero (by omega)
      obtain rfl : dests = [] := List.eq_nil_of_length_eq_zero (by omega)
      obtain rfl : loops = [] := List.eq_nil_of_length_eq_zero (by omega)
      obtain rfl : cases = [] := List.eq_nil_of_length_eq_zero (by omega)
      refine (finish_ok A0 A1 A2 A3 A4 c0 c1 c2 c3 c4 code w h hf hs.s0).mono ?_
      rintro e w' ⟨hb, v, rfl, hR⟩
      obtain ⟨A, c, rfl, hc, hC⟩ := Kd.R_reads hR
      exact ⟨hb, A, c, rfl, hR⟩
  · rw [if_neg hf]
    refine (finish_bad A0 A1 A2 A3 A4 c0 c1 c2 c3 c4 code origs dests loops cases w h (by simpa using hf)).mono ?_
    rintro e w' ⟨hb, rfl⟩
    exact ⟨hb, rfl⟩
end Go.Proofs.Ytmglkgjnhoojaaa.PCodeRows
