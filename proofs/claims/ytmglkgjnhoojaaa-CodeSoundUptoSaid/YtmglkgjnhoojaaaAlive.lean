/- alive (8) walked: it answers true. -/
import Derived.Test.YtmglkgjnhoojaaaPut
import Derived.Test.YtmglkgjnhoojaaaFinO
namespace Go.Proofs.Ytmglkgjnhoojaaa.PCodeRows
open Go.RowKit Go.Proofs.YtmglkgjnhoojaaaW.PrintWords Go.Proofs.YtmglkgjnhoojaaaW.PrintLast Go.Proofs.YtmglkgjnhoojaaaW.PrintMore
set_option linter.unusedVariables false
set_option linter.unusedSimpArgs false
theorem c5_nil (w : World) (base : Nat) : C5 w base (.slice none 0 0) (.slice none 0 0) (.slice none 0 0) (.slice none 0 0) (.slice none 0 0) (fun _ => 0) [] [] [] [] [] :=
  ⟨⟨Kd.R_nil _ _ _ _ _, Kd.R_nil _ _ _ _ _, Kd.R_nil _ _ _ _ _⟩, Kd.S_nil _ _ _ _ _, Kd.S_nil _ _ _ _ _⟩
theorem drc_nil (w : World) : DrC w none none none none none 0 0 0 0 0 [] [] [] [] [] := (c5_nil w 0).drc
theorem small_of {code : List S37} {origs dests : List Int} {loops cases : List S59} {N : Nat} (hN : N ≤ 1099511627776) (h0 : code.length ≤ N) (h1 : origs.length ≤ N) (h2 : dests.length ≤ N) (h3 : loops.length ≤ N) (h4 : cases.length ≤ N)
    (h5 : ∀ x ∈ loops, x.f1.length ≤ N) (h6 : ∀ x ∈ cases, x.f1.length ≤ N) : Small code origs dests loops cases :=
  ⟨by omega, by omega, by omega, by omega, by omega, fun x hx => by have := h5 x hx; omega, fun x hx => by have := h6 x hx; omega⟩
theorem room_of {code : List S37} {origs dests : List Int} {loops cases : List S59} {N : Nat} (hN : N ≤ 1099511627776) (h1 : origs.length ≤ N) (h2 : dests.length ≤ N) (h3 : loops.length ≤ N) (h4 : cases.length ≤ N)
    (h5 : ∀ x ∈ loops, x.f1.length ≤ N) (h6 : ∀ x ∈ cases, x.f1.length ≤ N) : Room ⟨code, origs, dests, loops, cases⟩ :=
  ⟨show origs.length < _ by omega, show dests.length < _ by omega, show loops.length < _ by omega, show cases.length < _ by omega, fun x hx => by have := h5 x hx; omega, fun x hx => by have := h6 x hx; omega⟩
theorem alive1 (w : World) : Calls Try.prog 10 #[drV none none none none none 0 0 0 0 0 0 0 0 0 0, .int .i64 1] w (APost w (.inl ⟨[⟨4, 0⟩], [0], [], [], []⟩)) := by
  have h := act_calls none none none none none 0 0 0 0 0 [] [] [] [] [] 1 w (drc_nil w) (small_of (N := 0) (by omega) (by simp) (by simp) (by simp) (by simp) (by simp) (by simp) (by simp)) (room_of (N := 0) (by omega) (by simp) (by simp) (by simp) (by simp) (by simp) (by simp))
  have e : (if formedP [] [] [] [] [] = true then actP ⟨[], [], [], [], []⟩ 1 else .inr 1) = (.inl ⟨[⟨4, 0⟩], [0], [], [], []⟩ : Dr ⊕ Int) := by kernel_rfl
  rw [e] at h
  exact h
theorem alive2 (A0 A1 A2 A3 A4 : Option Addr) (c0 c1 c2 c3 c4 : Nat) (w : World) (h : DrC w A0 A1 A2 A3 A4 c0 c1 c2 c3 c4 [⟨4, 0⟩] [0] [] [] []) : Calls Try.prog 10 #[drV A0 A1 A2 A3 A4 c0 c1 c2 c3 c4 1 1 0 0 0, .int .i64 3] w (APost w (.inl ⟨[⟨4, 1⟩], [], [], [], []⟩)) := by
  have h := act_calls A0 A1 A2 A3 A4 c0 c1 c2 c3 c4 [⟨4, 0⟩] [0] [] [] [] 3 w h (small_of (N := 1) (by omega) (by simp) (by simp) (by simp) (by simp) (by simp) (by simp) (by simp)) (room_of (N := 1) (by omega) (by simp) (by simp) (by simp) (by simp) (by simp) (by simp))
  have e : (if formedP [⟨4, 0⟩] [0] [] [] [] = true then actP ⟨[⟨4, 0⟩], [0], [], [], []⟩ 3 else .inr 1) = (.inl ⟨[⟨4, 1⟩], [], [], [], []⟩ : Dr ⊕ Int) := by kernel_rfl
  rw [e] at h
  exact h
theorem alive3 (A0 A1 A2 A3 A4 : Option Addr) (c0 c1 c2 c3 c4 : Nat) (w : World) (h : DrC w A0 A1 A2 A3 A4 c0 c1 c2 c3 c4 [⟨4, 1⟩] [] [] [] []) : Calls Try.prog 17 #[drV A0 A1 A2 A3 A4 c0 c1 c2 c3 c4 1 0 0 0 0] w (FPost w (.inl [⟨4, 1⟩])) := by
  have h := finish_calls A0 A1 A2 A3 A4 c0 c1 c2 c3 c4 [⟨4, 1⟩] [] [] [] [] w h (small_of (N := 1) (by omega) (by simp) (by simp) (by simp) (by simp) (by simp) (by simp) (by simp))
  have e : finP [⟨4, 1⟩] [] [] [] [] = (.inl [⟨4, 1⟩] : List S37 ⊕ Int) := by kernel_rfl
  rw [e] at h
  exact h
set_option maxHeartbeats 2000000 in
theorem alive_calls (w : World) : Calls Try.prog 8 #[] w fun e w' => e = .returned (.bool true) ∧ Below w.heap.size w w' := by
  go_enter Try.func8, Try.ntmps8
  go_wp2_with fail
  refine (alive1 w).mono ?_
  rintro e w1 ⟨hb1, A0, A1, A2, A3, A4, c0, c1, c2, c3, c4, o1, rfl, h1⟩
  have H1 := Aside0.mk (h1.below (below_alloc (Below.refl _ _) (.cells #[.slice A0 1 c0, .slice A1 1 c1, .slice A2 0 c2, .slice A3 0 c3, .slice A4 0 c4] 26)))
  have HB1 := Aside0.mk (below_alloc hb1 (.cells #[.slice A0 1 c0, .slice A1 1 c1, .slice A2 0 c2, .slice A3 0 c3, .slice A4 0 c4] 26))
  have HX1 := Aside0.mk (blk_new w1 (.cells #[.slice A0 1 c0, .slice A1 1 c1, .slice A2 0 c2, .slice A3 0 c3, .slice A4 0 c4] 26))
  have hz : w.heap.size ≤ w1.heap.size := hb1.size
  clear h1 hb1
  go_wp2_with fail
  generalize w1.alloc (.cells #[.slice A0 1 c0, .slice A1 1 c1, .slice A2 0 c2, .slice A3 0 c3, .slice A4 0 c4] 26) = w2 at H1 HB1 HX1 ⊢
  generalize w1.heap.size = g at HX1 hz ⊢
  refine (alive2 A0 A1 A2 A3 A4 c0 c1 c2 c3 c4 w2 H1.out.drc).mono ?_
  rintro e w3 ⟨hb3, B0, B1, B2, B3, B4, b0, b1, b2, b3, b4, o3, rfl, h3⟩
  have HX3 := Aside0.mk (blk_below HX1.out hb3)
  have HB3 := Aside0.mk (below_step HB1.out hb3)
  have f0 := blk_frozen HX3.out 0
  have f1 := blk_frozen HX3.out 1
  have f2 := blk_frozen HX3.out 2
  have f3 := blk_frozen HX3.out 3
  have f4 := blk_frozen HX3.out 4
  have r0 := (blk_cell HX3.out 0).trans rfl
  have r1 := (blk_cell HX3.out 1).trans rfl
  have r2 := (blk_cell HX3.out 2).trans rfl
  have r3 := (blk_cell HX3.out 3).trans rfl
  have r4 := (blk_cell HX3.out 4).trans rfl
  have g0 := blk_put HX3.out 0 (.slice B0 1 b0) rfl
  have g1 := blk_put g0 1 (.slice B1 0 b1) rfl
  have g2 := blk_put g1 2 (.slice B2 0 b2) rfl
  have g3 := blk_put g2 3 (.slice B3 0 b3) rfl
  have g4 := blk_put g3 4 (.slice B4 0 b4) rfl
  have H4 := Aside0.mk (((((h3.set HX3.out 0 (.slice B0 1 b0)).set g0 1 (.slice B1 0 b1)).set g1 2 (.slice B2 0 b2)).set g2 3 (.slice B3 0 b3)).set g3 4 (.slice B4 0 b4))
  have HB4 := Aside0.mk (((((HB3.out.setCell (p := ⟨g, 0, none⟩) hz (.slice B0 1 b0)).setCell (p := ⟨g, 1, none⟩) hz (.slice B1 0 b1)).setCell (p := ⟨g, 2, none⟩) hz (.slice B2 0 b2)).setCell (p := ⟨g, 3, none⟩) hz (.slice B3 0 b3)).setCell (p := ⟨g, 4, none⟩) hz (.slice B4 0 b4))
  have HX4 := Aside0.mk g4
  clear g0 g1 g2 g3 g4 h3 hb3 hz
  have k0 := (blk_cell HX4.out 0).trans rfl
  have k1 := (blk_cell HX4.out 1).trans rfl
  have k2 := (blk_cell HX4.out 2).trans rfl
  have k3 := (blk_cell HX4.out 3).trans rfl
  have k4 := (blk_cell HX4.out 4).trans rfl
  go_wp2_with fail
  clear k0 k1 k2 k3 k4 f0 f1 f2 f3 f4 r0 r1 r2 r3 r4
  refine (alive3 B0 B1 B2 B3 B4 b0 b1 b2 b3 b4 _ H4.out.drc).mono ?_
  rintro e w4 ⟨hb4, C, c, rfl, hC⟩
  have HB5 := Aside0.mk (below_step HB4.out hb4)
  obtain ⟨ad, e0, q0, q1⟩ := at_T37 (Kd.R_reads' hC).2.2 0 (by omega) (by decide)
  cases e0
  obtain ⟨g2, rfl⟩ := Kd.R_head hC
  have q2 : w4.cell? ⟨g2, 0, none⟩ = some (.int .i64 4) := q0.trans rfl
  have q3 : w4.cell? ⟨g2, 1, none⟩ = some (.int .u32 1) := q1.trans rfl
  clear q0 q1 hC hb4 HX4 HB4 H4 HX3 HX1 H1 HB1
  go_wp2_with fail
  go_ret
  exact ⟨rfl, HB5.out⟩
end Go.Proofs.Ytmglkgjnhoojaaa.PCodeRows
