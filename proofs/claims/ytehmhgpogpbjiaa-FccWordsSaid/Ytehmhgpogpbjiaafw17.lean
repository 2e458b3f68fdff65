/- one: a word of the text. -/
import Derived.Test.Ytehmhgpogpbjiaafw16
namespace Go.Proofs.Ytehmhgpogpbjiaa.Fcc
open Go.RowKit Go.Proofs.YtehmhgpogpbjiaaW.PrintWords Go.Proofs.YtehmhgpogpbjiaaW.PrintLast Go.Proofs.YtehmhgpogpbjiaaW.PrintMore Go.Proofs.Ytehmhgpogpbjiaa.PFccTokens
open Go.Maps (string_keyed)
set_option linter.unusedVariables false
set_option linter.unusedSimpArgs false
/-- What outer.Acts answers: some acts just for a word of the table. -/
abbrev ActsC : Prop := ∀ (s : ByteArray) (W : World), Calls Try.prog 34 #[.string s] W fun e W' => ∃ (A : Option Addr) (n c : Nat), e = .returned (.slice A n c) ∧ (if tableP s = true then 0 < n else n = 0) ∧ Below W.heap.size W W'
/-- What digit.Literal answers. -/
abbrev LitC (lit : ByteArray → Option Int) : Prop := ∀ (s : ByteArray) (W : World), s.size ≤ maxLen → Calls Try.prog 39 #[.string s] W fun e W' => (∃ z : Int, e = .returned (.tuple #[.int .u32 ((lit s).getD z), .bool (lit s).isSome])) ∧ Below W.heap.size W W'
theorem acts_yes {s : ByteArray} (hA : ActsC) (h : tableP s = true) (W : World) : Calls Try.prog 34 #[.string s] W fun e W' => ∃ (A : Option Addr) (n c : Nat), e = .returned (.slice A (n + 1) c) ∧ Below W.heap.size W W' :=
  (hA s W).mono fun e W' ⟨A, n, c, he, hn, hB⟩ => by
    rw [if_pos h] at hn
    obtain ⟨k, rfl⟩ : ∃ k, n = k + 1 := ⟨n - 1, by omega⟩
    exact ⟨A, k, c, he, hB⟩
theorem acts_no {s : ByteArray} (hA : ActsC) (h : tableP s = false) (W : World) : Calls Try.prog 34 #[.string s] W fun e W' => ∃ (A : Option Addr) (c : Nat), e = .returned (.slice A 0 c) ∧ Below W.heap.size W W' :=
  (hA s W).mono fun e W' ⟨A, n, c, he, hn, hB⟩ => by
    rw [if_neg (by rw [h]; simp)] at hn
    subst hn
    exact ⟨A, c, he, hB⟩
section
variable {w : World} {base g : Nat} {prims : List (ByteArray × Int)} {o : Nat → Nat} {vs : List Value} {m : Mk} {named : ByteArray → Bool} {lit : ByteArray → Option Int}
set_option maxRecDepth 100000 in
set_option maxHeartbeats 2000000 in
theorem one_semi_shut (h : Mx w base g prims o vs m) (ho : m.opn = false) : Calls Try.prog 18 #[.pointer (some ⟨g, 0, none⟩), .string ⟨#[59]⟩] w (MPost base g prims (.inr 13) w) := by
  have hmk := Aside0.mk (show makesP ⟨#[59]⟩ = 0 by kernel_rfl)
  have k4 : w.cell? ⟨g, 4, none⟩ = some (.bool m.opn) := by
    obtain ⟨v0, A1, c1, b, A7, c7, A8, c8, A9, c9, A10, c10, A11, c11, rfl⟩ := h.cells
    exact h.st.cell 4 rfl
  rw [ho] at k4
  clear h ho
  go_enter Try.func18, Try.ntmps18
  go_wp2_with fail
  refine (makes_calls _ w).mono ?_
  rintro e w' ⟨rfl, rfl⟩
  rw [hmk.out]
  go_wp2_with fail
  exact bodyPost_ret (v := .int .i64 13) (by simp [results, Try.results18, go_sem]) rfl ⟨Below.refl _ _, rfl⟩
set_option maxRecDepth 100000 in
set_option maxHeartbeats 2000000 in
theorem one_semi_open {r : Res} (h : Mx w base g prims o vs m) (ho : m.opn = true) (hW : Calls Try.prog 36 #[.pointer (some ⟨g, 0, none⟩), .string ⟨#[59]⟩] w (MPost base g prims r w)) : Calls Try.prog 18 #[.pointer (some ⟨g, 0, none⟩), .string ⟨#[59]⟩] w (MPost base g prims r w) := by
  have hmk := Aside0.mk (show makesP ⟨#[59]⟩ = 0 by kernel_rfl)
  have k4 : w.cell? ⟨g, 4, none⟩ = some (.bool m.opn) := by
    obtain ⟨v0, A1, c1, b, A7, c7, A8, c8, A9, c9, A10, c10, A11, c11, rfl⟩ := h.cells
    exact h.st.cell 4 rfl
  rw [ho] at k4
  have hC := Aside0.mk hW
  clear h ho hW
  go_enter Try.func18, Try.ntmps18
  go_wp2_with fail
  refine (makes_calls _ w).mono ?_
  rintro e w' ⟨rfl, rfl⟩
  rw [hmk.out]
  go_wp2_with fail
  refine hC.out.mono ?_
  rcases r with m1 | c
  · rintro e w4 ⟨hB4, rfl, o4, vs4, h4⟩
    go_wp2_with fail
    exact bodyPost_ret (v := .int .i64 0) (by simp [results, Try.results18, go_sem]) rfl ⟨hB4, rfl, o4, vs4, h4⟩
  · rintro e w4 ⟨hB4, rfl⟩
    go_wp2_with fail
    exact bodyPost_ret (v := .int .i64 c) (by simp [results, Try.results18, go_sem]) rfl ⟨hB4, rfl⟩
set_option maxRecDepth 100000 in
set_option maxHeartbeats 2000000 in
theorem one_exit_shut (h : Mx w base g prims o vs m) (ho : m.opn = false) : Calls Try.prog 18 #[.pointer (some ⟨g, 0, none⟩), .string ⟨#[101, 120, 105, 116]⟩] w (MPost base g prims (.inr 13) w) := by
  have hmk := Aside0.mk (show makesP ⟨#[101, 120, 105, 116]⟩ = 0 by kernel_rfl)
  have k4 : w.cell? ⟨g, 4, none⟩ = some (.bool m.opn) := by
    obtain ⟨v0, A1, c1, b, A7, c7, A8, c8, A9, c9, A10, c10, A11, c11, rfl⟩ := h.cells
    exact h.st.cell 4 rfl
  rw [ho] at k4
  clear h ho
  go_enter Try.func18, Try.ntmps18
  go_wp2_with fail
  refine (makes_calls _ w).mono ?_
  rintro e w' ⟨rfl, rfl⟩
  rw [hmk.out]
  go_wp2_with fail
  exact bodyPost_ret (v := .int .i64 13) (by simp [results, Try.results18, go_sem]) rfl ⟨Below.refl _ _, rfl⟩
set_option maxRecDepth 100000 in
set_option maxHeartbeats 2000000 in
theorem one_exit_open {r : Res} (h : Mx w base g prims o vs m) (ho : m.opn = true) (hW : Calls Try.prog 36 #[.pointer (some ⟨g, 0, none⟩), .string ⟨#[101, 120, 105, 116]⟩] w (MPost base g prims r w)) : Calls Try.prog 18 #[.pointer (some ⟨g, 0, none⟩), .string ⟨#[101, 120, 105, 116]⟩] w (MPost base g prims r w) := by
  have hmk := Aside0.mk (show makesP ⟨#[101, 120, 105, 116]⟩ = 0 by kernel_rfl)
  have k4 : w.cell? ⟨g, 4, none⟩ = some (.bool m.opn) := by
    obtain ⟨v0, A1, c1, b, A7, c7, A8, c8, A9, c9, A10, c10, A11, c11, rfl⟩ := h.cells
    exact h.st.cell 4 rfl
  rw [ho] at k4
  have hC := Aside0.mk hW
  clear h ho hW
  go_enter Try.func18, Try.ntmps18
  go_wp2_with fail
  refine (makes_calls _ w).mono ?_
  rintro e w' ⟨rfl, rfl⟩
  rw [hmk.out]
  go_wp2_with fail
  refine hC.out.mono ?_
  rcases r with m1 | c
  · rintro e w4 ⟨hB4, rfl, o4, vs4, h4⟩
    go_wp2_with fail
    exact bodyPost_ret (v := .int .i64 0) (by simp [results, Try.results18, go_sem]) rfl ⟨hB4, rfl, o4, vs4, h4⟩
  · rintro e w4 ⟨hB4, rfl⟩
    go_wp2_with fail
    exact bodyPost_ret (v := .int .i64 c) (by simp [results, Try.results18, go_sem]) rfl ⟨hB4, rfl⟩
set_option maxRecDepth 100000 in
set_option maxHeartbeats 2000000 in
theorem one_tick_shut (h : Mx w base g prims o vs m) (ho : m.opn = false) : Calls Try.prog 18 #[.pointer (some ⟨g, 0, none⟩), .string ⟨#[91, 39, 93]⟩] w (MPost base g prims (.inr 13) w) := by
  have hmk := Aside0.mk (show makesP ⟨#[91, 39, 93]⟩ = 0 by kernel_rfl)
  have k4 : w.cell? ⟨g, 4, none⟩ = some (.bool m.opn) := by
    obtain ⟨v0, A1, c1, b, A7, c7, A8, c8, A9, c9, A10, c10, A11, c11, rfl⟩ := h.cells
    exact h.st.cell 4 rfl
  rw [ho] at k4
  clear h ho
  go_enter Try.func18, Try.ntmps18
  go_wp2_with fail
  refine (makes_calls _ w).mono ?_
  rintro e w' ⟨rfl, rfl⟩
  rw [hmk.out]
  go_wp2_with fail
  exact bodyPost_ret (v := .int .i64 13) (by simp [results, Try.results18, go_sem]) rfl ⟨Below.refl _ _, rfl⟩
set_option maxRecDepth 100000 in
set_option maxHeartbeats 2000000 in
theorem one_tick_open {r : Res} (h : Mx w base g prims o vs m) (ho : m.opn = true) (hW : Calls Try.prog 36 #[.pointer (some ⟨g, 0, none⟩), .string ⟨#[91, 39, 93]⟩] w (MPost base g prims r w)) : Calls Try.prog 18 #[.pointer (some ⟨g, 0, none⟩), .string ⟨#[91, 39, 93]⟩] w (MPost base g prims r w) := by
  have hmk := Aside0.mk (show makesP ⟨#[91, 39, 93]⟩ = 0 by kernel_rfl)
  have k4 : w.cell? ⟨g, 4, none⟩ = some (.bool m.opn) := by
    obtain ⟨v0, A1, c1, b, A7, c7, A8, c8, A9, c9, A10, c10, A11, c11, rfl⟩ := h.cells
    exact h.st.cell 4 rfl
  rw [ho] at k4
  have hC := Aside0.mk hW
  clear h ho hW
  go_enter Try.func18, Try.ntmps18
  go_wp2_with fail
  refine (makes_calls _ w).mono ?_
  rintro e w' ⟨rfl, rfl⟩
  rw [hmk.out]
  go_wp2_with fail
  refine hC.out.mono ?_
  rcases r with m1 | c
  · rintro e w4 ⟨hB4, rfl, o4, vs4, h4⟩
    go_wp2_with fail
    exact bodyPost_ret (v := .int .i64 0) (by simp [results, Try.results18, go_sem]) rfl ⟨hB4, rfl, o4, vs4, h4⟩
  · rintro e w4 ⟨hB4, rfl⟩
    go_wp2_with fail
    exact bodyPost_ret (v := .int .i64 c) (by simp [results, Try.results18, go_sem]) rfl ⟨hB4, rfl⟩
set_option maxRecDepth 100000 in
set_option maxHeartbeats 2000000 in
theorem one_table_shut (hA : ActsC) (h : Mx w base g prims o vs m) (ho : m.opn = false) (s : ByteArray) (n0 : s.toList ≠ ([59] : List UInt8)) (n1 : s.toList ≠ ([101, 120, 105, 116] : List UInt8)) (n2 : s.toList ≠ ([91, 39, 93] : List UInt8)) (n3 : s.toList ≠ ([39] : List UInt8)) (ht : tableP s = true) (hm : makesP s = 0) : Calls Try.prog 18 #[.pointer (some ⟨g, 0, none⟩), .string s] w (MPost base g prims (.inr 13) w) := by
  have b0 : (s.toList == ([59] : List UInt8)) = false := beq_eq_false_iff_ne.mpr n0
  have b1 : (s.toList == ([101, 120, 105, 116] : List UInt8)) = false := beq_eq_false_iff_ne.mpr n1
  have b2 : (s.toList == ([91, 39, 93] : List UInt8)) = false := beq_eq_false_iff_ne.mpr n2
  have b3 : (s.toList == ([39] : List UInt8)) = false := beq_eq_false_iff_ne.mpr n3
  have k4 : w.cell? ⟨g, 4, none⟩ = some (.bool m.opn) := by
    obtain ⟨v0, A1, c1, b, A7, c7, A8, c8, A9, c9, A10, c10, A11, c11, rfl⟩ := h.cells
    exact h.st.cell 4 rfl
  rw [ho] at k4
  have hbb := h.st.base_le
  have hX := Aside0.mk h
  have hmk := Aside0.mk hm
  have hac := Aside0.mk (acts_yes hA ht)
  clear h ho hm ht n0 n1 n2 n3
  go_enter Try.func18, Try.ntmps18
  go_wp2_with fail
  refine (hac.out w).mono ?_
  rintro e w1 ⟨A, n, c, rfl, hB1⟩
  have k4' := (hB1.cell (p := ⟨g, 4, none⟩) hX.out.st.lt).trans k4
  clear k4
  have hB := Below.mono hB1 hbb
  have d0 : decide ((0 : Int) < ((n + 1 : Nat) : Int)) = true := by simp
  have d1 : decide ((0 : Int) < (n : Int) + 1) = true := by simp
  go_wp2_with fail
  refine (makes_calls _ _).mono ?_
  rintro e w' ⟨rfl, rfl⟩
  rw [hmk.out]
  go_wp2_with fail
  exact bodyPost_ret (v := .int .i64 13) (by simp [results, Try.results18, go_sem]) rfl ⟨hB, rfl⟩
set_option maxRecDepth 100000 in
set_option maxHeartbeats 2000000 in
theorem one_table_open {r : Res} (hA : ActsC) (h : Mx w base g prims o vs m) (ho : m.opn = true) (s : ByteArray) (n0 : s.toList ≠ ([59] : List UInt8)) (n1 : s.toList ≠ ([101, 120, 105, 116] : List UInt8)) (n2 : s.toList ≠ ([91, 39, 93] : List UInt8)) (n3 : s.toList ≠ ([39] : List UInt8)) (ht : tableP s = true) (hm : makesP s = 0) (hW : ∀ W, Below w.heap.size w W → Calls Try.prog 36 #[.pointer (some ⟨g, 0, none⟩), .string s] W (MPost base g prims r W)) : Calls Try.prog 18 #[.pointer (some ⟨g, 0, none⟩), .string s] w (MPost base g prims r w) := by
  have b0 : (s.toList == ([59] : List UInt8)) = false := beq_eq_false_iff_ne.mpr n0
  have b1 : (s.toList == ([101, 120, 105, 116] : List UInt8)) = false := beq_eq_false_iff_ne.mpr n1
  have b2 : (s.toList == ([91, 39, 93] : List UInt8)) = false := beq_eq_false_iff_ne.mpr n2
  have b3 : (s.toList == ([39] : List UInt8)) = false := beq_eq_false_iff_ne.mpr n3
  have k4 : w.cell? ⟨g, 4, none⟩ = some (.bool m.opn) := by
    obtain ⟨v0, A1, c1, b, A7, c7, A8, c8, A9, c9, A10, c10, A11, c11, rfl⟩ := h.cells
    exact h.st.cell 4 rfl
  rw [ho] at k4
  have hbb := h.st.base_le
  have hX := Aside0.mk h
  have hmk := Aside0.mk hm
  have hac := Aside0.mk (acts_yes hA ht)
  have hC := Aside0.mk hW
  clear h ho hm ht n0 n1 n2 n3 hW
  go_enter Try.func18, Try.ntmps18
  go_wp2_with fail
  refine (hac.out w).mono ?_
  rintro e w1 ⟨A, n, c, rfl, hB1⟩
  have k4' := (hB1.cell (p := ⟨g, 4, none⟩) hX.out.st.lt).trans k4
  clear k4
  have hB := Below.mono hB1 hbb
  have d0 : decide ((0 : Int) < ((n + 1 : Nat) : Int)) = true := by simp
  have d1 : decide ((0 : Int) < (n : Int) + 1) = true := by simp
  go_wp2_with fail
  refine (makes_calls _ _).mono ?_
  rintro e w' ⟨rfl, rfl⟩
  rw [hmk.out]
  go_wp2_with fail
  refine (hC.out _ hB1).mono ?_
  rcases r with m1 | c
  · rintro e w4 ⟨hB4, rfl, o4, vs4, h4⟩
    go_wp2_with fail
    exact bodyPost_ret (v := .int .i64 0) (by simp [results, Try.results18, go_sem]) rfl ⟨hB.trans hB4, rfl, o4, vs4, h4⟩
  · rintro e w4 ⟨hB4, rfl⟩
    go_wp2_with fail
    exact bodyPost_ret (v := .int .i64 c) (by simp [results, Try.results18, go_sem]) rfl ⟨hB.trans hB4, rfl⟩
set_option maxRecDepth 100000 in
set_option maxHeartbeats 2000000 in
theorem one_quote_open (hA : ActsC) (h : Mx w base g prims o vs m) (ho : m.opn = true) : Calls Try.prog 18 #[.pointer (some ⟨g, 0, none⟩), .string ⟨#[39]⟩] w (MPost base g prims (.inr 13) w) := by
  have ht : tableP ⟨#[39]⟩ = false := by kernel_rfl
  have k4 : w.cell? ⟨g, 4, none⟩ = some (.bool m.opn) := by
    obtain ⟨v0, A1, c1, b, A7, c7, A8, c8, A9, c9, A10, c10, A11, c11, rfl⟩ := h.cells
    exact h.st.cell 4 rfl
  rw [ho] at k4
  have hbb := h.st.base_le
  have hX := Aside0.mk h
  have hac := Aside0.mk (acts_no hA ht)
  clear h ho ht
  go_enter Try.func18, Try.ntmps18
  go_wp2_with fail
  refine (hac.out w).mono ?_
  rintro e w1 ⟨A, c, rfl, hB1⟩
  have k4' := (hB1.cell (p := ⟨g, 4, none⟩) hX.out.st.lt).trans k4
  clear k4
  have hB := Below.mono hB1 hbb
  go_wp2_with fail
  exact bodyPost_ret (v := .int .i64 13) (by simp [results, Try.results18, go_sem]) rfl ⟨hB, rfl⟩
set_option maxRecDepth 100000 in
set_option maxHeartbeats 2000000 in
theorem one_quote_shut {r : Res} (hA : ActsC) (h : Mx w base g prims o vs m) (ho : m.opn = false) (hW : ∀ W, Below w.heap.size w W → Calls Try.prog 37 #[.pointer (some ⟨g, 0, none⟩), .int .i64 17] W (MPost base g prims r W)) : Calls Try.prog 18 #[.pointer (some ⟨g, 0, none⟩), .string ⟨#[39]⟩] w (MPost base g prims r w) := by
  have ht : tableP ⟨#[39]⟩ = false := by kernel_rfl
  have k4 : w.cell? ⟨g, 4, none⟩ = some (.bool m.opn) := by
    obtain ⟨v0, A1, c1, b, A7, c7, A8, c8, A9, c9, A10, c10, A11, c11, rfl⟩ := h.cells
    exact h.st.cell 4 rfl
  rw [ho] at k4
  have hbb := h.st.base_le
  have hX := Aside0.mk h
  have hac := Aside0.mk (acts_no hA ht)
  have hC := Aside0.mk hW
  clear h ho ht hW
  go_enter Try.func18, Try.ntmps18
  go_wp2_with fail
  refine (hac.out w).mono ?_
  rintro e w1 ⟨A, c, rfl, hB1⟩
  have k4' := (hB1.cell (p := ⟨g, 4, none⟩) hX.out.st.lt).trans k4
  clear k4
  have hB := Below.mono hB1 hbb
  go_wp2_with fail
  refine (hC.out _ hB1).mono ?_
  rcases r with m1 | c
  · rintro e w4 ⟨hB4, rfl, o4, vs4, h4⟩
    go_wp2_with fail
    exact bodyPost_ret (v := .int .i64 0) (by simp [results, Try.results18, go_sem]) rfl ⟨hB.trans hB4, rfl, o4, vs4, h4⟩
  · rintro e w4 ⟨hB4, rfl⟩
    go_wp2_with fail
    exact bodyPost_ret (v := .int .i64 c) (by simp [results, Try.results18, go_sem]) rfl ⟨hB.trans hB4, rfl⟩
set_option maxRecDepth 100000 in
set_option maxHeartbeats 2000000 in
theorem one_def_open (hA : ActsC) (h : Mx w base g prims o vs m) (ho : m.opn = true) (s : ByteArray) (n0 : s.toList ≠ ([59] : List UInt8)) (n1 : s.toList ≠ ([101, 120, 105, 116] : List UInt8)) (n2 : s.toList ≠ ([91, 39, 93] : List UInt8)) (n3 : s.toList ≠ ([39] : List UInt8)) (ht : tableP s = false) (hm : makesP s ≠ 0) : Calls Try.prog 18 #[.pointer (some ⟨g, 0, none⟩), .string s] w (MPost base g prims (.inr 13) w) := by
  have b0 : (s.toList == ([59] : List UInt8)) = false := beq_eq_false_iff_ne.mpr n0
  have b1 : (s.toList == ([101, 120, 105, 116] : List UInt8)) = false := beq_eq_false_iff_ne.mpr n1
  have b2 : (s.toList == ([91, 39, 93] : List UInt8)) = false := beq_eq_false_iff_ne.mpr n2
  have b3 : (s.toList == ([39] : List UInt8)) = false := beq_eq_false_iff_ne.mpr n3
  have d3 : (makesP s == 0) = false := beq_eq_false_iff_ne.mpr hm
  have d4 : (makesP s != 0) = true := bne_iff_ne.mpr hm
  have k4 : w.cell? ⟨g, 4, none⟩ = some (.bool m.opn) := by
    obtain ⟨v0, A1, c1, b, A7, c7, A8, c8, A9, c9, A10, c10, A11, c11, rfl⟩ := h.cells
    exact h.st.cell 4 rfl
  rw [ho] at k4
  have hbb := h.st.base_le
  have hX := Aside0.mk h
  have hac := Aside0.mk (acts_no hA ht)
  clear h ho ht hm n0 n1 n2 n3
  go_enter Try.func18, Try.ntmps18
  go_wp2_with fail
  refine (hac.out w).mono ?_
  rintro e w1 ⟨A, c, rfl, hB1⟩
  have k4' := (hB1.cell (p := ⟨g, 4, none⟩) hX.out.st.lt).trans k4
  clear k4
  have hB := Below.mono hB1 hbb
  go_wp2_with fail
  refine (makes_calls _ _).mono ?_
  rintro e w' ⟨rfl, rfl⟩
  go_wp2_with fail
  exact bodyPost_ret (v := .int .i64 13) (by simp [results, Try.results18, go_sem]) rfl ⟨hB, rfl⟩
set_option maxRecDepth 100000 in
set_option maxHeartbeats 2000000 in
theorem one_def_shut {r : Res} (hA : ActsC) (h : Mx w base g prims o vs m) (ho : m.opn = false) (s : ByteArray) (n0 : s.toList ≠ ([59] : List UInt8)) (n1 : s.toList ≠ ([101, 120, 105, 116] : List UInt8)) (n2 : s.toList ≠ ([91, 39, 93] : List UInt8)) (n3 : s.toList ≠ ([39] : List UInt8)) (ht : tableP s = false) (hm : makesP s ≠ 0) (hW : ∀ W, Below w.heap.size w W → Calls Try.prog 38 #[.pointer (some ⟨g, 0, none⟩), .string s] W (MPost base g prims r W)) : Calls Try.prog 18 #[.pointer (some ⟨g, 0, none⟩), .string s] w (MPost base g prims r w) := by
  have b0 : (s.toList == ([59] : List UInt8)) = false := beq_eq_false_iff_ne.mpr n0
  have b1 : (s.toList == ([101, 120, 105, 116] : List UInt8)) = false := beq_eq_false_iff_ne.mpr n1
  have b2 : (s.toList == ([91, 39, 93] : List UInt8)) = false := beq_eq_false_iff_ne.mpr n2
  have b3 : (s.toList == ([39] : List UInt8)) = false := beq_eq_false_iff_ne.mpr n3
  have d3 : (makesP s == 0) = false := beq_eq_false_iff_ne.mpr hm
  have d4 : (makesP s != 0) = true := bne_iff_ne.mpr hm
  have k4 : w.cell? ⟨g, 4, none⟩ = some (.bool m.opn) := by
    obtain ⟨v0, A1, c1, b, A7, c7, A8, c8, A9, c9, A10, c10, A11, c11, rfl⟩ := h.cells
    exact h.st.cell 4 rfl
  rw [ho] at k4
  have hbb := h.st.base_le
  have hX := Aside0.mk h
  have hac := Aside0.mk (acts_no hA ht)
  have hC := Aside0.mk hW
  clear h ho ht hm n0 n1 n2 n3 hW
  go_enter Try.func18, Try.ntmps18
  go_wp2_with fail
  refine (hac.out w).mono ?_
  rintro e w1 ⟨A, c, rfl, hB1⟩
  have k4' := (hB1.cell (p := ⟨g, 4, none⟩) hX.out.st.lt).trans k4
  clear k4
  have hB := Below.mono hB1 hbb
  go_wp2_with fail
  refine (makes_calls _ _).mono ?_
  rintro e w' ⟨rfl, rfl⟩
  go_wp2_with fail
  refine (hC.out _ hB1).mono ?_
  rcases r with m1 | c
  · rintro e w4 ⟨hB4, rfl, o4, vs4, h4⟩
    go_wp2_with fail
    exact bodyPost_ret (v := .int .i64 0) (by simp [results, Try.results18, go_sem]) rfl ⟨hB.trans hB4, rfl, o4, vs4, h4⟩
  · rintro e w4 ⟨hB4, rfl⟩
    go_wp2_with fail
    exact bodyPost_ret (v := .int .i64 c) (by simp [results, Try.results18, go_sem]) rfl ⟨hB.trans hB4, rfl⟩
set_option maxRecDepth 100000 in
set_option maxHeartbeats 2000000 in
theorem one_to {r : Res} (hA : ActsC) (h : Mx w base g prims o vs m) (hW : ∀ W, Below w.heap.size w W → Calls Try.prog 37 #[.pointer (some ⟨g, 0, none⟩), .int .i64 195] W (MPost base g prims r W)) : Calls Try.prog 18 #[.pointer (some ⟨g, 0, none⟩), .string ⟨#[116, 111]⟩] w (MPost base g prims r w) := by
  have ht : tableP ⟨#[116, 111]⟩ = false := by kernel_rfl
  have hmk := Aside0.mk (show makesP ⟨#[116, 111]⟩ = 0 by kernel_rfl)
  have hbb := h.st.base_le
  have hac := Aside0.mk (acts_no hA ht)
  have hC := Aside0.mk hW
  clear h ht hW
  go_enter Try.func18, Try.ntmps18
  go_wp2_with fail
  refine (hac.out w).mono ?_
  rintro e w1 ⟨A, c, rfl, hB1⟩
  have hB := Below.mono hB1 hbb
  go_wp2_with fail
  refine (makes_calls _ _).mono ?_
  rintro e w' ⟨rfl, rfl⟩
  rw [hmk.out]
  go_wp2_with fail
  refine (hC.out _ hB1).mono ?_
  rcases r with m1 | c
  · rintro e w4 ⟨hB4, rfl, o4, vs4, h4⟩
    go_wp2_with fail
    exact bodyPost_ret (v := .int .i64 0) (by simp [results, Try.results18, go_sem]) rfl ⟨hB.trans hB4, rfl, o4, vs4, h4⟩
  · rintro e w4 ⟨hB4, rfl⟩
    go_wp2_with fail
    exact bodyPost_ret (v := .int .i64 c) (by simp [results, Try.results18, go_sem]) rfl ⟨hB.trans hB4, rfl⟩
set_option maxRecDepth 100000 in
set_option maxHeartbeats 2000000 in
theorem one_name (hA : ActsC) (hL : LitC lit) (h : Mx w base g prims o vs m) (hb : m.out.length < 1099511627700) (s : ByteArray) (n0 : s.toList ≠ ([59] : List UInt8)) (n1 : s.toList ≠ ([101, 120, 105, 116] : List UInt8)) (n2 : s.toList ≠ ([91, 39, 93] : List UInt8)) (n3 : s.toList ≠ ([39] : List UInt8)) (n4 : s.toList ≠ ([116, 111] : List UInt8)) (ht : tableP s = false) (hm : makesP s = 0) (hsz : s.size ≤ maxLen) {n : Int} (hf : findP prims m s = some n) : Calls Try.prog 18 #[.pointer (some ⟨g, 0, none⟩), .string s] w (MPost base g prims (.inl (m.add n)) w) := by
  have b0 : (s.toList == ([59] : List UInt8)) = false := beq_eq_false_iff_ne.mpr n0
  have b1 : (s.toList == ([101, 120, 105, 116] : List UInt8)) = false := beq_eq_false_iff_ne.mpr n1
  have b2 : (s.toList == ([91, 39, 93] : List UInt8)) = false := beq_eq_false_iff_ne.mpr n2
  have b3 : (s.toList == ([39] : List UInt8)) = false := beq_eq_false_iff_ne.mpr n3
  have b4 : (s.toList == ([116, 111] : List UInt8)) = false := beq_eq_false_iff_ne.mpr n4
  have hbb := h.st.base_le
  have hX := Aside0.mk h
  have hmk := Aside0.mk hm
  have hac := Aside0.mk (acts_no hA ht)
  have hf' := Aside0.mk hf
  clear h hm ht n0 n1 n2 n3 n4 hf
  go_enter Try.func18, Try.ntmps18
  go_wp2_with fail
  refine (hac.out w).mono ?_
  rintro e w1 ⟨A, c, rfl, hB1⟩
  have h1 := hX.out.below hB1
  have hB := Below.mono hB1 hbb
  go_wp2_with fail
  refine (makes_calls _ _).mono ?_
  rintro e w' ⟨rfl, rfl⟩
  rw [hmk.out]
  obtain ⟨v0, A1, c1, b, A7, c7, A8, c8, A9, c9, A10, c10, A11, c11, rfl⟩ := h1.cells
  obtain ⟨n1, D, hn1, hag, b', hb', -, -, hown⟩ := (h1.st.row 2 _ _ rfl rfl : namesF base (m.names ++ prims) w' _ (.map (some b)))
  cases hb'
  have hc2 := h1.st.cell 2 rfl
  have hlk : look (m.names ++ prims) s = some n := by rw [look_find]; exact hf'.out
  have ha := hag s
  rw [hlk] at ha
  have hat0 := Aside0.mk (ha.2 n rfl)
  have hhas : Maps.has D (.string s.data.toList) = true := ha.1
  clear ha hlk hag
  replace h1 := Aside0.mk h1
  go_wp2_with (at_lookup; refine wpList_lookup_own_ok_int _ rfl _ _ 52 rfl 9 3 .i64 (string_keyed Try.underlying9) Try.underlying52 Try.underlying3 (zero3 _) b n1 D rfl hown _ _ rfl (key9 hsz) ?_; intro c hat hwc)
  have hcn : c = n := by
    have := hat.symm.trans hat0.out
    simpa using this
  subst hcn
  refine (add_calls h1.out c 0 ⟨#[]⟩ (by omega)).mono ?_
  rintro e w4 ⟨rfl, hB4, o4, vs4, h4⟩
  go_wp2_with fail
  exact bodyPost_ret (v := .int .i64 0) (by simp [results, Try.results18, go_sem]) rfl ⟨hB.trans hB4, rfl, o4, vs4, h4⟩
set_option maxRecDepth 100000 in
set_option maxHeartbeats 2000000 in
theorem one_lit (hA : ActsC) (hL : LitC lit) (h : Mx w base g prims o vs m) (hb : m.out.length < 1099511627700) (s : ByteArray) (n0 : s.toList ≠ ([59] : List UInt8)) (n1 : s.toList ≠ ([101, 120, 105, 116] : List UInt8)) (n2 : s.toList ≠ ([91, 39, 93] : List UInt8)) (n3 : s.toList ≠ ([39] : List UInt8)) (n4 : s.toList ≠ ([116, 111] : List UInt8)) (ht : tableP s = false) (hm : makesP s = 0) (hsz : s.size ≤ maxLen) (hf : findP prims m s = none) {v : Int} (hl : lit s = some v) : Calls Try.prog 18 #[.pointer (some ⟨g, 0, none⟩), .string s] w (MPost base g prims (.inl (m.add 16 v)) w) := by
  have b0 : (s.toList == ([59] : List UInt8)) = false := beq_eq_false_iff_ne.mpr n0
  have b1 : (s.toList == ([101, 120, 105, 116] : List UInt8)) = false := beq_eq_false_iff_ne.mpr n1
  have b2 : (s.toList == ([91, 39, 93] : List UInt8)) = false := beq_eq_false_iff_ne.mpr n2
  have b3 : (s.toList == ([39] : List UInt8)) = false := beq_eq_false_iff_ne.mpr n3
  have b4 : (s.toList == ([116, 111] : List UInt8)) = false := beq_eq_false_iff_ne.mpr n4
  have hbb := h.st.base_le
  have hX := Aside0.mk h
  have hmk := Aside0.mk hm
  have hac := Aside0.mk (acts_no hA ht)
  have hlc := Aside0.mk (hL s)
  rw [hl] at hlc
  have hf' := Aside0.mk hf
  clear h hm ht n0 n1 n2 n3 n4 hf hl
  go_enter Try.func18, Try.ntmps18
  go_wp2_with fail
  refine (hac.out w).mono ?_
  rintro e w1 ⟨A, c, rfl, hB1⟩
  have h1 := hX.out.below hB1
  have hB := Below.mono hB1 hbb
  go_wp2_with fail
  refine (makes_calls _ _).mono ?_
  rintro e w' ⟨rfl, rfl⟩
  rw [hmk.out]
  obtain ⟨v0, A1, c1, b, A7, c7, A8, c8, A9, c9, A10, c10, A11, c11, rfl⟩ := h1.cells
  obtain ⟨n1, D, hn1, hag, b', hb', -, -, hown⟩ := (h1.st.row 2 _ _ rfl rfl : namesF base (m.names ++ prims) w' _ (.map (some b)))
  cases hb'
  have hc2 := h1.st.cell 2 rfl
  have hlk : look (m.names ++ prims) s = none := by rw [look_find]; exact hf'.out
  have ha := hag s
  rw [hlk] at ha
  have hhas : Maps.has D (.string s.data.toList) = false := ha.1
  clear ha hlk hag
  replace h1 := Aside0.mk h1
  go_wp2_with (at_lookup; refine wpList_lookup_own_ok_int _ rfl _ _ 52 rfl 9 3 .i64 (string_keyed Try.underlying9) Try.underlying52 Try.underlying3 (zero3 _) b n1 D rfl hown _ _ rfl (key9 hsz) ?_; intro c hat hwc)
  refine (hlc.out _ hsz).mono ?_
  rintro e w2 ⟨⟨z, rfl⟩, hB2⟩
  have hBB := hB.trans (Below.mono hB2 h1.out.st.base_le)
  have h2 := Aside0.mk (h1.out.below hB2)
  simp only [Option.getD_some, Option.isSome_some]
  go_wp2_with fail
  refine (add_calls h2.out 16 v ⟨#[]⟩ (by omega)).mono ?_
  rintro e w4 ⟨rfl, hB4, o4, vs4, h4⟩
  go_wp2_with fail
  exact bodyPost_ret (v := .int .i64 0) (by simp [results, Try.results18, go_sem]) rfl ⟨hBB.trans hB4, rfl, o4, vs4, h4⟩
set_option maxRecDepth 100000 in
set_option maxHeartbeats 2000000 in
theorem one_none (hA : ActsC) (hL : LitC lit) (h : Mx w base g prims o vs m) (hb : m.out.length < 1099511627700) (s : ByteArray) (n0 : s.toList ≠ ([59] : List UInt8)) (n1 : s.toList ≠ ([101, 120, 105, 116] : List UInt8)) (n2 : s.toList ≠ ([91, 39, 93] : List UInt8)) (n3 : s.toList ≠ ([39] : List UInt8)) (n4 : s.toList ≠ ([116, 111] : List UInt8)) (ht : tableP s = false) (hm : makesP s = 0) (hsz : s.size ≤ maxLen) (hf : findP prims m s = none) (hl : lit s = none) : Calls Try.prog 18 #[.pointer (some ⟨g, 0, none⟩), .string s] w (MPost base g prims (.inr 14) w) := by
  have b0 : (s.toList == ([59] : List UInt8)) = false := beq_eq_false_iff_ne.mpr n0
  have b1 : (s.toList == ([101, 120, 105, 116] : List UInt8)) = false := beq_eq_false_iff_ne.mpr n1
  have b2 : (s.toList == ([91, 39, 93] : List UInt8)) = false := beq_eq_false_iff_ne.mpr n2
  have b3 : (s.toList == ([39] : List UInt8)) = false := beq_eq_false_iff_ne.mpr n3
  have b4 : (s.toList == ([116, 111] : List UInt8)) = false := beq_eq_false_iff_ne.mpr n4
  have hbb := h.st.base_le
  have hX := Aside0.mk h
  have hmk := Aside0.mk hm
  have hac := Aside0.mk (acts_no hA ht)
  have hlc := Aside0.mk (hL s)
  rw [hl] at hlc
  have hf' := Aside0.mk hf
  clear h hm ht n0 n1 n2 n3 n4 hf hl
  go_enter Try.func18, Try.ntmps18
  go_wp2_with fail
  refine (hac.out w).mono ?_
  rintro e w1 ⟨A, c, rfl, hB1⟩
  have h1 := hX.out.below hB1
  have hB := Below.mono hB1 hbb
  go_wp2_with fail
  refine (makes_calls _ _).mono ?_
  rintro e w' ⟨rfl, rfl⟩
  rw [hmk.out]
  obtain ⟨v0, A1, c1, b, A7, c7, A8, c8, A9, c9, A10, c10, A11, c11, rfl⟩ := h1.cells
  obtain ⟨n1, D, hn1, hag, b', hb', -, -, hown⟩ := (h1.st.row 2 _ _ rfl rfl : namesF base (m.names ++ prims) w' _ (.map (some b)))
  cases hb'
  have hc2 := h1.st.cell 2 rfl
  have hlk : look (m.names ++ prims) s = none := by rw [look_find]; exact hf'.out
  have ha := hag s
  rw [hlk] at ha
  have hhas : Maps.has D (.string s.data.toList) = false := ha.1
  clear ha hlk hag
  replace h1 := Aside0.mk h1
  go_wp2_with (at_lookup; refine wpList_lookup_own_ok_int _ rfl _ _ 52 rfl 9 3 .i64 (string_keyed Try.underlying9) Try.underlying52 Try.underlying3 (zero3 _) b n1 D rfl hown _ _ rfl (key9 hsz) ?_; intro c hat hwc)
  refine (hlc.out _ hsz).mono ?_
  rintro e w2 ⟨⟨z, rfl⟩, hB2⟩
  have hBB := hB.trans (Below.mono hB2 h1.out.st.base_le)
  simp only [Option.getD_none, Option.isSome_none]
  go_wp2_with fail
  exact bodyPost_ret (v := .int .i64 14) (by simp [results, Try.results18, go_sem]) rfl ⟨hBB, rfl⟩
end
end Go.Proofs.Ytehmhgpogpbjiaa.Fcc

/- one, whichever word it is. -/
namespace Go.Proofs.Ytehmhgpogpbjiaa.Fcc
open Go.RowKit Go.Proofs.YtehmhgpogpbjiaaW.PrintWords Go.Proofs.YtehmhgpogpbjiaaW.PrintLast Go.Proofs.YtehmhgpogpbjiaaW.PrintMore Go.Proofs.Ytehmhgpogpbjiaa.PFccTokens
set_option linter.unusedVariables false
set_option linter.unusedSimpArgs false
/-- A maker that is not too great. -/
structure Ok (prims : List (ByteArray × Int)) (m : Mk) : Prop where
  wt : wt m ≤ 1000000000000
  nl : (m.names ++ prims).length < 1000000000000
  inp : ∀ t ∈ m.inp, t.f1.size ≤ maxLen
  next : 0 ≤ m.next ∧ m.next ≤ 4096
  name : m.name.size ≤ maxLen
  code : 0 ≤ m.code ∧ m.code ≤ 4095
  codes : ∀ p ∈ m.names ++ prims, 0 ≤ p.2 ∧ p.2 ≤ 4095
section
variable {w : World} {base g : Nat} {prims : List (ByteArray × Int)} {o : Nat → Nat} {vs : List Value} {m : Mk} {named : ByteArray → Bool} {lit : ByteArray → Option Int}
theorem Ok.out (hk : Ok prims m) : m.out.length ≤ 1000000000000 := (wt_all hk.wt).1
theorem Ok.find (hk : Ok prims m) {s : ByteArray} {n : Int} (h : findP prims m s = some n) : 0 ≤ n ∧ n ≤ 4095 := by
  rw [← look_find] at h
  unfold look at h
  obtain ⟨p, hp, rfl⟩ := Option.map_eq_some_iff.1 h
  exact hk.codes p (List.mem_of_find?_eq_some hp)
theorem named_any (code : Int) (h : Mx w base g prims o vs m) (hk : Ok prims m) : Calls Try.prog 37 #[.pointer (some ⟨g, 0, none⟩), .int .i64 code] w (MPost base g prims (namedP prims m code) w) := by
  have ho := hk.out
  cases hm : m.inp with
  | nil =>
    have hr : namedP prims m code = .inr 15 := by unfold namedP wordP; rw [hm]
    rw [hr]
    exact named_bad code h (.inl hm)
  | cons t r =>
    have hz := hk.inp t (by rw [hm]; exact List.mem_cons_self)
    by_cases ht : t.f0 = 1
    · have hw : wordP m = .inl (t.f1, { m with inp := r }) := by unfold wordP; rw [hm]; simp only [ht, if_true]
      cases hf : findP prims m t.f1 with
      | none =>
        have hr : namedP prims m code = .inr 14 := by
          unfold namedP
          rw [hw]
          show (match findP prims m t.f1 with | none => _ | some n => _) = _
          rw [hf]
        rw [hr]
        exact named_none code h hm ht hf hz
      | some n =>
        have hr : namedP prims m code = .inl ({ m with inp := r }.add code n) := by
          unfold namedP
          rw [hw]
          show (match findP prims m t.f1 with | none => _ | some n => _) = _
          rw [hf]
        rw [hr]
        have := hk.find hf
        exact named_calls code h (by omega) hm ht hf (by omega) hz
    · have hr : namedP prims m code = .inr 15 := by unfold namedP wordP; rw [hm]; simp only [ht, if_false]
      rw [hr]
      exact named_bad code h (.inr ⟨t, r, hm, ht⟩)
theorem define_any (hN : NamedC named) (h : Mx w base g prims o vs m) (hk : Ok prims m) (s : ByteArray) : Calls Try.prog 38 #[.pointer (some ⟨g, 0, none⟩), .string s] w (MPost base g prims (defineP named m s) w) := by
  have ho := hk.out
  by_cases h1 : s.toList = ([105, 110, 115, 116, 97, 110, 99, 101] : List UInt8)
  · have hr : defineP named m s = (match (match wordP m with
      | .inl (s, m1) => if s.toList = ([118, 97, 108, 117, 101] : List UInt8) then .inl (m1.add 192) else .inr 15
      | .inr _ => .inr 15 : Res) with
    | .inr e => .inr e
    | .inl m1 => defRest named s m1) := by unfold defineP; rw [if_pos h1]; rfl
    rw [hr]
    obtain rfl := str_of h1
    exact def_inst hN h (by omega) hk.nl hk.inp hk.next.1
  · have hr : defineP named m s = defRest named s m := by unfold defineP; rw [if_neg h1]; rfl
    rw [hr]
    by_cases h2 : s.toList = ([58] : List UInt8)
    · obtain rfl := str_of h2
      exact def_colon hN h (by omega) hk.nl hk.inp hk.next.1
    · exact def_other hN h s h2 h1 (by omega) hk.nl hk.inp hk.next.1
theorem table_makes {s : ByteArray} (h : tableP s = true) : makesP s = 0 ∧ s.toList ≠ ([39] : List UInt8) ∧ s.toList ≠ ([59] : List UInt8) ∧ s.toList ≠ ([101, 120, 105, 116] : List UInt8) ∧ s.toList ≠ ([91, 39, 93] : List UInt8) := by
  unfold tableP at h
  unfold makesP
  generalize s.toList = l at h ⊢
  revert h
  simp only [decide_eq_true_eq, List.mem_cons, List.not_mem_nil, or_false]
  intro h
  rcases h with rfl | rfl | rfl | rfl | rfl | rfl | rfl | rfl | rfl | rfl | rfl | rfl | rfl | rfl | rfl | rfl | rfl <;> exact ⟨rfl, by decide, by decide, by decide, by decide⟩
theorem within_any (h : Mx w base g prims o vs m) (hk : Ok prims m) (s : ByteArray) (hi : insideP s = true) : Calls Try.prog 36 #[.pointer (some ⟨g, 0, none⟩), .string s] w (MPost base g prims (withinP prims m s) w) := by
  have ho := hk.out
  unfold withinP
  by_cases h0 : s.toList = ([59] : List UInt8)
  · rw [if_pos h0]
    obtain rfl := str_of h0
    exact semi_calls h hk.wt hk.name hk.nl ⟨by have := hk.code; omega, by have := hk.code; omega⟩
  · rw [if_neg h0]
    by_cases h1 : s.toList = ([101, 120, 105, 116] : List UInt8)
    · rw [if_pos h1]
      obtain rfl := str_of h1
      exact exit_calls h (by omega)
    · rw [if_neg h1]
      by_cases h2 : s.toList = ([91, 39, 93] : List UInt8)
      · rw [if_pos h2]
        obtain rfl := str_of h2
        exact tick_calls (named_any 17 h hk)
      · rw [if_neg h2]
        refine table_calls h hk.wt s ?_
        unfold insideP at hi
        simpa [h0, h1, h2] using hi
theorem one_any (hA : ActsC) (hL : LitC lit) (hN : NamedC named) (h : Mx w base g prims o vs m) (hk : Ok prims m) (s : ByteArray) (hsz : s.size ≤ maxLen) : Calls Try.prog 18 #[.pointer (some ⟨g, 0, none⟩), .string s] w (MPost base g prims (oneP named prims lit m s) w) := by
  have ho := hk.out
  have hW := fun hi => within_any h hk s hi
  unfold oneP
  by_cases h0 : s.toList = ([59] : List UInt8)
  · have hi : insideP s = true := by unfold insideP; simp [h0]
    have hx : outsideP s = false := by obtain rfl := str_of h0; kernel_rfl
    have hW := hW hi
    rw [hi, hx]
    obtain rfl := str_of h0
    cases hop : m.opn with
    | false => exact one_semi_shut h hop
    | true => exact one_semi_open h hop hW
  by_cases h1 : s.toList = ([101, 120, 105, 116] : List UInt8)
  · have hi : insideP s = true := by unfold insideP; simp [h1]
    have hx : outsideP s = false := by obtain rfl := str_of h1; kernel_rfl
    have hW := hW hi
    rw [hi, hx]
    obtain rfl := str_of h1
    cases hop : m.opn with
    | false => exact one_exit_shut h hop
    | true => exact one_exit_open h hop hW
  by_cases h2 : s.toList = ([91, 39, 93] : List UInt8)
  · have hi : insideP s = true := by unfold insideP; simp [h2]
    have hx : outsideP s = false := by obtain rfl := str_of h2; kernel_rfl
    have hW := hW hi
    rw [hi, hx]
    obtain rfl := str_of h2
    cases hop : m.opn with
    | false => exact one_tick_shut h hop
    | true => exact one_tick_open h hop hW
  cases ht : tableP s with
  | true =>
    have hi : insideP s = true := by unfold insideP; rw [ht]; simp
    obtain ⟨hm, h3, -⟩ := table_makes ht
    have hx : outsideP s = false := by unfold outsideP; simp [h3, hm]
    rw [hi, hx]
    cases hop : m.opn with
    | false => exact one_table_shut hA h hop s h0 h1 h2 h3 ht hm
    | true => exact one_table_open hA h hop s h0 h1 h2 h3 ht hm (fun W hB => (within_any (h.below hB) hk s hi).mono fun e w' hh => hh)
  | false =>
    have hi : insideP s = false := by unfold insideP; rw [ht]; simp [h0, h1, h2]
    by_cases h3 : s.toList = ([39] : List UInt8)
    · have hx : outsideP s = true := by unfold outsideP; simp [h3]
      rw [hi, hx]
      obtain rfl := str_of h3
      cases hop : m.opn with
      | true => exact one_quote_open hA h hop
      | false =>
        simp only [h3, if_true, Bool.false_and, Bool.true_and, Bool.or_self, if_false, Bool.false_eq_true]
        exact one_quote_shut hA h hop (fun W hB => named_any 17 (h.below hB) hk)
    by_cases hm : makesP s = 0
    · have hx : outsideP s = false := by unfold outsideP; simp [h3, hm]
      rw [hi, hx]
      simp only [h3, if_false, Bool.false_and, Bool.or_self, Bool.false_eq_true]
      by_cases h4 : s.toList = ([116, 111] : List UInt8)
      · rw [if_pos h4]
        obtain rfl := str_of h4
        exact one_to hA h (fun W hB => named_any 195 (h.below hB) hk)
      · rw [if_neg h4]
        cases hf : findP prims m s with
        | some n => exact one_name hA hL h (by omega) s h0 h1 h2 h3 h4 ht hm hsz hf
        | none =>
          cases hl : lit s with
          | some v => exact one_lit hA hL h (by omega) s h0 h1 h2 h3 h4 ht hm hsz hf hl
          | none => exact one_none hA hL h (by omega) s h0 h1 h2 h3 h4 ht hm hsz hf hl
    · have hx : outsideP s = true := by unfold outsideP; simp [hm]
      rw [hi, hx]
      cases hop : m.opn with
      | true => exact one_def_open hA h hop s h0 h1 h2 h3 ht hm
      | false =>
        simp only [h3, if_true, Bool.false_and, Bool.true_and, Bool.or_self, if_false, Bool.false_eq_true]
        exact one_def_shut hA h hop s h0 h1 h2 h3 ht hm (fun W hB => define_any hN (h.below hB) hk s)
end
end Go.Proofs.Ytehmhgpogpbjiaa.Fcc
