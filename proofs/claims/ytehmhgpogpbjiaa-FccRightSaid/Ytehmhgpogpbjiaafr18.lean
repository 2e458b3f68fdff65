import Derived.Test.Ytehmhgpogpbjiaafr17
set_option linter.unusedVariables false
set_option linter.unusedSimpArgs false
set_option maxRecDepth 100000
set_option maxHeartbeats 8000000
namespace Go.Proofs.Ytehmhgpogpbjiaa.Fcc
open Go.RowKit Go.Proofs.YtehmhgpogpbjiaaW.PrintWords Go.Proofs.YtehmhgpogpbjiaaW.PrintLast Go.Proofs.YtehmhgpogpbjiaaW.PrintMore Go.Proofs.Ytehmhgpogpbjiaa.PFccTokens
open Go.Maps (string_keyed)
abbrev Jh : Prop := ∀ (s : ByteArray) (W : World), Calls Try.prog 34 #[.string s] W fun e W' => ∃ (A : Option Addr) (n c : Nat), e = .returned (.slice A n c) ∧ (if Xc s = true then 0 < n else n = 0) ∧ Below W.heap.size W W'
abbrev LitC (lit : ByteArray → Option Int) : Prop := ∀ (s : ByteArray) (W : World), s.size ≤ maxLen → Calls Try.prog 39 #[.string s] W fun e W' => (∃ z : Int, e = .returned (.tuple #[.int .u32 ((lit s).getD z), .bool (lit s).isSome])) ∧ Below W.heap.size W W'
theorem Ydy {s : ByteArray} (hA : Jh) (h : Xc s = true) (W : World) : Calls Try.prog 34 #[.string s] W fun e W' => ∃ (A : Option Addr) (n c : Nat), e = .returned (.slice A (n + 1) c) ∧ Below W.heap.size W W' :=
 (hA s W).mono fun e W' ⟨A, n, c, he, hn, hB⟩ => by
  rw [if_pos h] at hn
  obtain ⟨k, rfl⟩ : ∃ k, n = k + 1 := ⟨n - 1, Z0⟩
  exact ⟨A, k, c, he, hB⟩
theorem UQ {s : ByteArray} (hA : Jh) (h : Xc s = false) (W : World) : Calls Try.prog 34 #[.string s] W fun e W' => ∃ (A : Option Addr) (c : Nat), e = .returned (.slice A 0 c) ∧ Below W.heap.size W W' :=
 (hA s W).mono fun e W' ⟨A, n, c, he, hn, hB⟩ => by
  rw [if_neg (by rw [h]; simp)] at hn
  subst hn
  exact ⟨A, c, he, hB⟩
section
variable {w : World} {base g : Nat} {prims : List (ByteArray × Int)} {o : Nat → Nat} {vs : List Value} {m : Mk} {named : ByteArray → Bool} {lit : ByteArray → Option Int}
theorem YbB (h : Mx w base g prims o vs m) (ho : m.opn = false) : Calls Try.prog 18 #[.pointer (some ⟨g, 0, none⟩), .string ⟨#[59]⟩] w (XQ base g prims (.inr 13) w) := by
 have hmk := Aside0.mk (show YT ⟨#[59]⟩ = 0 by kernel_rfl)
 have k4 : w.cell? ⟨g, 4, none⟩ = some (.bool m.opn) := by
  obtain ⟨v0, A1, c1, b, A7, c7, A8, c8, A9, c9, A10, c10, A11, c11, rfl⟩ := h.cells
  exact h.st.cell 4 rfl
 rw [ho] at k4
 clear h ho
 go_enter Try.func18, Try.ntmps18
 go_wp2_with fail
 refine (Xn _ w).mono ?_
 rintro e w' ⟨rfl, rfl⟩
 rw [hmk.out]
 go_wp2_with fail
 exact Z1T
theorem YbC {r : Res} (h : Mx w base g prims o vs m) (ho : m.opn = true) (hW : Calls Try.prog 36 #[.pointer (some ⟨g, 0, none⟩), .string ⟨#[59]⟩] w (XQ base g prims r w)) : Calls Try.prog 18 #[.pointer (some ⟨g, 0, none⟩), .string ⟨#[59]⟩] w (XQ base g prims r w) := by
 have hmk := Aside0.mk (show YT ⟨#[59]⟩ = 0 by kernel_rfl)
 have k4 : w.cell? ⟨g, 4, none⟩ = some (.bool m.opn) := by
  obtain ⟨v0, A1, c1, b, A7, c7, A8, c8, A9, c9, A10, c10, A11, c11, rfl⟩ := h.cells
  exact h.st.cell 4 rfl
 rw [ho] at k4
 have hC := Aside0.mk hW
 clear h ho hW
 go_enter Try.func18, Try.ntmps18
 go_wp2_with fail
 refine (Xn _ w).mono ?_
 rintro e w' ⟨rfl, rfl⟩
 rw [hmk.out]
 go_wp2_with fail
 refine hC.out.mono ?_
 rcases r with m1 | c
 ·rintro e w4 ⟨hB4, rfl, o4, vs4, h4⟩
  go_wp2_with fail
  exact Z1U
 ·rintro e w4 ⟨hB4, rfl⟩
  go_wp2_with fail
  exact Z1V
theorem YbD (h : Mx w base g prims o vs m) (ho : m.opn = false) : Calls Try.prog 18 #[.pointer (some ⟨g, 0, none⟩), .string ⟨#[101, 120, 105, 116]⟩] w (XQ base g prims (.inr 13) w) := by
 have hmk := Aside0.mk (show YT ⟨#[101, 120, 105, 116]⟩ = 0 by kernel_rfl)
 have k4 : w.cell? ⟨g, 4, none⟩ = some (.bool m.opn) := by
  obtain ⟨v0, A1, c1, b, A7, c7, A8, c8, A9, c9, A10, c10, A11, c11, rfl⟩ := h.cells
  exact h.st.cell 4 rfl
 rw [ho] at k4
 clear h ho
 go_enter Try.func18, Try.ntmps18
 go_wp2_with fail
 refine (Xn _ w).mono ?_
 rintro e w' ⟨rfl, rfl⟩
 rw [hmk.out]
 go_wp2_with fail
 exact Z1T
theorem YbE {r : Res} (h : Mx w base g prims o vs m) (ho : m.opn = true) (hW : Calls Try.prog 36 #[.pointer (some ⟨g, 0, none⟩), .string ⟨#[101, 120, 105, 116]⟩] w (XQ base g prims r w)) : Calls Try.prog 18 #[.pointer (some ⟨g, 0, none⟩), .string ⟨#[101, 120, 105, 116]⟩] w (XQ base g prims r w) := by
 have hmk := Aside0.mk (show YT ⟨#[101, 120, 105, 116]⟩ = 0 by kernel_rfl)
 have k4 : w.cell? ⟨g, 4, none⟩ = some (.bool m.opn) := by
  obtain ⟨v0, A1, c1, b, A7, c7, A8, c8, A9, c9, A10, c10, A11, c11, rfl⟩ := h.cells
  exact h.st.cell 4 rfl
 rw [ho] at k4
 have hC := Aside0.mk hW
 clear h ho hW
 go_enter Try.func18, Try.ntmps18
 go_wp2_with fail
 refine (Xn _ w).mono ?_
 rintro e w' ⟨rfl, rfl⟩
 rw [hmk.out]
 go_wp2_with fail
 refine hC.out.mono ?_
 rcases r with m1 | c
 ·rintro e w4 ⟨hB4, rfl, o4, vs4, h4⟩
  go_wp2_with fail
  exact Z1U
 ·rintro e w4 ⟨hB4, rfl⟩
  go_wp2_with fail
  exact Z1V
theorem Ybz (h : Mx w base g prims o vs m) (ho : m.opn = false) : Calls Try.prog 18 #[.pointer (some ⟨g, 0, none⟩), .string ⟨#[91, 39, 93]⟩] w (XQ base g prims (.inr 13) w) := by
 have hmk := Aside0.mk (show YT ⟨#[91, 39, 93]⟩ = 0 by kernel_rfl)
 have k4 : w.cell? ⟨g, 4, none⟩ = some (.bool m.opn) := by
  obtain ⟨v0, A1, c1, b, A7, c7, A8, c8, A9, c9, A10, c10, A11, c11, rfl⟩ := h.cells
  exact h.st.cell 4 rfl
 rw [ho] at k4
 clear h ho
 go_enter Try.func18, Try.ntmps18
 go_wp2_with fail
 refine (Xn _ w).mono ?_
 rintro e w' ⟨rfl, rfl⟩
 rw [hmk.out]
 go_wp2_with fail
 exact Z1T
theorem YbA {r : Res} (h : Mx w base g prims o vs m) (ho : m.opn = true) (hW : Calls Try.prog 36 #[.pointer (some ⟨g, 0, none⟩), .string ⟨#[91, 39, 93]⟩] w (XQ base g prims r w)) : Calls Try.prog 18 #[.pointer (some ⟨g, 0, none⟩), .string ⟨#[91, 39, 93]⟩] w (XQ base g prims r w) := by
 have hmk := Aside0.mk (show YT ⟨#[91, 39, 93]⟩ = 0 by kernel_rfl)
 have k4 : w.cell? ⟨g, 4, none⟩ = some (.bool m.opn) := by
  obtain ⟨v0, A1, c1, b, A7, c7, A8, c8, A9, c9, A10, c10, A11, c11, rfl⟩ := h.cells
  exact h.st.cell 4 rfl
 rw [ho] at k4
 have hC := Aside0.mk hW
 clear h ho hW
 go_enter Try.func18, Try.ntmps18
 go_wp2_with fail
 refine (Xn _ w).mono ?_
 rintro e w' ⟨rfl, rfl⟩
 rw [hmk.out]
 go_wp2_with fail
 refine hC.out.mono ?_
 rcases r with m1 | c
 ·rintro e w4 ⟨hB4, rfl, o4, vs4, h4⟩
  go_wp2_with fail
  exact Z1U
 ·rintro e w4 ⟨hB4, rfl⟩
  go_wp2_with fail
  exact Z1V
theorem YaW (hA : Jh) (h : Mx w base g prims o vs m) (ho : m.opn = false) (s : ByteArray) (n0 : s.toList ≠ ([59] : List UInt8)) (n1 : s.toList ≠ ([101, 120, 105, 116] : List UInt8)) (n2 : s.toList ≠ ([91, 39, 93] : List UInt8)) (n3 : s.toList ≠ ([39] : List UInt8)) (ht : Xc s = true) (hm : YT s = 0) : Calls Try.prog 18 #[.pointer (some ⟨g, 0, none⟩), .string s] w (XQ base g prims (.inr 13) w) := by
 have b0 : (s.toList == ([59] : List UInt8)) = false := beq_eq_false_iff_ne.mpr n0
 have b1 : (s.toList == ([101, 120, 105, 116] : List UInt8)) = false := beq_eq_false_iff_ne.mpr n1
 have b2 : (s.toList == ([91, 39, 93] : List UInt8)) = false := beq_eq_false_iff_ne.mpr n2
 have b3 : (s.toList == ([39] : List UInt8)) = false := beq_eq_false_iff_ne.mpr n3
 have k4 : w.cell? ⟨g, 4, none⟩ = some (.bool m.opn) := by
  obtain ⟨v0, A1, c1, b, A7, c7, A8, c8, A9, c9, A10, c10, A11, c11, rfl⟩ := h.cells
  exact h.st.cell 4 rfl
 rw [ho] at k4
 have hbb := h.st.base_le
 have hX := Aside0.mk h
 have hmk := Aside0.mk hm
 have hac := Aside0.mk (Ydy hA ht)
 clear h ho hm ht n0 n1 n2 n3
 go_enter Try.func18, Try.ntmps18
 go_wp2_with fail
 refine (hac.out w).mono ?_
 rintro e w1 ⟨A, n, c, rfl, hB1⟩
 have k4' := (hB1.cell (p := ⟨g, 4, none⟩) hX.out.st.lt).trans k4
 clear k4
 have hB := Below.mono hB1 hbb
 have d0 : decide ((0 : Int) < ((n + 1 : Nat) : Int)) = true := by simp
 have d1 : decide ((0 : Int) < (n : Int) + 1) = true := by simp
 go_wp2_with fail
 refine (Xn _ _).mono ?_
 rintro e w' ⟨rfl, rfl⟩
 rw [hmk.out]
 go_wp2_with fail
 exact Z1W
theorem YaX {r : Res} (hA : Jh) (h : Mx w base g prims o vs m) (ho : m.opn = true) (s : ByteArray) (n0 : s.toList ≠ ([59] : List UInt8)) (n1 : s.toList ≠ ([101, 120, 105, 116] : List UInt8)) (n2 : s.toList ≠ ([91, 39, 93] : List UInt8)) (n3 : s.toList ≠ ([39] : List UInt8)) (ht : Xc s = true) (hm : YT s = 0) (hW : ∀ W, Below w.heap.size w W → Calls Try.prog 36 #[.pointer (some ⟨g, 0, none⟩), .string s] W (XQ base g prims r W)) : Calls Try.prog 18 #[.pointer (some ⟨g, 0, none⟩), .string s] w (XQ base g prims r w) := by
 have b0 : (s.toList == ([59] : List UInt8)) = false := beq_eq_false_iff_ne.mpr n0
 have b1 : (s.toList == ([101, 120, 105, 116] : List UInt8)) = false := beq_eq_false_iff_ne.mpr n1
 have b2 : (s.toList == ([91, 39, 93] : List UInt8)) = false := beq_eq_false_iff_ne.mpr n2
 have b3 : (s.toList == ([39] : List UInt8)) = false := beq_eq_false_iff_ne.mpr n3
 have k4 : w.cell? ⟨g, 4, none⟩ = some (.bool m.opn) := by
  obtain ⟨v0, A1, c1, b, A7, c7, A8, c8, A9, c9, A10, c10, A11, c11, rfl⟩ := h.cells
  exact h.st.cell 4 rfl
 rw [ho] at k4
 have hbb := h.st.base_le
 have hX := Aside0.mk h
 have hmk := Aside0.mk hm
 have hac := Aside0.mk (Ydy hA ht)
 have hC := Aside0.mk hW
 clear h ho hm ht n0 n1 n2 n3 hW
 go_enter Try.func18, Try.ntmps18
 go_wp2_with fail
 refine (hac.out w).mono ?_
 rintro e w1 ⟨A, n, c, rfl, hB1⟩
 have k4' := (hB1.cell (p := ⟨g, 4, none⟩) hX.out.st.lt).trans k4
 clear k4
 have hB := Below.mono hB1 hbb
 have d0 : decide ((0 : Int) < ((n + 1 : Nat) : Int)) = true := by simp
 have d1 : decide ((0 : Int) < (n : Int) + 1) = true := by simp
 go_wp2_with fail
 refine (Xn _ _).mono ?_
 rintro e w' ⟨rfl, rfl⟩
 rw [hmk.out]
 go_wp2_with fail
 refine (hC.out _ hB1).mono ?_
 rcases r with m1 | c
 ·rintro e w4 ⟨hB4, rfl, o4, vs4, h4⟩
  go_wp2_with fail
  exact Z1c
 ·rintro e w4 ⟨hB4, rfl⟩
  go_wp2_with fail
  exact Z1v
theorem YaZ (hA : Jh) (h : Mx w base g prims o vs m) (ho : m.opn = true) : Calls Try.prog 18 #[.pointer (some ⟨g, 0, none⟩), .string ⟨#[39]⟩] w (XQ base g prims (.inr 13) w) := by
 have ht : Xc ⟨#[39]⟩ = false := by kernel_rfl
 have k4 : w.cell? ⟨g, 4, none⟩ = some (.bool m.opn) := by
  obtain ⟨v0, A1, c1, b, A7, c7, A8, c8, A9, c9, A10, c10, A11, c11, rfl⟩ := h.cells
  exact h.st.cell 4 rfl
 rw [ho] at k4
 have hbb := h.st.base_le
 have hX := Aside0.mk h
 have hac := Aside0.mk (UQ hA ht)
 clear h ho ht
 go_enter Try.func18, Try.ntmps18
 go_wp2_with fail
 refine (hac.out w).mono ?_
 rintro e w1 ⟨A, c, rfl, hB1⟩
 have k4' := (hB1.cell (p := ⟨g, 4, none⟩) hX.out.st.lt).trans k4
 clear k4
 have hB := Below.mono hB1 hbb
 go_wp2_with fail
 exact Z1W
theorem YaY {r : Res} (hA : Jh) (h : Mx w base g prims o vs m) (ho : m.opn = false) (hW : ∀ W, Below w.heap.size w W → Calls Try.prog 37 #[.pointer (some ⟨g, 0, none⟩), .int .i64 17] W (XQ base g prims r W)) : Calls Try.prog 18 #[.pointer (some ⟨g, 0, none⟩), .string ⟨#[39]⟩] w (XQ base g prims r w) := by
 have ht : Xc ⟨#[39]⟩ = false := by kernel_rfl
 have k4 : w.cell? ⟨g, 4, none⟩ = some (.bool m.opn) := by
  obtain ⟨v0, A1, c1, b, A7, c7, A8, c8, A9, c9, A10, c10, A11, c11, rfl⟩ := h.cells
  exact h.st.cell 4 rfl
 rw [ho] at k4
 have hbb := h.st.base_le
 have hX := Aside0.mk h
 have hac := Aside0.mk (UQ hA ht)
 have hC := Aside0.mk hW
 clear h ho ht hW
 go_enter Try.func18, Try.ntmps18
 go_wp2_with fail
 refine (hac.out w).mono ?_
 rintro e w1 ⟨A, c, rfl, hB1⟩
 have k4' := (hB1.cell (p := ⟨g, 4, none⟩) hX.out.st.lt).trans k4
 clear k4
 have hB := Below.mono hB1 hbb
 go_wp2_with fail
 refine (hC.out _ hB1).mono ?_
 rcases r with m1 | c
 ·rintro e w4 ⟨hB4, rfl, o4, vs4, h4⟩
  go_wp2_with fail
  exact Z1c
 ·rintro e w4 ⟨hB4, rfl⟩
  go_wp2_with fail
  exact Z1v
theorem Yb9 (hA : Jh) (h : Mx w base g prims o vs m) (ho : m.opn = true) (s : ByteArray) (n0 : s.toList ≠ ([59] : List UInt8)) (n1 : s.toList ≠ ([101, 120, 105, 116] : List UInt8)) (n2 : s.toList ≠ ([91, 39, 93] : List UInt8)) (n3 : s.toList ≠ ([39] : List UInt8)) (ht : Xc s = false) (hm : YT s ≠ 0) : Calls Try.prog 18 #[.pointer (some ⟨g, 0, none⟩), .string s] w (XQ base g prims (.inr 13) w) := by
 have b0 : (s.toList == ([59] : List UInt8)) = false := beq_eq_false_iff_ne.mpr n0
 have b1 : (s.toList == ([101, 120, 105, 116] : List UInt8)) = false := beq_eq_false_iff_ne.mpr n1
 have b2 : (s.toList == ([91, 39, 93] : List UInt8)) = false := beq_eq_false_iff_ne.mpr n2
 have b3 : (s.toList == ([39] : List UInt8)) = false := beq_eq_false_iff_ne.mpr n3
 have d3 : (YT s == 0) = false := beq_eq_false_iff_ne.mpr hm
 have d4 : (YT s != 0) = true := bne_iff_ne.mpr hm
 have k4 : w.cell? ⟨g, 4, none⟩ = some (.bool m.opn) := by
  obtain ⟨v0, A1, c1, b, A7, c7, A8, c8, A9, c9, A10, c10, A11, c11, rfl⟩ := h.cells
  exact h.st.cell 4 rfl
 rw [ho] at k4
 have hbb := h.st.base_le
 have hX := Aside0.mk h
 have hac := Aside0.mk (UQ hA ht)
 clear h ho ht hm n0 n1 n2 n3
 go_enter Try.func18, Try.ntmps18
 go_wp2_with fail
 refine (hac.out w).mono ?_
 rintro e w1 ⟨A, c, rfl, hB1⟩
 have k4' := (hB1.cell (p := ⟨g, 4, none⟩) hX.out.st.lt).trans k4
 clear k4
 have hB := Below.mono hB1 hbb
 go_wp2_with fail
 refine (Xn _ _).mono ?_
 rintro e w' ⟨rfl, rfl⟩
 go_wp2_with fail
 exact Z1W
theorem Yb8 {r : Res} (hA : Jh) (h : Mx w base g prims o vs m) (ho : m.opn = false) (s : ByteArray) (n0 : s.toList ≠ ([59] : List UInt8)) (n1 : s.toList ≠ ([101, 120, 105, 116] : List UInt8)) (n2 : s.toList ≠ ([91, 39, 93] : List UInt8)) (n3 : s.toList ≠ ([39] : List UInt8)) (ht : Xc s = false) (hm : YT s ≠ 0) (hW : ∀ W, Below w.heap.size w W → Calls Try.prog 38 #[.pointer (some ⟨g, 0, none⟩), .string s] W (XQ base g prims r W)) : Calls Try.prog 18 #[.pointer (some ⟨g, 0, none⟩), .string s] w (XQ base g prims r w) := by
 have b0 : (s.toList == ([59] : List UInt8)) = false := beq_eq_false_iff_ne.mpr n0
 have b1 : (s.toList == ([101, 120, 105, 116] : List UInt8)) = false := beq_eq_false_iff_ne.mpr n1
 have b2 : (s.toList == ([91, 39, 93] : List UInt8)) = false := beq_eq_false_iff_ne.mpr n2
 have b3 : (s.toList == ([39] : List UInt8)) = false := beq_eq_false_iff_ne.mpr n3
 have d3 : (YT s == 0) = false := beq_eq_false_iff_ne.mpr hm
 have d4 : (YT s != 0) = true := bne_iff_ne.mpr hm
 have k4 : w.cell? ⟨g, 4, none⟩ = some (.bool m.opn) := by
  obtain ⟨v0, A1, c1, b, A7, c7, A8, c8, A9, c9, A10, c10, A11, c11, rfl⟩ := h.cells
  exact h.st.cell 4 rfl
 rw [ho] at k4
 have hbb := h.st.base_le
 have hX := Aside0.mk h
 have hac := Aside0.mk (UQ hA ht)
 have hC := Aside0.mk hW
 clear h ho ht hm n0 n1 n2 n3 hW
 go_enter Try.func18, Try.ntmps18
 go_wp2_with fail
 refine (hac.out w).mono ?_
 rintro e w1 ⟨A, c, rfl, hB1⟩
 have k4' := (hB1.cell (p := ⟨g, 4, none⟩) hX.out.st.lt).trans k4
 clear k4
 have hB := Below.mono hB1 hbb
 go_wp2_with fail
 refine (Xn _ _).mono ?_
 rintro e w' ⟨rfl, rfl⟩
 go_wp2_with fail
 refine (hC.out _ hB1).mono ?_
 rcases r with m1 | c
 ·rintro e w4 ⟨hB4, rfl, o4, vs4, h4⟩
  go_wp2_with fail
  exact Z1c
 ·rintro e w4 ⟨hB4, rfl⟩
  go_wp2_with fail
  exact Z1v
theorem one_to {r : Res} (hA : Jh) (h : Mx w base g prims o vs m) (hW : ∀ W, Below w.heap.size w W → Calls Try.prog 37 #[.pointer (some ⟨g, 0, none⟩), .int .i64 195] W (XQ base g prims r W)) : Calls Try.prog 18 #[.pointer (some ⟨g, 0, none⟩), .string ⟨#[116, 111]⟩] w (XQ base g prims r w) := by
 have ht : Xc ⟨#[116, 111]⟩ = false := by kernel_rfl
 have hmk := Aside0.mk (show YT ⟨#[116, 111]⟩ = 0 by kernel_rfl)
 have hbb := h.st.base_le
 have hac := Aside0.mk (UQ hA ht)
 have hC := Aside0.mk hW
 clear h ht hW
 go_enter Try.func18, Try.ntmps18
 go_wp2_with fail
 refine (hac.out w).mono ?_
 rintro e w1 ⟨A, c, rfl, hB1⟩
 have hB := Below.mono hB1 hbb
 go_wp2_with fail
 refine (Xn _ _).mono ?_
 rintro e w' ⟨rfl, rfl⟩
 rw [hmk.out]
 go_wp2_with fail
 refine (hC.out _ hB1).mono ?_
 rcases r with m1 | c
 ·rintro e w4 ⟨hB4, rfl, o4, vs4, h4⟩
  go_wp2_with fail
  exact Z1c
 ·rintro e w4 ⟨hB4, rfl⟩
  go_wp2_with fail
  exact Z1v
theorem one_name (hA : Jh) (hL : LitC lit) (h : Mx w base g prims o vs m) (hb : m.out.length < 1099511627700) (s : ByteArray) (n0 : s.toList ≠ ([59] : List UInt8)) (n1 : s.toList ≠ ([101, 120, 105, 116] : List UInt8)) (n2 : s.toList ≠ ([91, 39, 93] : List UInt8)) (n3 : s.toList ≠ ([39] : List UInt8)) (n4 : s.toList ≠ ([116, 111] : List UInt8)) (ht : Xc s = false) (hm : YT s = 0) (hsz : s.size ≤ maxLen) {n : Int} (hf : UK prims m s = some n) : Calls Try.prog 18 #[.pointer (some ⟨g, 0, none⟩), .string s] w (XQ base g prims (.inl (m.add n)) w) := by
 have b0 : (s.toList == ([59] : List UInt8)) = false := beq_eq_false_iff_ne.mpr n0
 have b1 : (s.toList == ([101, 120, 105, 116] : List UInt8)) = false := beq_eq_false_iff_ne.mpr n1
 have b2 : (s.toList == ([91, 39, 93] : List UInt8)) = false := beq_eq_false_iff_ne.mpr n2
 have b3 : (s.toList == ([39] : List UInt8)) = false := beq_eq_false_iff_ne.mpr n3
 have b4 : (s.toList == ([116, 111] : List UInt8)) = false := beq_eq_false_iff_ne.mpr n4
 have hbb := h.st.base_le
 have hX := Aside0.mk h
 have hmk := Aside0.mk hm
 have hac := Aside0.mk (UQ hA ht)
 have hf' := Aside0.mk hf
 clear h hm ht n0 n1 n2 n3 n4 hf
 go_enter Try.func18, Try.ntmps18
 go_wp2_with fail
 refine (hac.out w).mono ?_
 rintro e w1 ⟨A, c, rfl, hB1⟩
 have h1 := hX.out.below hB1
 have hB := Below.mono hB1 hbb
 go_wp2_with fail
 refine (Xn _ _).mono ?_
 rintro e w' ⟨rfl, rfl⟩
 rw [hmk.out]
 obtain ⟨v0, A1, c1, b, A7, c7, A8, c8, A9, c9, A10, c10, A11, c11, rfl⟩ := h1.cells
 obtain ⟨n1, D, hn1, hag, b', hb', -, -, hown⟩ := (h1.st.row 2 _ _ rfl rfl : UX base (m.names ++ prims) w' _ (.map (some b)))
 cases hb'
 have hc2 := h1.st.cell 2 rfl
 have hlk : look (m.names ++ prims) s = some n := by rw [Ue]; exact hf'.out
 have ha := hag s
 rw [hlk] at ha
 have hat0 := Aside0.mk (ha.2 n rfl)
 have hhas : Maps.has D (.string s.data.toList) = true := ha.1
 clear ha hlk hag
 replace h1 := Aside0.mk h1
 go_wp2_with (at_lookup; refine wpList_lookup_own_ok_int _ rfl _ _ 52 rfl 9 3 .i64 (string_keyed Try.underlying9) Try.underlying52 Try.underlying3 (Ydz _) b n1 D rfl hown _ _ rfl (key9 hsz) ?_; intro c hat hwc)
 have hcn : c = n := by
  have := hat.symm.trans hat0.out
  simpa using this
 subst hcn
 refine (YW h1.out c 0 ⟨#[]⟩ Z0).mono ?_
 rintro e w4 ⟨rfl, hB4, o4, vs4, h4⟩
 go_wp2_with fail
 exact Z1c
theorem one_lit (hA : Jh) (hL : LitC lit) (h : Mx w base g prims o vs m) (hb : m.out.length < 1099511627700) (s : ByteArray) (n0 : s.toList ≠ ([59] : List UInt8)) (n1 : s.toList ≠ ([101, 120, 105, 116] : List UInt8)) (n2 : s.toList ≠ ([91, 39, 93] : List UInt8)) (n3 : s.toList ≠ ([39] : List UInt8)) (n4 : s.toList ≠ ([116, 111] : List UInt8)) (ht : Xc s = false) (hm : YT s = 0) (hsz : s.size ≤ maxLen) (hf : UK prims m s = none) {v : Int} (hl : lit s = some v) : Calls Try.prog 18 #[.pointer (some ⟨g, 0, none⟩), .string s] w (XQ base g prims (.inl (m.add 16 v)) w) := by
 have b0 : (s.toList == ([59] : List UInt8)) = false := beq_eq_false_iff_ne.mpr n0
 have b1 : (s.toList == ([101, 120, 105, 116] : List UInt8)) = false := beq_eq_false_iff_ne.mpr n1
 have b2 : (s.toList == ([91, 39, 93] : List UInt8)) = false := beq_eq_false_iff_ne.mpr n2
 have b3 : (s.toList == ([39] : List UInt8)) = false := beq_eq_false_iff_ne.mpr n3
 have b4 : (s.toList == ([116, 111] : List UInt8)) = false := beq_eq_false_iff_ne.mpr n4
 have hbb := h.st.base_le
 have hX := Aside0.mk h
 have hmk := Aside0.mk hm
 have hac := Aside0.mk (UQ hA ht)
 have hlc := Aside0.mk (hL s)
 rw [hl] at hlc
 have hf' := Aside0.mk hf
 clear h hm ht n0 n1 n2 n3 n4 hf hl
 go_enter Try.func18, Try.ntmps18
 go_wp2_with fail
 refine (hac.out w).mono ?_
 rintro e w1 ⟨A, c, rfl, hB1⟩
 have h1 := hX.out.below hB1
 have hB := Below.mono hB1 hbb
 go_wp2_with fail
 refine (Xn _ _).mono ?_
 rintro e w' ⟨rfl, rfl⟩
 rw [hmk.out]
 obtain ⟨v0, A1, c1, b, A7, c7, A8, c8, A9, c9, A10, c10, A11, c11, rfl⟩ := h1.cells
 obtain ⟨n1, D, hn1, hag, b', hb', -, -, hown⟩ := (h1.st.row 2 _ _ rfl rfl : UX base (m.names ++ prims) w' _ (.map (some b)))
 cases hb'
 have hc2 := h1.st.cell 2 rfl
 have hlk : look (m.names ++ prims) s = none := by rw [Ue]; exact hf'.out
 have ha := hag s
 rw [hlk] at ha
 have hhas : Maps.has D (.string s.data.toList) = false := ha.1
 clear ha hlk hag
 replace h1 := Aside0.mk h1
 go_wp2_with (at_lookup; refine wpList_lookup_own_ok_int _ rfl _ _ 52 rfl 9 3 .i64 (string_keyed Try.underlying9) Try.underlying52 Try.underlying3 (Ydz _) b n1 D rfl hown _ _ rfl (key9 hsz) ?_; intro c hat hwc)
 refine (hlc.out _ hsz).mono ?_
 rintro e w2 ⟨⟨z, rfl⟩, hB2⟩
 have hBB := hB.trans (Below.mono hB2 h1.out.st.base_le)
 have h2 := Aside0.mk (h1.out.below hB2)
 simp only [Option.getD_some, Option.isSome_some]
 go_wp2_with fail
 refine (YW h2.out 16 v ⟨#[]⟩ Z0).mono ?_
 rintro e w4 ⟨rfl, hB4, o4, vs4, h4⟩
 go_wp2_with fail
 exact bodyPost_ret (v := .int .i64 0) Zi rfl ⟨hBB.trans hB4, rfl, o4, vs4, h4⟩
theorem one_none (hA : Jh) (hL : LitC lit) (h : Mx w base g prims o vs m) (hb : m.out.length < 1099511627700) (s : ByteArray) (n0 : s.toList ≠ ([59] : List UInt8)) (n1 : s.toList ≠ ([101, 120, 105, 116] : List UInt8)) (n2 : s.toList ≠ ([91, 39, 93] : List UInt8)) (n3 : s.toList ≠ ([39] : List UInt8)) (n4 : s.toList ≠ ([116, 111] : List UInt8)) (ht : Xc s = false) (hm : YT s = 0) (hsz : s.size ≤ maxLen) (hf : UK prims m s = none) (hl : lit s = none) : Calls Try.prog 18 #[.pointer (some ⟨g, 0, none⟩), .string s] w (XQ base g prims (.inr 14) w) := by
 have b0 : (s.toList == ([59] : List UInt8)) = false := beq_eq_false_iff_ne.mpr n0
 have b1 : (s.toList == ([101, 120, 105, 116] : List UInt8)) = false := beq_eq_false_iff_ne.mpr n1
 have b2 : (s.toList == ([91, 39, 93] : List UInt8)) = false := beq_eq_false_iff_ne.mpr n2
 have b3 : (s.toList == ([39] : List UInt8)) = false := beq_eq_false_iff_ne.mpr n3
 have b4 : (s.toList == ([116, 111] : List UInt8)) = false := beq_eq_false_iff_ne.mpr n4
 have hbb := h.st.base_le
 have hX := Aside0.mk h
 have hmk := Aside0.mk hm
 have hac := Aside0.mk (UQ hA ht)
 have hlc := Aside0.mk (hL s)
 rw [hl] at hlc
 have hf' := Aside0.mk hf
 clear h hm ht n0 n1 n2 n3 n4 hf hl
 go_enter Try.func18, Try.ntmps18
 go_wp2_with fail
 refine (hac.out w).mono ?_
 rintro e w1 ⟨A, c, rfl, hB1⟩
 have h1 := hX.out.below hB1
 have hB := Below.mono hB1 hbb
 go_wp2_with fail
 refine (Xn _ _).mono ?_
 rintro e w' ⟨rfl, rfl⟩
 rw [hmk.out]
 obtain ⟨v0, A1, c1, b, A7, c7, A8, c8, A9, c9, A10, c10, A11, c11, rfl⟩ := h1.cells
 obtain ⟨n1, D, hn1, hag, b', hb', -, -, hown⟩ := (h1.st.row 2 _ _ rfl rfl : UX base (m.names ++ prims) w' _ (.map (some b)))
 cases hb'
 have hc2 := h1.st.cell 2 rfl
 have hlk : look (m.names ++ prims) s = none := by rw [Ue]; exact hf'.out
 have ha := hag s
 rw [hlk] at ha
 have hhas : Maps.has D (.string s.data.toList) = false := ha.1
 clear ha hlk hag
 replace h1 := Aside0.mk h1
 go_wp2_with (at_lookup; refine wpList_lookup_own_ok_int _ rfl _ _ 52 rfl 9 3 .i64 (string_keyed Try.underlying9) Try.underlying52 Try.underlying3 (Ydz _) b n1 D rfl hown _ _ rfl (key9 hsz) ?_; intro c hat hwc)
 refine (hlc.out _ hsz).mono ?_
 rintro e w2 ⟨⟨z, rfl⟩, hB2⟩
 have hBB := hB.trans (Below.mono hB2 h1.out.st.base_le)
 simp only [Option.getD_none, Option.isSome_none]
 go_wp2_with fail
 exact bodyPost_ret (v := .int .i64 14) Zi rfl ⟨hBB, rfl⟩
end
end Go.Proofs.Ytehmhgpogpbjiaa.Fcc
namespace Go.Proofs.Ytehmhgpogpbjiaa.Fcc
open Go.RowKit Go.Proofs.YtehmhgpogpbjiaaW.PrintWords Go.Proofs.YtehmhgpogpbjiaaW.PrintLast Go.Proofs.YtehmhgpogpbjiaaW.PrintMore Go.Proofs.Ytehmhgpogpbjiaa.PFccTokens
structure Ok (prims : List (ByteArray × Int)) (m : Mk) : Prop where
 wt : wt m ≤ 1000000000000
 nl : (m.names ++ prims).length < 1000000000000
 inp : ∀ t ∈ m.inp, t.f1.size ≤ maxLen
 next : 0 ≤ m.next ∧ m.next ≤ 4096
 name : m.name.size ≤ maxLen
 code : 0 ≤ m.code ∧ m.code ≤ 4095
 codes : ∀ p ∈ m.names ++ prims, 0 ≤ p.2 ∧ p.2 ≤ 4095
section
variable {w : World} {base g : Nat} {prims : List (ByteArray × Int)} {o : Nat → Nat} {vs : List Value} {m : Mk} {named : ByteArray → Bool} {lit : ByteArray → Option Int}
theorem Ok.out (hk : Ok prims m) : m.out.length ≤ 1000000000000 := (Yad hk.wt).1
theorem Ok.find (hk : Ok prims m) {s : ByteArray} {n : Int} (h : UK prims m s = some n) : 0 ≤ n ∧ n ≤ 4095 := by
 rw [← Ue] at h
 unfold look at h
 obtain ⟨p, hp, rfl⟩ := Option.map_eq_some_iff.1 h
 exact hk.codes p (List.mem_of_find?_eq_some hp)
theorem Yay (code : Int) (h : Mx w base g prims o vs m) (hk : Ok prims m) : Calls Try.prog 37 #[.pointer (some ⟨g, 0, none⟩), .int .i64 code] w (XQ base g prims (Vo prims m code) w) := by
 have ho := hk.out
 cases hm : m.inp with
 | nil =>
   have hr : Vo prims m code = .inr 15 := by unfold Vo Vl; rw [hm]
   rw [hr]
   exact Ycc code h (.inl hm)
 | cons t r =>
   have hz := hk.inp t Z1J
   by_cases ht : t.f0 = 1
   ·have hw : Vl m = .inl (t.f1, { m with inp := r }) := by unfold Vl; rw [hm]; simp only [ht, if_true]
    cases hf : UK prims m t.f1 with
    | none =>
      have hr : Vo prims m code = .inr 14 := by
       unfold Vo
       rw [hw]
       show (match UK prims m t.f1 with | none => _ | some n => _) = _
       rw [hf]
      rw [hr]
      exact YdN code h hm ht hf hz
    | some n =>
      have hr : Vo prims m code = .inl ({ m with inp := r }.add code n) := by
       unfold Vo
       rw [hw]
       show (match UK prims m t.f1 with | none => _ | some n => _) = _
       rw [hf]
      rw [hr]
      have := hk.find hf
      exact YcK code h Z0 hm ht hf Z0 hz
   ·have hr : Vo prims m code = .inr 15 := by unfold Vo Vl; rw [hm]; simp only [ht, if_false]
    rw [hr]
    exact Ycc code h (.inr ⟨t, r, hm, ht⟩)
theorem Yd8 (hN : UR named) (h : Mx w base g prims o vs m) (hk : Ok prims m) (s : ByteArray) : Calls Try.prog 38 #[.pointer (some ⟨g, 0, none⟩), .string s] w (XQ base g prims (XJ named m s) w) := by
 have ho := hk.out
 by_cases h1 : s.toList = ([105, 110, 115, 116, 97, 110, 99, 101] : List UInt8)
 ·have hr : XJ named m s = (match (match Vl m with
   | .inl (s, m1) => if s.toList = ([118, 97, 108, 117, 101] : List UInt8) then .inl (m1.add 192) else .inr 15
   | .inr _ => .inr 15 : Res) with
  | .inr e => .inr e
  | .inl m1 => XN named s m1) := by unfold XJ; rw [if_pos h1]; rfl
  rw [hr]
  obtain rfl := Xe h1
  exact def_inst hN h Z0 hk.nl hk.inp hk.next.1
 ·have hr : XJ named m s = XN named s m := by unfold XJ; rw [if_neg h1]; rfl
  rw [hr]
  by_cases h2 : s.toList = ([58] : List UInt8)
  ·obtain rfl := Xe h2
   exact def_colon hN h Z0 hk.nl hk.inp hk.next.1
  ·exact def_other hN h s h2 h1 Z0 hk.nl hk.inp hk.next.1
theorem Ycw {s : ByteArray} (h : Xc s = true) : YT s = 0 ∧ s.toList ≠ ([39] : List UInt8) ∧ s.toList ≠ ([59] : List UInt8) ∧ s.toList ≠ ([101, 120, 105, 116] : List UInt8) ∧ s.toList ≠ ([91, 39, 93] : List UInt8) := by
 unfold Xc at h
 unfold YT
 generalize s.toList = l at h ⊢
 revert h
 simp only [decide_eq_true_eq, List.mem_cons, List.not_mem_nil, or_false]
 intro h
 rcases h with rfl | rfl | rfl | rfl | rfl | rfl | rfl | rfl | rfl | rfl | rfl | rfl | rfl | rfl | rfl | rfl | rfl <;> exact ⟨rfl, Z1, Z1, Z1, Z1⟩
theorem Ya4 (h : Mx w base g prims o vs m) (hk : Ok prims m) (s : ByteArray) (hi : VH s = true) : Calls Try.prog 36 #[.pointer (some ⟨g, 0, none⟩), .string s] w (XQ base g prims (VN prims m s) w) := by
 have ho := hk.out
 unfold VN
 by_cases h0 : s.toList = ([59] : List UInt8)
 ·rw [if_pos h0]
  obtain rfl := Xe h0
  exact YdI h hk.wt hk.name hk.nl ⟨(by have := hk.code; omega), (by have := hk.code; omega)⟩
 ·rw [if_neg h0]
  by_cases h1 : s.toList = ([101, 120, 105, 116] : List UInt8)
  ·rw [if_pos h1]
   obtain rfl := Xe h1
   exact Yd2 h Z0
  ·rw [if_neg h1]
   by_cases h2 : s.toList = ([91, 39, 93] : List UInt8)
   ·rw [if_pos h2]
    obtain rfl := Xe h2
    exact YdC (Yay 17 h hk)
   ·rw [if_neg h2]
    refine Ycx h hk.wt s ?_
    unfold VH at hi
    simpa [h0, h1, h2] using hi
theorem one_any (hA : Jh) (hL : LitC lit) (hN : UR named) (h : Mx w base g prims o vs m) (hk : Ok prims m) (s : ByteArray) (hsz : s.size ≤ maxLen) : Calls Try.prog 18 #[.pointer (some ⟨g, 0, none⟩), .string s] w (XQ base g prims (oneP named prims lit m s) w) := by
 have ho := hk.out
 have hW := fun hi => Ya4 h hk s hi
 unfold oneP
 by_cases h0 : s.toList = ([59] : List UInt8)
 ·have hi : VH s = true := by unfold VH; simp [h0]
  have hx : Vb s = false := by obtain rfl := Xe h0; kernel_rfl
  have hW := hW hi
  rw [hi, hx]
  obtain rfl := Xe h0
  cases hop : m.opn with
  | false => exact YbB h hop
  | true => exact YbC h hop hW
 by_cases h1 : s.toList = ([101, 120, 105, 116] : List UInt8)
 ·have hi : VH s = true := by unfold VH; simp [h1]
  have hx : Vb s = false := by obtain rfl := Xe h1; kernel_rfl
  have hW := hW hi
  rw [hi, hx]
  obtain rfl := Xe h1
  cases hop : m.opn with
  | false => exact YbD h hop
  | true => exact YbE h hop hW
 by_cases h2 : s.toList = ([91, 39, 93] : List UInt8)
 ·have hi : VH s = true := by unfold VH; simp [h2]
  have hx : Vb s = false := by obtain rfl := Xe h2; kernel_rfl
  have hW := hW hi
  rw [hi, hx]
  obtain rfl := Xe h2
  cases hop : m.opn with
  | false => exact Ybz h hop
  | true => exact YbA h hop hW
 cases ht : Xc s with
 | true =>
   have hi : VH s = true := by unfold VH; rw [ht]; simp
   obtain ⟨hm, h3, -⟩ := Ycw ht
   have hx : Vb s = false := by unfold Vb; simp [h3, hm]
   rw [hi, hx]
   cases hop : m.opn with
   | false => exact YaW hA h hop s h0 h1 h2 h3 ht hm
   | true => exact YaX hA h hop s h0 h1 h2 h3 ht hm (fun W hB => (Ya4 (h.below hB) hk s hi).mono fun e w' hh => hh)
 | false =>
   have hi : VH s = false := by unfold VH; rw [ht]; simp [h0, h1, h2]
   by_cases h3 : s.toList = ([39] : List UInt8)
   ·have hx : Vb s = true := by unfold Vb; simp [h3]
    rw [hi, hx]
    obtain rfl := Xe h3
    cases hop : m.opn with
    | true => exact YaZ hA h hop
    | false =>
      simp only [h3, if_true, Bool.false_and, Bool.true_and, Bool.or_self, if_false, Bool.false_eq_true]
      exact YaY hA h hop (fun W hB => Yay 17 (h.below hB) hk)
   by_cases hm : YT s = 0
   ·have hx : Vb s = false := by unfold Vb; simp [h3, hm]
    rw [hi, hx]
    simp only [h3, if_false, Bool.false_and, Bool.or_self, Bool.false_eq_true]
    by_cases h4 : s.toList = ([116, 111] : List UInt8)
    ·rw [if_pos h4]
     obtain rfl := Xe h4
     exact one_to hA h (fun W hB => Yay 195 (h.below hB) hk)
    ·rw [if_neg h4]
     cases hf : UK prims m s with
     | some n => exact one_name hA hL h Z0 s h0 h1 h2 h3 h4 ht hm hsz hf
     | none =>
       cases hl : lit s with
       | some v => exact one_lit hA hL h Z0 s h0 h1 h2 h3 h4 ht hm hsz hf hl
       | none => exact one_none hA hL h Z0 s h0 h1 h2 h3 h4 ht hm hsz hf hl
   ·have hx : Vb s = true := by unfold Vb; simp [hm]
    rw [hi, hx]
    cases hop : m.opn with
    | true => exact Yb9 hA h hop s h0 h1 h2 h3 ht hm
    | false =>
      simp only [h3, if_true, Bool.false_and, Bool.true_and, Bool.or_self, if_false, Bool.false_eq_true]
      exact Yb8 hA h hop s h0 h1 h2 h3 ht hm (fun W hB => Yd8 hN (h.below hB) hk s)
end
end Go.Proofs.Ytehmhgpogpbjiaa.Fcc
