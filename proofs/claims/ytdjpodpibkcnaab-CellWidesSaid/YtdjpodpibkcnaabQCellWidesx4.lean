-- written by a program of this session (xprint.py) out of the translation
import Derived.Test.YtdjpodpibkcnaabQCellWidesx0
namespace Go.Proofs.Ytdjpodpibkcnaab.QCellWides
open Go.RowKit Go.Proofs.YtdjpodpibkcnaabW.PrintWords Go.Proofs.YtdjpodpibkcnaabW.PrintLast Go.Proofs.YtdjpodpibkcnaabW.PrintMore
attribute [local go_sem] max2_int min2_int max_two min_two max_three min_three max_four min_four   -- for this text's walks alone
set_option linter.unusedVariables false
set_option linter.unusedSimpArgs false

/-! ### bits_Mul32: function 34 -/
def bits_Mul32.f (a0 : Int) (a1 : Int) : Option (Int × Int) := some (((IntKind.u64.wrap ((IntKind.u64.wrap (a0)) * (IntKind.u64.wrap (a1)))) / 4294967296) % 4294967296, (IntKind.u64.wrap ((IntKind.u64.wrap (a0)) * (IntKind.u64.wrap (a1)))) % 4294967296)
set_option maxHeartbeats 8000000 in
set_option maxRecDepth 100000 in
theorem bits_Mul32.calls (a0 : Int) (a1 : Int) (r1 : Int) (r2 : Int) (w : World) (h : bits_Mul32.f a0 a1 = some (r1, r2)) :
    Calls Try.prog 34 #[.int .u32 a0, .int .u32 a1] w fun e w' => e = .returned (.tuple #[.int .u32 r1, .int .u32 r2]) ∧ Drawn0 w w' := by
  have H : (some (((IntKind.u64.wrap ((IntKind.u64.wrap (a0)) * (IntKind.u64.wrap (a1)))) / 4294967296) % 4294967296, (IntKind.u64.wrap ((IntKind.u64.wrap (a0)) * (IntKind.u64.wrap (a1)))) % 4294967296)) = some (r1, r2) := h
  clear h
  simp only [Option.some.injEq, Prod.mk.injEq] at H
  obtain ⟨rfl, rfl⟩ := H
  go_enter Try.func34, Try.ntmps34
  go_wp2
  go_ret2
  exact ⟨by first | rfl | (simp; done) | (simp [*]; done) | (simp <;> omega) | (simp [*] <;> omega), by repeat (first | exact Drawn0.refl _ | apply Drawn0.step)⟩

/-! ### cell_Times: function 12 -/
def cell_Times.f (a0 : Int) (a1 : Int) : Option (Int × Int) := (bits_Mul32.f a0 a1).bind fun bt127 => (some (bt127.2, bt127.1))
set_option maxHeartbeats 8000000 in
set_option maxRecDepth 100000 in
theorem cell_Times.calls (a0 : Int) (a1 : Int) (r1 : Int) (r2 : Int) (w : World) (h : cell_Times.f a0 a1 = some (r1, r2)) :
    Calls Try.prog 12 #[.int .u32 a0, .int .u32 a1] w fun e w' => e = .returned (.tuple #[.int .u32 r1, .int .u32 r2]) ∧ Drawn0 w w' := by
  have H : ((bits_Mul32.f a0 a1).bind fun bt127 => (some (bt127.2, bt127.1))) = some (r1, r2) := h
  clear h
  replace H := Option.bind_eq_some_iff.mp H
  obtain ⟨⟨t127, t128⟩, A30, H⟩ := H
  replace H : (some (t128, t127)) = some (r1, r2) := H
  have A3 := Aside0.mk A30
  clear A30
  simp only [Option.some.injEq, Prod.mk.injEq] at H
  obtain ⟨rfl, rfl⟩ := H
  go_enter Try.func12, Try.ntmps12
  go_wp2_with (first | ((with_reducible refine gate_callee (f := 34) rfl ?_); refine goesL_ (some 11) rfl rfl Try.func34 (by kernel_rfl) rfl #[.int .u32 a0, .int .u32 a1] rfl (by (try simp only [List.map_toArray, List.map_cons, List.map_nil]); first | done | rfl | (simp only [List.length_drop, List.length_take]; rfl)) ?_; (with_reducible refine (bits_Mul32.calls a0 a1 t127 t128 _ A3.out).mono ?_); rintro e w' ⟨rfl, ⟨nd, rfl⟩⟩; refine ⟨_, rfl, ?_⟩))
  go_ret2
  exact ⟨by first | rfl | (simp; done) | (simp [*]; done) | (simp <;> omega) | (simp [*] <;> omega), by repeat (first | exact Drawn0.refl _ | apply Drawn0.step)⟩

/-! ### tinderref01_Times: function 13 -/
def tinderref01_Times.f (a0 : Int) (a1 : Int) : Option (Int × Int) := some ((Int.tmod (IntKind.u64.wrap ((IntKind.u64.wrap (a0)) * (IntKind.u64.wrap (a1)))) 4294967296) % 4294967296, (IntKind.u64.wrap (Int.tdiv (IntKind.u64.wrap ((IntKind.u64.wrap (a0)) * (IntKind.u64.wrap (a1)))) 4294967296)) % 4294967296)
set_option maxHeartbeats 8000000 in
set_option maxRecDepth 100000 in
theorem tinderref01_Times.calls (a0 : Int) (a1 : Int) (r1 : Int) (r2 : Int) (w : World) (h : tinderref01_Times.f a0 a1 = some (r1, r2)) :
    Calls Try.prog 13 #[.int .u32 a0, .int .u32 a1] w fun e w' => e = .returned (.tuple #[.int .u32 r1, .int .u32 r2]) ∧ Drawn0 w w' := by
  have H : (some ((Int.tmod (IntKind.u64.wrap ((IntKind.u64.wrap (a0)) * (IntKind.u64.wrap (a1)))) 4294967296) % 4294967296, (IntKind.u64.wrap (Int.tdiv (IntKind.u64.wrap ((IntKind.u64.wrap (a0)) * (IntKind.u64.wrap (a1)))) 4294967296)) % 4294967296)) = some (r1, r2) := h
  clear h
  simp only [Option.some.injEq, Prod.mk.injEq] at H
  obtain ⟨rfl, rfl⟩ := H
  go_enter Try.func13, Try.ntmps13
  go_wp2
  go_ret2
  exact ⟨by first | rfl | (simp; done) | (simp [*]; done) | (simp <;> omega) | (simp [*] <;> omega), by repeat (first | exact Drawn0.refl _ | apply Drawn0.step)⟩

-- NOT PRINTED: function 3 (tinderlaw01_CellWides)

end Go.Proofs.Ytdjpodpibkcnaab.QCellWides
