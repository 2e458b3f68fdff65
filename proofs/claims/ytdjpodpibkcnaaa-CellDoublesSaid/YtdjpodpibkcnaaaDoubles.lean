/- Doubles: the program's Double and the reference's, walked: what they answer, for each operation. -/
import Derived.Test.YtdjpodpibkcnaaaQCellDoublesx1
import Derived.Test.YtdjpodpibkcnaaaM
namespace Go.Proofs.Ytdjpodpibkcnaaa.Doubles
open Go.RowKit Go.Proofs.Ytdjpodpibkcnaaa.QCellDoubles Go.Proofs.YtdjpodpibkcnaaaW.PrintWords Go.Proofs.YtdjpodpibkcnaaaW.PrintLast Go.Proofs.YtdjpodpibkcnaaaW.PrintMore
set_option linter.unusedVariables false
set_option linter.unusedSimpArgs false
theorem below_far {B : Nat} {w W : World} (h : Below B w W) {p : Addr} (hb : B ≤ p.block) (v : Value) : Below B w (W.setCell p v) := h.setCell hb v
set_option maxHeartbeats 1000000 in
theorem cell_add (a0 a1 b0 b1 c0 k c1 k1 : Int) (w : World) (h0 : bits_Add32.f a0 b0 0 = some (c0, k)) (h1 : bits_Add32.f a1 b1 k = some (c1, k1)) :
    Calls Try.prog 19 #[.int .i64 216, .agg #[.int .u32 a0, .int .u32 a1], .agg #[.int .u32 b0, .int .u32 b1]] w fun e w' => e = .returned (.tuple #[.agg #[.int .u32 c0, .int .u32 c1], .int .i64 0]) ∧ Below w.heap.size w w' := by
  have H0 := Aside0.mk h0
  have H1 := Aside0.mk h1
  clear h0 h1
  go_enter Try.func19, Try.ntmps19
  go_wp2_with fail
  refine (bits_Add32.calls a0 b0 0 c0 k _ H0.out).mono ?_
  rintro e2 w2 ⟨rfl, ⟨n2, rfl⟩⟩
  go_wp2_with fail
  refine (bits_Add32.calls a1 b1 k c1 k1 _ H1.out).mono ?_
  rintro e3 w3 ⟨rfl, ⟨n3, rfl⟩⟩
  go_wp2_with fail
  refine bodyPost_ret (v := .tuple #[.agg #[.int .u32 c0, .int .u32 c1], .int .i64 0]) (by simp [results, Try.results19, go_sem]) rfl ⟨rfl, ?_⟩
  repeat' (first | exact Below.refl _ _ | (refine below_far ?_ (by simp; try omega) _) | apply pw_below_drewN | (refine Below.alloc ?_ (by simp; try omega) _))
set_option maxHeartbeats 1000000 in
theorem cell_sub (a0 a1 b0 b1 c0 k c1 k1 : Int) (w : World) (h0 : bits_Sub32.f a0 b0 0 = some (c0, k)) (h1 : bits_Sub32.f a1 b1 k = some (c1, k1)) :
    Calls Try.prog 19 #[.int .i64 217, .agg #[.int .u32 a0, .int .u32 a1], .agg #[.int .u32 b0, .int .u32 b1]] w fun e w' => e = .returned (.tuple #[.agg #[.int .u32 c0, .int .u32 c1], .int .i64 0]) ∧ Below w.heap.size w w' := by
  have H0 := Aside0.mk h0
  have H1 := Aside0.mk h1
  clear h0 h1
  go_enter Try.func19, Try.ntmps19
  go_wp2_with fail
  refine (bits_Sub32.calls a0 b0 0 c0 k _ H0.out).mono ?_
  rintro e2 w2 ⟨rfl, ⟨n2, rfl⟩⟩
  go_wp2_with fail
  refine (bits_Sub32.calls a1 b1 k c1 k1 _ H1.out).mono ?_
  rintro e3 w3 ⟨rfl, ⟨n3, rfl⟩⟩
  go_wp2_with fail
  refine bodyPost_ret (v := .tuple #[.agg #[.int .u32 c0, .int .u32 c1], .int .i64 0]) (by simp [results, Try.results19, go_sem]) rfl ⟨rfl, ?_⟩
  repeat' (first | exact Below.refl _ _ | (refine below_far ?_ (by simp; try omega) _) | apply pw_below_drewN | (refine Below.alloc ?_ (by simp; try omega) _))
set_option maxHeartbeats 1000000 in
theorem cell_no (op a0 a1 b0 b1 : Int) (w : World) (h0 : (op == 216) = false) (h1 : (op == 217) = false) :
    Calls Try.prog 19 #[.int .i64 op, .agg #[.int .u32 a0, .int .u32 a1], .agg #[.int .u32 b0, .int .u32 b1]] w fun e w' => e = .returned (.tuple #[.agg #[.int .u32 0, .int .u32 0], .int .i64 2]) ∧ Below w.heap.size w w' := by
  go_enter Try.func19, Try.ntmps19
  go_wp2_with fail
  refine bodyPost_ret (v := .tuple #[.agg #[.int .u32 0, .int .u32 0], .int .i64 2]) (by simp [results, Try.results19, go_sem]) rfl ⟨rfl, ?_⟩
  repeat' (first | exact Below.refl _ _ | (refine below_far ?_ (by simp; try omega) _) | apply pw_below_drewN | (refine Below.alloc ?_ (by simp; try omega) _))
set_option maxHeartbeats 1000000 in
theorem ref_add (a0 a1 b0 b1 : Int) (w : World) :
    ∃ c0 c1 : Int, c0 = Int.tmod (IntKind.u64.wrap ((IntKind.u64.wrap (IntKind.u64.wrap (IntKind.u64.wrap a1 * 4294967296) + IntKind.u64.wrap a0)) + (IntKind.u64.wrap (IntKind.u64.wrap (IntKind.u64.wrap b1 * 4294967296) + IntKind.u64.wrap b0)))) 4294967296 % 4294967296 ∧ c1 = IntKind.u64.wrap (Int.tdiv (IntKind.u64.wrap ((IntKind.u64.wrap (IntKind.u64.wrap (IntKind.u64.wrap a1 * 4294967296) + IntKind.u64.wrap a0)) + (IntKind.u64.wrap (IntKind.u64.wrap (IntKind.u64.wrap b1 * 4294967296) + IntKind.u64.wrap b0)))) 4294967296) % 4294967296 ∧ (Calls Try.prog 20 #[.int .i64 216, .agg #[.int .u32 a0, .int .u32 a1], .agg #[.int .u32 b0, .int .u32 b1]] w fun e w' => e = .returned (.tuple #[.agg #[.int .u32 c0, .int .u32 c1], .int .i64 0]) ∧ Below w.heap.size w w') := by
  refine ⟨_, _, rfl, rfl, ?_⟩
  go_enter Try.func20, Try.ntmps20
  go_wp2_with fail
  go_quiet (fail)
  go_wp2_with fail
  refine bodyPost_ret (v := .tuple #[.agg #[.int .u32 _, .int .u32 _], .int .i64 0]) (by simp [results, Try.results20, go_sem]) rfl ⟨rfl, ?_⟩
  repeat' (first | exact Below.refl _ _ | (refine below_far ?_ (by simp; try omega) _) | apply pw_below_drewN | (refine Below.alloc ?_ (by simp; try omega) _))
set_option maxHeartbeats 1000000 in
theorem ref_sub (a0 a1 b0 b1 : Int) (w : World) :
    ∃ c0 c1 : Int, c0 = Int.tmod (IntKind.u64.wrap ((IntKind.u64.wrap (IntKind.u64.wrap (IntKind.u64.wrap a1 * 4294967296) + IntKind.u64.wrap a0)) - (IntKind.u64.wrap (IntKind.u64.wrap (IntKind.u64.wrap b1 * 4294967296) + IntKind.u64.wrap b0)))) 4294967296 % 4294967296 ∧ c1 = IntKind.u64.wrap (Int.tdiv (IntKind.u64.wrap ((IntKind.u64.wrap (IntKind.u64.wrap (IntKind.u64.wrap a1 * 4294967296) + IntKind.u64.wrap a0)) - (IntKind.u64.wrap (IntKind.u64.wrap (IntKind.u64.wrap b1 * 4294967296) + IntKind.u64.wrap b0)))) 4294967296) % 4294967296 ∧ (Calls Try.prog 20 #[.int .i64 217, .agg #[.int .u32 a0, .int .u32 a1], .agg #[.int .u32 b0, .int .u32 b1]] w fun e w' => e = .returned (.tuple #[.agg #[.int .u32 c0, .int .u32 c1], .int .i64 0]) ∧ Below w.heap.size w w') := by
  refine ⟨_, _, rfl, rfl, ?_⟩
  go_enter Try.func20, Try.ntmps20
  go_wp2_with fail
  go_quiet (fail)
  go_wp2_with fail
  refine bodyPost_ret (v := .tuple #[.agg #[.int .u32 _, .int .u32 _], .int .i64 0]) (by simp [results, Try.results20, go_sem]) rfl ⟨rfl, ?_⟩
  repeat' (first | exact Below.refl _ _ | (refine below_far ?_ (by simp; try omega) _) | apply pw_below_drewN | (refine Below.alloc ?_ (by simp; try omega) _))
set_option maxHeartbeats 1000000 in
theorem ref_no (op a0 a1 b0 b1 : Int) (w : World) (h0 : (op == 216) = false) (h1 : (op == 217) = false) :
    Calls Try.prog 20 #[.int .i64 op, .agg #[.int .u32 a0, .int .u32 a1], .agg #[.int .u32 b0, .int .u32 b1]] w fun e w' => e = .returned (.tuple #[.agg #[.int .u32 0, .int .u32 0], .int .i64 2]) ∧ Below w.heap.size w w' := by
  go_enter Try.func20, Try.ntmps20
  go_wp2_with fail
  go_quiet (fail)
  go_wp2_with fail
  refine bodyPost_ret (v := .tuple #[.agg #[.int .u32 0, .int .u32 0], .int .i64 2]) (by simp [results, Try.results20, go_sem]) rfl ⟨rfl, ?_⟩
  repeat' (first | exact Below.refl _ _ | (refine below_far ?_ (by simp; try omega) _) | apply pw_below_drewN | (refine Below.alloc ?_ (by simp; try omega) _))
end Go.Proofs.Ytdjpodpibkcnaaa.Doubles
