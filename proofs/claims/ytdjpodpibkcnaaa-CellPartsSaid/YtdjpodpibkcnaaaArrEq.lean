/- Equality of arrays of two or four cells: the same cells are equal. -/
import Derived.Laws.StructEq
import Derived.WalkKit
import Derived.ChangeKeysEq
import Derived.Test.YtdjpodpibkcnaaaProg
namespace Go.Proofs.Ytdjpodpibkcnaaa.ArrEq
open Go
theorem eqInt {P : Program} {e : TypeId} (he : P.underlying e = some (.int .u32)) (d : Nat) (x y : Int) (w : World) : (Op.equalIn (d + 1) e (.int .u32 x) (.int .u32 y)).run P w = .ok (x == y) w := by
  simp [Op.equalIn, run_underlying he]
theorem eq2 {P : Program} {t e : TypeId} {i : TypeInfo} (ht : P.underlying t = some (.array 2 e)) (he : P.underlying e = some (.int .u32)) (hp : P.plainKey e = true) (hi : P.info? e = some i) (hC : P.cellsOf e = 1) (d : Nat) (x y : Int) (w : World) :
    (Op.equalIn (d + 2) t (.agg #[.int .u32 x, .int .u32 y]) (.agg #[.int .u32 x, .int .u32 y])).run P w = .ok true w := by
  rw [run_equalIn_array w (d + 1) _ _ ht hi, hC, show List.range 2 = [0, 1] from rfl]
  simp only [Op.eqItems, Sem.run_bind]
  rw [run_part_plain w hp (off := 0 * 1) (v := .int .u32 x) rfl]
  simp only [Result.andThen_ok]
  rw [run_part_plain w hp (off := 0 * 1) (v := .int .u32 x) rfl]
  simp only [Result.andThen_ok, eqInt he]
  rw [if_neg (by simp)]
  simp only [Sem.run_bind]
  rw [run_part_plain w hp (off := 1 * 1) (v := .int .u32 y) rfl]
  simp only [Result.andThen_ok]
  rw [run_part_plain w hp (off := 1 * 1) (v := .int .u32 y) rfl]
  simp only [Result.andThen_ok, eqInt he]
  rw [if_neg (by simp)]
  simp
theorem bin2 {P : Program} {t e : TypeId} {i : TypeInfo} (ht : P.underlying t = some (.array 2 e)) (he : P.underlying e = some (.int .u32)) (hp : P.plainKey e = true) (hi : P.info? e = some i) (hC : P.cellsOf e = 1) (x y : Int) (w : World) :
    (binOp .eql t (.agg #[.int .u32 x, .int .u32 y]) (.agg #[.int .u32 x, .int .u32 y])).run P w = .ok (.bool true) w := by
  have h := eq2 ht he hp hi hC 9998 x y w
  simp only [binOp]
  simp [Op.equal, Op.maxDepth, h]
theorem eq4 {P : Program} {t e : TypeId} {i : TypeInfo} (ht : P.underlying t = some (.array 4 e)) (he : P.underlying e = some (.int .u32)) (hp : P.plainKey e = true) (hi : P.info? e = some i) (hC : P.cellsOf e = 1) (d : Nat) (x y z u : Int) (w : World) :
    (Op.equalIn (d + 2) t (.agg #[.int .u32 x, .int .u32 y, .int .u32 z, .int .u32 u]) (.agg #[.int .u32 x, .int .u32 y, .int .u32 z, .int .u32 u])).run P w = .ok true w := by
  rw [run_equalIn_array w (d + 1) _ _ ht hi, hC, show List.range 4 = [0, 1, 2, 3] from rfl]
  simp only [Op.eqItems, Sem.run_bind]
  rw [run_part_plain w hp (off := 0 * 1) (v := .int .u32 x) rfl]
  simp only [Result.andThen_ok]
  rw [run_part_plain w hp (off := 0 * 1) (v := .int .u32 x) rfl]
  simp only [Result.andThen_ok, eqInt he]
  rw [if_neg (by simp)]
  simp only [Sem.run_bind]
  rw [run_part_plain w hp (off := 1 * 1) (v := .int .u32 y) rfl]
  simp only [Result.andThen_ok]
  rw [run_part_plain w hp (off := 1 * 1) (v := .int .u32 y) rfl]
  simp only [Result.andThen_ok, eqInt he]
  rw [if_neg (by simp)]
  simp only [Sem.run_bind]
  rw [run_part_plain w hp (off := 2 * 1) (v := .int .u32 z) rfl]
  simp only [Result.andThen_ok]
  rw [run_part_plain w hp (off := 2 * 1) (v := .int .u32 z) rfl]
  simp only [Result.andThen_ok, eqInt he]
  rw [if_neg (by simp)]
  simp only [Sem.run_bind]
  rw [run_part_plain w hp (off := 3 * 1) (v := .int .u32 u) rfl]
  simp only [Result.andThen_ok]
  rw [run_part_plain w hp (off := 3 * 1) (v := .int .u32 u) rfl]
  simp only [Result.andThen_ok, eqInt he]
  rw [if_neg (by simp)]
  simp
theorem bin4 {P : Program} {t e : TypeId} {i : TypeInfo} (ht : P.underlying t = some (.array 4 e)) (he : P.underlying e = some (.int .u32)) (hp : P.plainKey e = true) (hi : P.info? e = some i) (hC : P.cellsOf e = 1) (x y z u : Int) (w : World) :
    (binOp .neq t (.agg #[.int .u32 x, .int .u32 y, .int .u32 z, .int .u32 u]) (.agg #[.int .u32 x, .int .u32 y, .int .u32 z, .int .u32 u])).run P w = .ok (.bool false) w := by
  have h := eq4 ht he hp hi hC 9998 x y z u w
  simp only [binOp]
  simp [Op.equal, Op.maxDepth, h]
theorem info32 : (Try.prog.info? 22).isSome = true := by kernel_rfl
theorem dbl_eq (x y : Int) (w : World) : (binOp .eql 36 (.agg #[.int .u32 x, .int .u32 y]) (.agg #[.int .u32 x, .int .u32 y])).run Try.prog w = .ok (.bool true) w := by
  obtain ⟨i, hi⟩ := Option.isSome_iff_exists.1 info32
  exact bin2 Try.underlying36 Try.underlying22 (by kernel_rfl) hi (by kernel_rfl) x y w
theorem quad_ne (x y z u : Int) (w : World) : (binOp .neq 32 (.agg #[.int .u32 x, .int .u32 y, .int .u32 z, .int .u32 u]) (.agg #[.int .u32 x, .int .u32 y, .int .u32 z, .int .u32 u])).run Try.prog w = .ok (.bool false) w := by
  obtain ⟨i, hi⟩ := Option.isSome_iff_exists.1 info32
  exact bin4 Try.underlying32 Try.underlying22 (by kernel_rfl) hi (by kernel_rfl) x y z u w
end Go.Proofs.Ytdjpodpibkcnaaa.ArrEq
