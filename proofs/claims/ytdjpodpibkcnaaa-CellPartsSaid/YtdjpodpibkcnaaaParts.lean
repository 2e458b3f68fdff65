/- Parts: the program's Join and Split and the reference's, walked: what they answer. -/
import Derived.Test.YtdjpodpibkcnaaaQCellDoublesx1
import Derived.Test.YtdjpodpibkcnaaaM
namespace Go.Proofs.Ytdjpodpibkcnaaa.Parts
open Go.RowKit Go.Proofs.YtdjpodpibkcnaaaW.PrintWords Go.Proofs.YtdjpodpibkcnaaaW.PrintLast Go.Proofs.YtdjpodpibkcnaaaW.PrintMore
set_option linter.unusedVariables false
set_option linter.unusedSimpArgs false
theorem below_far {B : Nat} {w W : World} (h : Below B w W) {p : Addr} (hb : B ≤ p.block) (v : Value) : Below B w (W.setCell p v) := h.setCell hb v
open Go.Proofs.Ytdjpodpibkcnaaa.M
theorem and255 (A : Nat) (h : A < 4294967296) : bits .and .u32 (A : Int) 255 = ((A % 256 : Nat) : Int) := by
  have := u32_and_nat A 255 h (by decide)
  rw [show ((255 : Nat) : Int) = 255 by rfl] at this
  rw [this, show (255 : Nat) = 2 ^ 8 - 1 by rfl, Nat.and_two_pow_sub_one_eq_mod]
theorem or_add (x y i : Nat) (hx : x < 2 ^ i) : x ||| (y * 2 ^ i) = x + y * 2 ^ i := by
  rw [Nat.or_comm, ← Nat.shiftLeft_eq, ← Nat.shiftLeft_add_eq_or_of_lt hx, Nat.add_comm]
def jn (a b c d : Int) : Int := a % 256 + b % 256 * 256 + c % 256 * 65536 + d % 256 * 16777216
theorem join_eq (a b c d : Int) (ha : 0 ≤ a) (ha' : a < 4294967296) (hb : 0 ≤ b) (hb' : b < 4294967296) (hc : 0 ≤ c) (hc' : c < 4294967296) (hd : 0 ≤ d) (hd' : d < 4294967296) :
    bits .or .u32 (bits .or .u32 (bits .or .u32 (bits .or .u32 0 (bits .and .u32 a 255 % 4294967296)) (bits .and .u32 b 255 * 256 % 4294967296)) (bits .and .u32 c 255 * 65536 % 4294967296)) (bits .and .u32 d 255 * 16777216 % 4294967296) = jn a b c d := by
  obtain ⟨A, rfl⟩ := Int.eq_ofNat_of_zero_le ha
  obtain ⟨B, rfl⟩ := Int.eq_ofNat_of_zero_le hb
  obtain ⟨C, rfl⟩ := Int.eq_ofNat_of_zero_le hc
  obtain ⟨D, rfl⟩ := Int.eq_ofNat_of_zero_le hd
  rw [and255 A (by omega), and255 B (by omega), and255 C (by omega), and255 D (by omega)]
  have e0 : (((A % 256 : Nat) : Int) % 4294967296) = ((A % 256 : Nat) : Int) := by omega
  have e1 : ((((B % 256 : Nat) : Int) * 256) % 4294967296) = ((B % 256 * 2 ^ 8 : Nat) : Int) := by omega
  have e2 : ((((C % 256 : Nat) : Int) * 65536) % 4294967296) = ((C % 256 * 2 ^ 16 : Nat) : Int) := by omega
  have e3 : ((((D % 256 : Nat) : Int) * 16777216) % 4294967296) = ((D % 256 * 2 ^ 24 : Nat) : Int) := by omega
  have z : (0 : Int) = ((0 : Nat) : Int) := rfl
  rw [e0, e1, e2, e3, z, u32_or_nat _ _ (by decide) (by omega), Nat.zero_or, u32_or_nat _ _ (by omega) (by omega), or_add _ _ 8 (by omega), u32_or_nat _ _ (by omega) (by omega), or_add _ _ 16 (by omega), u32_or_nat _ _ (by omega) (by omega), or_add _ _ 24 (by omega)]
  unfold jn
  omega
theorem rjoin_eq (a b c d : Int) (ha : 0 ≤ a) (hb : 0 ≤ b) (hc : 0 ≤ c) (hd : 0 ≤ d) :
    ((((d.tmod 256 % 4294967296 * 256 + c.tmod 256) % 4294967296 * 256 + b.tmod 256) % 4294967296 * 256 % 4294967296 + a.tmod 256) % 4294967296) = jn a b c d := by
  rw [Int.tmod_eq_emod_of_nonneg ha, Int.tmod_eq_emod_of_nonneg hb, Int.tmod_eq_emod_of_nonneg hc, Int.tmod_eq_emod_of_nonneg hd]
  unfold jn
  omega
theorem byte_eq (a k : Int) (hk : k = 1 ∨ k = 256 ∨ k = 65536 ∨ k = 16777216) (ha : 0 ≤ a) (ha' : a < 4294967296) : bits .and .u32 (a / k) 255 = a / k % 256 := by
  obtain ⟨A, hA⟩ : ∃ A : Nat, a / k = A := ⟨(a / k).toNat, by rcases hk with rfl | rfl | rfl | rfl <;> omega⟩
  rw [hA, and255 A (by rcases hk with rfl | rfl | rfl | rfl <;> omega)]; omega
theorem byte0 (a : Int) (ha : 0 ≤ a) (ha' : a < 4294967296) : bits .and .u32 a 255 = a % 256 := by
  have := byte_eq a 1 (Or.inl rfl) ha ha'
  rwa [Int.ediv_one] at this
theorem rb (a : Int) (ha : 0 ≤ a) (ha' : a < 4294967296) : a.tmod 256 = a % 256 ∧ a.tdiv 256 % 256 = a / 256 % 256 ∧ a.tdiv 256 % 4294967296 / 256 % 256 = a / 65536 % 256 ∧ a.tdiv 256 % 4294967296 / 256 / 256 % 256 = a / 16777216 % 256 := by
  rw [Int.tmod_eq_emod_of_nonneg ha, Int.tdiv_eq_ediv_of_nonneg ha]; omega
theorem ret_int {k : IntKind} {a b : Int} (h : a = b) : Ending.returned (.int k a) = .returned (.int k b) := by rw [h]
set_option maxHeartbeats 1000000 in
theorem join_walk (a b c d : Int) (w : World) :
    Calls Try.prog 15 #[.agg #[.int .u32 a, .int .u32 b, .int .u32 c, .int .u32 d]] w fun e w' => e = .returned (.int .u32 (bits .or .u32 (bits .or .u32 (bits .or .u32 (bits .or .u32 0 (bits .and .u32 a 255 % 4294967296)) (bits .and .u32 b 255 * 256 % 4294967296)) (bits .and .u32 c 255 * 65536 % 4294967296)) (bits .and .u32 d 255 * 16777216 % 4294967296))) ∧ Below w.heap.size w w' := by
  have i0 : ∀ w, (Instr.index 32 (.agg #[.int .u32 a, .int .u32 b, .int .u32 c, .int .u32 d]) (.int .i64 0)).run Try.prog w = .ok (.int .u32 a) w := fun _ => by kernel_rfl
  have i1 : ∀ w, (Instr.index 32 (.agg #[.int .u32 a, .int .u32 b, .int .u32 c, .int .u32 d]) (.int .i64 1)).run Try.prog w = .ok (.int .u32 b) w := fun _ => by kernel_rfl
  have i2 : ∀ w, (Instr.index 32 (.agg #[.int .u32 a, .int .u32 b, .int .u32 c, .int .u32 d]) (.int .i64 2)).run Try.prog w = .ok (.int .u32 c) w := fun _ => by kernel_rfl
  have i3 : ∀ w, (Instr.index 32 (.agg #[.int .u32 a, .int .u32 b, .int .u32 c, .int .u32 d]) (.int .i64 3)).run Try.prog w = .ok (.int .u32 d) w := fun _ => by kernel_rfl
  go_enter Try.func15, Try.ntmps15
  go_wp2_with fail
  refine wp_loop_rounds 5 ?_
  rw [rounds_succ]
  go_wp2_with fail
  rw [rounds_succ]
  go_wp2_with fail
  rw [rounds_succ]
  go_wp2_with fail
  rw [rounds_succ]
  go_wp2_with fail
  rw [rounds_succ]
  go_wp2_with fail
  go_ret
  refine ⟨rfl, ?_⟩
  repeat' (first | exact Below.refl _ _ | (refine below_far ?_ (by simp; try omega) _) | apply pw_below_drewN | (refine Below.alloc ?_ (by simp; try omega) _))
theorem join_calls (a b c d : Int) (w : World) (ha : 0 ≤ a) (ha' : a < 4294967296) (hb : 0 ≤ b) (hb' : b < 4294967296) (hc : 0 ≤ c) (hc' : c < 4294967296) (hd : 0 ≤ d) (hd' : d < 4294967296) :
    Calls Try.prog 15 #[.agg #[.int .u32 a, .int .u32 b, .int .u32 c, .int .u32 d]] w fun e w' => e = .returned (.int .u32 (jn a b c d)) ∧ Below w.heap.size w w' := by
  have h := join_walk a b c d w
  rw [join_eq a b c d ha ha' hb hb' hc hc' hd hd'] at h
  exact h
set_option maxHeartbeats 1000000 in
theorem rjoin_walk (a b c d : Int) (w : World) :
    Calls Try.prog 16 #[.agg #[.int .u32 a, .int .u32 b, .int .u32 c, .int .u32 d]] w fun e w' => e = .returned (.int .u32 ((((d.tmod 256 % 4294967296 * 256 + c.tmod 256) % 4294967296 * 256 + b.tmod 256) % 4294967296 * 256 % 4294967296 + a.tmod 256) % 4294967296)) ∧ Below w.heap.size w w' := by
  go_enter Try.func16, Try.ntmps16
  go_wp2_with fail
  refine wp_loop_rounds 5 ?_
  rw [rounds_succ]
  go_wp2_with fail
  rw [rounds_succ]
  go_wp2_with fail
  rw [rounds_succ]
  go_wp2_with fail
  rw [rounds_succ]
  go_wp2_with fail
  rw [rounds_succ]
  go_wp2_with fail
  go_ret
  refine ⟨rfl, ?_⟩
  repeat' (first | exact Below.refl _ _ | (refine below_far ?_ (by simp; try omega) _) | apply pw_below_drewN | (refine Below.alloc ?_ (by simp; try omega) _))
theorem rjoin_calls (a b c d : Int) (w : World) (ha : 0 ≤ a) (hb : 0 ≤ b) (hc : 0 ≤ c) (hd : 0 ≤ d) :
    Calls Try.prog 16 #[.agg #[.int .u32 a, .int .u32 b, .int .u32 c, .int .u32 d]] w fun e w' => e = .returned (.int .u32 (jn a b c d)) ∧ Below w.heap.size w w' := by
  have h := rjoin_walk a b c d w
  rw [rjoin_eq a b c d ha hb hc hd] at h
  exact h
set_option maxHeartbeats 1000000 in
theorem split_walk (a : Int) (w : World) :
    Calls Try.prog 17 #[.int .u32 a] w fun e w' => e = .returned (.agg #[.int .u32 (bits .and .u32 a 255), .int .u32 (bits .and .u32 (a / 256) 255), .int .u32 (bits .and .u32 (a / 65536) 255), .int .u32 (bits .and .u32 (a / 16777216) 255)]) ∧ Below w.heap.size w w' := by
  go_enter Try.func17, Try.ntmps17
  go_wp2_with fail
  refine wp_loop_rounds 5 ?_
  rw [rounds_succ]
  go_wp2_with fail
  rw [rounds_succ]
  go_wp2_with fail
  rw [rounds_succ]
  go_wp2_with fail
  rw [rounds_succ]
  go_wp2_with fail
  rw [rounds_succ]
  go_wp2_with fail
  refine bodyPost_ret (v := .agg #[.int .u32 (bits .and .u32 a 255), .int .u32 (bits .and .u32 (a / 256) 255), .int .u32 (bits .and .u32 (a / 65536) 255), .int .u32 (bits .and .u32 (a / 16777216) 255)]) (by simp [results, Try.results17, go_sem]) rfl ⟨rfl, ?_⟩
  repeat' (first | exact Below.refl _ _ | (refine below_far ?_ (by simp; try omega) _) | apply pw_below_drewN | (refine Below.alloc ?_ (by simp; try omega) _))
theorem split_calls (a : Int) (w : World) (ha : 0 ≤ a) (ha' : a < 4294967296) :
    Calls Try.prog 17 #[.int .u32 a] w fun e w' => e = .returned (.agg #[.int .u32 (a % 256), .int .u32 (a / 256 % 256), .int .u32 (a / 65536 % 256), .int .u32 (a / 16777216 % 256)]) ∧ Below w.heap.size w w' := by
  have h := split_walk a w
  rw [byte0 a ha ha', byte_eq a 256 (by omega) ha ha', byte_eq a 65536 (by omega) ha ha', byte_eq a 16777216 (by omega) ha ha'] at h
  exact h
set_option maxHeartbeats 1000000 in
theorem rsplit_walk (a : Int) (w : World) :
    Calls Try.prog 18 #[.int .u32 a] w fun e w' => e = .returned (.agg #[.int .u32 (a.tmod 256), .int .u32 (a.tdiv 256 % 256), .int .u32 (a.tdiv 256 % 4294967296 / 256 % 256), .int .u32 (a.tdiv 256 % 4294967296 / 256 / 256 % 256)]) ∧ Below w.heap.size w w' := by
  go_enter Try.func18, Try.ntmps18
  go_wp2_with fail
  refine wp_loop_rounds 5 ?_
  rw [rounds_succ]
  go_wp2_with fail
  rw [rounds_succ]
  go_wp2_with fail
  rw [rounds_succ]
  go_wp2_with fail
  rw [rounds_succ]
  go_wp2_with fail
  rw [rounds_succ]
  go_wp2_with fail
  refine bodyPost_ret (v := .agg #[.int .u32 (a.tmod 256), .int .u32 (a.tdiv 256 % 256), .int .u32 (a.tdiv 256 % 4294967296 / 256 % 256), .int .u32 (a.tdiv 256 % 4294967296 / 256 / 256 % 256)]) (by simp [results, Try.results18, go_sem]) rfl ⟨rfl, ?_⟩
  repeat' (first | exact Below.refl _ _ | (refine below_far ?_ (by simp; try omega) _) | apply pw_below_drewN | (refine Below.alloc ?_ (by simp; try omega) _))
theorem rsplit_calls (a : Int) (w : World) (ha : 0 ≤ a) (ha' : a < 4294967296) :
    Calls Try.prog 18 #[.int .u32 a] w fun e w' => e = .returned (.agg #[.int .u32 (a % 256), .int .u32 (a / 256 % 256), .int .u32 (a / 65536 % 256), .int .u32 (a / 16777216 % 256)]) ∧ Below w.heap.size w w' := by
  have h := rsplit_walk a w
  obtain ⟨r0, r1, r2, r3⟩ := rb a ha ha'
  rw [r0, r1, r2, r3] at h
  exact h
end Go.Proofs.Ytdjpodpibkcnaaa.Parts
