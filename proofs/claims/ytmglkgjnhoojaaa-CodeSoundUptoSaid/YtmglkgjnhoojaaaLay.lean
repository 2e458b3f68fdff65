/- The builder's lay. -/
import Derived.Test.YtmglkgjnhoojaaaClone
namespace Go.Proofs.Ytmglkgjnhoojaaa.PCodeRows
open Go.RowKit Go.Proofs.YtmglkgjnhoojaaaW.PrintWords Go.Proofs.YtmglkgjnhoojaaaW.PrintLast Go.Proofs.YtmglkgjnhoojaaaW.PrintMore
set_option linter.unusedVariables false
set_option linter.unusedSimpArgs false
set_option maxHeartbeats 2000000 in
theorem lay_calls (bb base : Nat) (v0 v1 v2 v3 v4 : Value) (code : List S37) (kind n : Int) (w : World) (ok : Nat → Prop)
    (hB : w.heap[bb]? = some (.cells #[v0, v1, v2, v3, v4] 53 (0, 0))) (hbb : base ≤ bb) (hR : Kd.R k37 37 w base ok v0 code) (hok : ∀ k, w.heap.size ≤ k → ok k) (hl : code.length < 256) :
    Calls Try.prog 35 #[.pointer (some ⟨bb, 0, none⟩), .int .i64 kind, .int .i64 n] w fun e w' => ∃ v0', e = .returned (.tuple #[.int .i64 code.length, .int .i64 0]) ∧ w'.heap[bb]? = some (.cells #[v0', v1, v2, v3, v4] 53 (0, 0)) ∧ Kd.R k37 37 w' base ok v0' (code ++ [⟨kind, n % 4294967296⟩]) ∧ Kept w w' (fun k => k = bb ∨ some k = v0.ownBlock) ∧ Below base w w' := by
  obtain ⟨A, c, rfl, hc, hC⟩ := Kd.R_reads hR
  have hb0 : w.cell? ⟨bb, 0, none⟩ = some (.slice A code.length c) := (blk_cell hB 0).trans rfl
  have q0 : ((256 : Int) ≤ (code.length : Int)) = False := eq_false (by omega)
  have q1 : decide ((256 : Int) ≤ (code.length : Int)) = false := by simp; omega
  go_enter Try.func35, Try.ntmps35
  go_wp2_with (at_builtin; refine Kd.R_append k37 (w0 := w) (W := w) base rfl _ _ 22 37 (.agg #[(.int .i64 0), (.int .u32 0)]) 16 rfl Try.underlying22 info37 rfl (by decide) (by decide) (.slice A code.length c) code ⟨kind, n % 4294967296⟩ [.int .i64 kind, .int .u32 (n % 4294967296)] ok (fun _ => False) rfl rfl (k37_mkM _ _ _ _) (fun _ h => h.elim) hok hR (Below.refl _ _) (Nat.le_trans hbb (Nat.le_of_lt (blk_lt hB))) (by omega) ?_)
  intro v1' w1 hR1 hB1 hg hat
  have hne : some bb ≠ (Value.slice A code.length c).ownBlock := Kd.R_ne hR hB (by decide)
  have hbk := blk_grown hB hg hne
  have hne1 : some bb ≠ v1'.ownBlock := Kd.R_ne hR1 hbk (by decide)
  have hf : w1.frozen? ⟨bb, 0, none⟩ = false := blk_frozen hbk 0
  obtain ⟨A1, cc1, rfl, hcc1, hC1⟩ := Kd.R_reads hR1
  have hsz : (code ++ [(⟨kind, n % 4294967296⟩ : S37)]).length = code.length + 1 := by simp
  rw [hsz] at hR1 hne1 hC1 ⊢
  have hb1 : w1.cell? ⟨bb, 0, none⟩ = some (.slice A code.length c) := (blk_cell hbk 0).trans rfl
  have hb2 : (w1.setCell ⟨bb, 0, none⟩ (.slice A1 (code.length + 1) cc1)).cell? ⟨bb, 0, none⟩ = some (.slice A1 (code.length + 1) cc1) := (blk_cell (blk_set hbk 0 _) 0).trans rfl
  go_wp2_with fail
  refine bodyPost_ret (v := .tuple #[.int .i64 code.length, .int .i64 0]) (by simp [results, Try.results35, go_sem]) rfl ⟨_, rfl, blk_put hbk 0 _ rfl, Kd.R_set hR1 hbk (by decide) 0 _, ?_, hB1.setCell hbb _⟩
  refine ⟨by simpa using hg.size, fun k hk hn => ?_⟩
  rw [Below.heap_setCell w1 _ _ k (fun h => hn (.inl h))]
  exact hg.block k hk (fun h => hn (.inr h))
set_option maxHeartbeats 2000000 in
theorem lay_long (bb : Nat) (A : Option Addr) (n0 c : Nat) (v1 v2 v3 v4 : Value) (kind n : Int) (w : World)
    (hB : w.heap[bb]? = some (.cells #[.slice A n0 c, v1, v2, v3, v4] 53 (0, 0))) (hl : 256 ≤ n0) :
    Calls Try.prog 35 #[.pointer (some ⟨bb, 0, none⟩), .int .i64 kind, .int .i64 n] w fun e w' => e = .returned (.tuple #[.int .i64 0, .int .i64 3]) ∧ w' = w := by
  have hb0 : w.cell? ⟨bb, 0, none⟩ = some (.slice A n0 c) := (blk_cell hB 0).trans rfl
  have q1 : decide ((256 : Int) ≤ (n0 : Int)) = true := by simp; omega
  go_enter Try.func35, Try.ntmps35
  go_wp2_with fail
  exact bodyPost_ret (v := .tuple #[.int .i64 0, .int .i64 3]) (by simp [results, Try.results35, go_sem]) rfl ⟨rfl, rfl⟩
end Go.Proofs.Ytmglkgjnhoojaaa.PCodeRows
