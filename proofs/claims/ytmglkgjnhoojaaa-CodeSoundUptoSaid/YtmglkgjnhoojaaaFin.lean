/- Finish (17). -/
import Derived.Test.YtmglkgjnhoojaaaFormed
import Derived.Test.YtmglkgjnhoojaaaClone
namespace Go.Proofs.Ytmglkgjnhoojaaa.PCodeRows
open Go.RowKit Go.Proofs.YtmglkgjnhoojaaaW.PrintWords Go.Proofs.YtmglkgjnhoojaaaW.PrintLast Go.Proofs.YtmglkgjnhoojaaaW.PrintMore
set_option linter.unusedVariables false
set_option linter.unusedSimpArgs false
set_option maxHeartbeats 1000000 in
theorem finish_bad (A0 A1 A2 A3 A4 : Option Addr) (c0 c1 c2 c3 c4 : Nat) (code : List S37) (origs dests : List Int) (loops cases : List S59) (w : World)
    (h : DrC w A0 A1 A2 A3 A4 c0 c1 c2 c3 c4 code origs dests loops cases) (hf : formedP code origs dests loops cases = false) :
    Calls Try.prog 17 #[drV A0 A1 A2 A3 A4 c0 c1 c2 c3 c4 code.length origs.length dests.length loops.length cases.length] w fun e w' => Below w.heap.size w w' ∧ e = .returned (.tuple #[.slice none 0 0, .int .i64 1]) := by
  have HD := Aside0.mk (blk_new w (.cells #[.slice A0 code.length c0, .slice A1 origs.length c1, .slice A2 dests.length c2, .slice A3 loops.length c3, .slice A4 cases.length c4] 26))
  have HB := Aside0.mk (below_alloc (Below.refl w.heap.size w) (.cells #[.slice A0 code.length c0, .slice A1 origs.length c1, .slice A2 dests.length c2, .slice A3 loops.length c3, .slice A4 cases.length c4] 26))
  have k0 := (blk_cell HD.out 0).trans rfl
  have k1 := (blk_cell HD.out 1).trans rfl
  have k2 := (blk_cell HD.out 2).trans rfl
  have k3 := (blk_cell HD.out 3).trans rfl
  have k4 := (blk_cell HD.out 4).trans rfl
  have H := Aside0.mk h
  have HF := Aside0.mk hf
  clear h hf
  go_enter Try.func17, Try.ntmps17
  go_wp2_with fail
  clear k0 k1 k2 k3 k4
  refine (formed_calls A0 A1 A2 A3 A4 c0 c1 c2 c3 c4 code origs dests loops cases _ (H.out.below HB.out)).mono ?_
  rintro e w1 ⟨rfl, hb1⟩
  rw [HF.out]
  have HB1 := Aside0.mk (below_step HB.out hb1)
  have HD1 := Aside0.mk (blk_below HD.out hb1)
  clear hb1 HB HD
  go_wp2_with fail
  exact bodyPost_ret (v := .tuple #[.slice none 0 0, .int .i64 1]) (by simp [results, Try.results17, go_sem]) rfl ⟨HB1.out, rfl⟩
set_option maxHeartbeats 1000000 in
theorem finish_ok (A0 A1 A2 A3 A4 : Option Addr) (c0 c1 c2 c3 c4 : Nat) (code : List S37) (w : World)
    (h : DrC w A0 A1 A2 A3 A4 c0 c1 c2 c3 c4 code [] [] [] []) (hf : formedP code [] [] [] [] = true) (hs : code.length * 16 ≤ 140737488355328) :
    Calls Try.prog 17 #[drV A0 A1 A2 A3 A4 c0 c1 c2 c3 c4 code.length 0 0 0 0] w fun e w' => Below w.heap.size w w' ∧ ∃ v, e = .returned (.tuple #[v, .int .i64 0]) ∧ Kd.R k37 37 w' w.heap.size (fun _ => True) v code := by
  have HD := Aside0.mk (blk_new w (.cells #[.slice A0 code.length c0, .slice A1 0 c1, .slice A2 0 c2, .slice A3 0 c3, .slice A4 0 c4] 26))
  have HB := Aside0.mk (below_alloc (Below.refl w.heap.size w) (.cells #[.slice A0 code.length c0, .slice A1 0 c1, .slice A2 0 c2, .slice A3 0 c3, .slice A4 0 c4] 26))
  have k0 := (blk_cell HD.out 0).trans rfl
  have k1 := (blk_cell HD.out 1).trans rfl
  have k2 := (blk_cell HD.out 2).trans rfl
  have k3 := (blk_cell HD.out 3).trans rfl
  have k4 := (blk_cell HD.out 4).trans rfl
  have H := Aside0.mk h
  have HF := Aside0.mk hf
  clear h hf
  go_enter Try.func17, Try.ntmps17
  go_wp2_with fail
  clear k0 k1 k2 k3 k4
  refine (formed_calls A0 A1 A2 A3 A4 c0 c1 c2 c3 c4 code [] [] [] [] _ (H.out.below HB.out)).mono ?_
  rintro e w1 ⟨rfl, hb1⟩
  rw [HF.out]
  have HB1 := Aside0.mk (below_step HB.out hb1)
  have HD1 := Aside0.mk (blk_below HD.out hb1)
  clear hb1 HB HD
  have k0 := (blk_cell HD1.out 0).trans rfl
  have k1 := (blk_cell HD1.out 1).trans rfl
  have k2 := (blk_cell HD1.out 2).trans rfl
  have k3 := (blk_cell HD1.out 3).trans rfl
  have k4 := (blk_cell HD1.out 4).trans rfl
  have HS := Aside0.mk hs
  clear hs
  go_wp2_with fail
  refine (clone36_calls A0 c0 code w1 (Kd.C_below H.out.r0 HB1.out) HS.out).mono ?_
  rintro e w2 ⟨v, rfl, hC⟩
  have hB2 := Aside0.mk (below_step HB1.out hC.2)
  have hR : Kd.R k37 37 w2 w1.heap.size (fun _ => True) v code := ⟨fun _ _ => trivial, hC.1.imp_ (fun p c hp => by have := k37_open hp; subst this; exact k37_mkM _ _ _ p)⟩
  have hR2 := Aside0.mk (Kd.R_lower hR HB1.out.size)
  clear hR hC k0 k1 k2 k3 k4
  go_wp2_with fail
  exact bodyPost_ret (v := .tuple #[v, .int .i64 0]) (by simp [results, Try.results17, go_sem]) rfl ⟨hB2.out, v, rfl, hR2.out⟩
end Go.Proofs.Ytmglkgjnhoojaaa.PCodeRows
