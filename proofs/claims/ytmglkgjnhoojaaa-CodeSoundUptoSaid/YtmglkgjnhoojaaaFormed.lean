/- code.Formed walked. -/
import Derived.Test.YtmglkgjnhoojaaaAre
import Derived.Deep.DeepCutAuto
namespace Go.Proofs.Ytmglkgjnhoojaaa.PCodeRows
open Go.RowKit Go.Proofs.YtmglkgjnhoojaaaW.PrintWords Go.Proofs.YtmglkgjnhoojaaaW.PrintLast Go.Proofs.YtmglkgjnhoojaaaW.PrintMore
set_option linter.unusedVariables false
set_option linter.unusedSimpArgs false
def destsP (code : List S37) (l : List Int) : Bool := l.all fun n => decide (0 ≤ n) && decide (n ≤ code.length)
def loopP (code : List S37) (x : S59) : Bool := isOf code [5, 6] x.f0 && areP code x.f1 [9]
def caseP (code : List S37) (x : S59) : Bool := (decide (x.f0 = -1) || isOf code [10] x.f0) && areP code x.f1 [3]
def formedP (code : List S37) (origs dests : List Int) (loops cases : List S59) : Bool :=
  decide (code.length ≤ 256) && (areP code origs [3, 4] && (destsP code dests && (loops.all (loopP code) && cases.all (caseP code))))
set_option maxHeartbeats 4000000 in
theorem formed_calls (A0 A1 A2 A3 A4 : Option Addr) (c0 c1 c2 c3 c4 : Nat) (code : List S37) (origs dests : List Int) (loops cases : List S59) (w : World)
    (h : DrC w A0 A1 A2 A3 A4 c0 c1 c2 c3 c4 code origs dests loops cases) :
    Calls Try.prog 12 #[drV A0 A1 A2 A3 A4 c0 c1 c2 c3 c4 code.length origs.length dests.length loops.length cases.length] w fun e w' => e = .returned (.bool (formedP code origs dests loops cases)) ∧ Below w.heap.size w w' := by
  obtain ⟨r, R0⟩ : ∃ r, formedP code origs dests loops cases = r := ⟨_, rfl⟩
  have R := Aside0.mk R0
  rw [R0]
  clear R0
  by_cases q0 : (256 : Int) < (code.length : Int)
  · have q1 := decide_eq_true q0
    have R1 := Aside0.mk (show 256 < code.length by omega)
    clear q0
    go_enter Try.func12, Try.ntmps12
    go_wp2_with fail
    go_ret
    exact ⟨ret_bool (by have := R1.out; rw [← R.out]; simp [formedP]; omega), below_alloc (Below.refl _ _) _⟩
  have q1 := decide_eq_false q0
  have R1 := Aside0.mk (show (areP code origs [3, 4] && (destsP code dests && (loops.all (loopP code) && cases.all (caseP code)))) = r by
    have : code.length ≤ 256 := by omega
    have h2 := R.out
    simpa [formedP, this] using h2)
  clear R q0
  have H0 := Aside0.mk h.r0
  have H1 := Aside0.mk h.r1
  have H2 := Aside0.mk h.r2
  have H3 := Aside0.mk h.r3
  have H4 := Aside0.mk h.r4
  clear h
  go_enter Try.func12, Try.ntmps12
  go_wp2_with fail
  · refine (are_calls A0 A1 A2 A3 A4 c0 c1 c2 c3 c4 code _ _ _ _ A1 c1 origs (some ⟨w.heap.size + 1, 0, none⟩) 2 [3, 4] _ (Kd.C_alloc (Kd.C_alloc H0.out _) _) (Kd.C_alloc (Kd.C_alloc H1.out _) _) (C_new2 _ 3 4 (by simp)) (by decide)).mono ?_
    rintro e w1 ⟨rfl, hb⟩
    have hd := blk_below (blk_alloc (blk_new w (.cells #[.slice A0 code.length c0, .slice A1 origs.length c1, .slice A2 dests.length c2, .slice A3 loops.length c3, .slice A4 cases.length c4] 26)) (.cells #[.int .i64 3, .int .i64 4] 3)) hb
    have HB := Aside0.mk ((below_alloc (below_alloc (Below.refl _ _) _) _).trans (hb.mono (by simp; omega)) : Below w.heap.size w w1)
    have HD := Aside0.mk hd
    have hd2 : w1.cell? ⟨w.heap.size, 2, none⟩ = some (.slice A2 dests.length c2) := (blk_cell hd 2).trans rfl
    clear hb hd
    generalize hb1 : areP code origs [3, 4] = b1 at R1 ⊢
    cases b1 with
    | false =>
      go_wp2
      go_ret
      exact ⟨ret_bool (by rw [← R1.out]; rfl), HB.out⟩
    | true =>
      clear hb1
      have R2 := Aside0.mk (show (destsP code dests && (loops.all (loopP code) && cases.all (caseP code))) = r from R1.out)
      clear R1
      go_wp2_with fail
      go_loopg [24] dests.length (fun gg s24 wr => ∃ kk : Nat, kk ≤ dests.length ∧ dests.length - kk ≤ gg ∧ s24 = .int .i64 kk ∧ Aside0 (Below w.heap.size w wr) ∧ Aside0 (wr.heap[w.heap.size]? = some (.cells #[.slice A0 code.length c0, .slice A1 origs.length c1, .slice A2 dests.length c2, .slice A3 loops.length c3, .slice A4 cases.length c4] 26)) ∧ Aside0 (destsP code (dests.take kk) = true))
      case atStart => exact ⟨0, Nat.zero_le _, by omega, rfl, HB, HD, ⟨rfl⟩⟩
      case round =>
        clear HB HD hd2
        have hlen := H2.out.2.1
        obtain ⟨kk, hkk, hg, rfl, HB, HD, A⟩ := hrel
        by_cases hlt : kk < dests.length
        · have hltz : (kk : Int) < (dests.length : Int) := by omega
          obtain ⟨ad, e, g0⟩ := Kd.at_int H2.out (kk : Int) (by omega) hltz
          cases e
          have g1 := (HB.out.cell (World.block_lt_of_cell? w _ g0)).trans g0
          rw [Int.toNat_natCast] at g1
          have hrd : dests[kk]? = some (rd dests (kk : Int)) := by simp [rd, List.getD_eq_getElem?_getD, hlt]
          have hd0 : wr.cell? ⟨w.heap.size, 0, none⟩ = some (.slice A0 code.length c0) := (blk_cell HD.out 0).trans rfl
          generalize hy : rd dests (kk : Int) = y at g0 g1 hrd
          clear hy g0
          have hmem : y ∈ dests := List.mem_of_getElem? hrd
          have T : Aside0 ((decide (0 ≤ y) && decide (y ≤ (code.length : Int))) = true → destsP code (dests.take (kk + 1)) = true) := ⟨fun hy => by
            have := A.out
            unfold destsP at this ⊢
            rw [List.take_add_one, hrd, List.all_append, this]
            simpa using hy⟩
          have F : Aside0 ((decide (0 ≤ y) && decide (y ≤ (code.length : Int))) = false → false = r) := ⟨fun hy => by
            have h2 : destsP code dests = false := by
              unfold destsP
              exact List.all_eq_false.2 ⟨y, hmem, by simpa using hy⟩
            rw [← R2.out, h2]
            rfl⟩
          clear hmem hrd A
          by_cases y0 : y < 0
          · have y1 := decide_eq_true y0
            have F2 := Aside0.mk (F.out (by simp; omega))
            clear F T R2
            go_wp2_with fail
            go_ret
            exact ⟨ret_bool F2.out, HB.out⟩
          have y1 := decide_eq_false y0
          by_cases y2 : (code.length : Int) < y
          · have y3 := decide_eq_true y2
            have F2 := Aside0.mk (F.out (by simp; omega))
            clear F T R2
            go_wp2_with fail
            go_ret
            exact ⟨ret_bool F2.out, HB.out⟩
          have y3 := decide_eq_false y2
          have T2 := Aside0.mk (T.out (by simp; omega))
          clear T F
          go_wp2_with fail
          go_roundg (dests.length - (kk + 1))
          case measure => omega
          case rel => exact ⟨kk + 1, by omega, by omega, by go_num, ⟨HB.out⟩, ⟨HD.out⟩, T2⟩
        · have hltz : ¬ (kk : Int) < (dests.length : Int) := by omega
          have : kk = dests.length := by omega
          subst this
          rw [List.take_length] at A
          have R3 := Aside0.mk (show (loops.all (loopP code) && cases.all (caseP code)) = r by have := R2.out; rw [A.out] at this; exact this)
          clear A R2
          have hd3 : wr.cell? ⟨w.heap.size, 3, none⟩ = some (.slice A3 loops.length c3) := (blk_cell HD.out 3).trans rfl
          go_wp2_with fail
          clear hd3 hltz hlt hg hkk hlen
          go_loopg [41] loops.length (fun gg s41 w2 => ∃ kk : Nat, kk ≤ loops.length ∧ loops.length - kk ≤ gg ∧ s41 = .int .i64 kk ∧ Aside0 (Below w.heap.size w w2) ∧ Aside0 (w2.heap[w.heap.size]? = some (.cells #[.slice A0 code.length c0, .slice A1 origs.length c1, .slice A2 dests.length c2, .slice A3 loops.length c3, .slice A4 cases.length c4] 26)) ∧ Aside0 ((loops.take kk).all (loopP code) = true))
          case atStart => exact ⟨0, Nat.zero_le _, by omega, rfl, HB, HD, ⟨rfl⟩⟩
          case round =>
            clear HB HD
            obtain ⟨kk, hkk, hg, rfl, HB, HD, A⟩ := hrel
            have hlen := H3.out.2.1
            by_cases hlt : kk < loops.length
            · have hltz : (kk : Int) < (loops.length : Int) := by omega
              obtain ⟨ad, B, cB, e, g0, g1, hcB, gC⟩ := at_T59 H3.out (kk : Int) (by omega) hltz
              cases e
              rw [Int.toNat_natCast] at g0 g1
              have g2 := (HB.out.cell (World.block_lt_of_cell? w _ g0)).trans g0
              have g3 := (HB.out.cell (World.block_lt_of_cell? w _ g1)).trans g1
              have hrd : loops[kk]? = some (rd_T59 loops (kk : Int)) := by simp [rd_T59, List.getD_eq_getElem?_getD, hlt]
              generalize hy : rd_T59 loops (kk : Int) = y at g0 g1 g2 g3 hrd hcB gC
              clear hy g0 g1
              have GC := Aside0.mk gC
              have hmem : y ∈ loops := List.mem_of_getElem? hrd
              have T : Aside0 (loopP code y = true → (loops.take (kk + 1)).all (loopP code) = true) := ⟨fun hy => by
                rw [List.take_add_one, hrd, List.all_append, A.out]
                simpa using hy⟩
              have F : Aside0 (loopP code y = false → false = r) := ⟨fun hy => by
                have h2 : loops.all (loopP code) = false := List.all_eq_false.2 ⟨y, hmem, by simpa using hy⟩
                rw [← R3.out, h2]
                rfl⟩
              clear hmem hrd A gC
              have HD1 := Aside0.mk (blk_alloc HD.out (.cells #[.int .i64 y.f0, .slice B y.f1.length cB] 59))
              have hd0 := (blk_cell HD1.out 0).trans rfl
              have hd1 := (blk_cell HD1.out 1).trans rfl
              have hd2 := (blk_cell HD1.out 2).trans rfl
              have hd3 := (blk_cell HD1.out 3).trans rfl
              have hd4 := (blk_cell HD1.out 4).trans rfl
              go_wp2_with fail
              refine (are_calls A0 A1 A2 (some ad) A4 c0 c1 c2 c3 c4 code _ _ _ _ _ 1 [y.f0] (some ⟨wr.heap.size + 1 + 1, 0, none⟩) 2 [5, 6] _ (Kd.C_below H0.out (below_alloc (below_alloc (below_alloc HB.out _) _) _)) (Kd.C_alloc (C_new1 _ _ (by simp)) _) (C_new2 _ 5 6 (by simp)) (by decide)).mono ?_
              rintro e w5 ⟨rfl, hb⟩
              have HB5 := Aside0.mk ((below_alloc (below_alloc (below_alloc HB.out _) _) _).trans (hb.mono (by have := HB.out.size; simp; omega)) : Below w.heap.size w w5)
              have HD5 := Aside0.mk (blk_below (blk_alloc (blk_alloc HD1.out _) _) hb)
              have HY5 := Aside0.mk (blk_below (blk_alloc (blk_alloc (blk_new wr (.cells #[.int .i64 y.f0, .slice B y.f1.length cB] 59)) _) _) hb)
              clear hb hd0 hd1 hd2 hd3 hd4 HD1 g2 g3
              have hx : areP code [y.f0] [5, 6] = isOf code [5, 6] y.f0 := by simp [areP]
              rw [hx]
              clear hx
              have hd0 : w5.cell? ⟨w.heap.size, 0, none⟩ = some (.slice A0 code.length c0) := (blk_cell HD5.out 0).trans rfl
              have hd1 : w5.cell? ⟨w.heap.size, 1, none⟩ = some (.slice A1 origs.length c1) := (blk_cell HD5.out 1).trans rfl
              have hd2 : w5.cell? ⟨w.heap.size, 2, none⟩ = some (.slice A2 dests.length c2) := (blk_cell HD5.out 2).trans rfl
              have hd3 : w5.cell? ⟨w.heap.size, 3, none⟩ = some (.slice (some ad) loops.length c3) := (blk_cell HD5.out 3).trans rfl
              have hd4 : w5.cell? ⟨w.heap.size, 4, none⟩ = some (.slice A4 cases.length c4) := (blk_cell HD5.out 4).trans rfl
              have hy1 : w5.cell? ⟨wr.heap.size, 1, none⟩ = some (.slice B y.f1.length cB) := (blk_cell HY5.out 1).trans rfl
              generalize hb1 : isOf code [5, 6] y.f0 = b1
              cases b1 with
              | false =>
                have F2 := Aside0.mk (F.out (by simp [loopP, hb1]))
                clear hb1
                go_wp2_with fail
                go_ret
                exact ⟨ret_bool F2.out, HB5.out⟩
              | true =>
                have T2 := Aside0.mk (show areP code y.f1 [9] = true → _ from fun h => T.out (by simp [loopP, hb1, h]))
                have F2 := Aside0.mk (show areP code y.f1 [9] = false → _ from fun h => F.out (by simp [loopP, h]))
                clear hb1 T F
                go_wp2_with fail
                refine (are_calls A0 A1 A2 (some ad) A4 c0 c1 c2 c3 c4 code _ _ _ _ B cB y.f1 (some ⟨w5.heap.size, 0, none⟩) 1 [9] _ (Kd.C_below H0.out (below_alloc HB5.out _)) (Kd.C_below GC.out (below_alloc HB5.out _)) (C_new1 _ _ (by simp)) (by decide)).mono ?_
                rintro e w6 ⟨rfl, hb⟩
                have HB6 := Aside0.mk ((below_alloc HB5.out _).trans (hb.mono (by have := HB5.out.size; simp; omega)) : Below w.heap.size w w6)
                have HD6 := Aside0.mk (blk_below (blk_alloc HD5.out _) hb)
                clear hb
                generalize hb1 : areP code y.f1 [9] = b1 at T2 F2 ⊢
                cases b1 with
                | false =>
                  have F3 := Aside0.mk (F2.out rfl)
                  clear F2 T2 hb1
                  go_wp2_with fail
                  go_ret
                  exact ⟨ret_bool F3.out, HB6.out⟩
                | true =>
                  have T3 := Aside0.mk (T2.out rfl)
                  clear F2 T2 hb1
                  go_wp2_with fail
                  go_roundg (loops.length - (kk + 1))
                  case measure => omega
                  case rel => exact ⟨kk + 1, by omega, by omega, by go_num, HB6, HD6, T3⟩
            · have hltz : ¬ (kk : Int) < (loops.length : Int) := by omega
              have : kk = loops.length := by omega
              subst this
              rw [List.take_length] at A
              have R4 := Aside0.mk (show cases.all (caseP code) = r by have := R3.out; rw [A.out] at this; exact this)
              clear A R3
              have hd4 : wr.cell? ⟨w.heap.size, 4, none⟩ = some (.slice A4 cases.length c4) := (blk_cell HD.out 4).trans rfl
              go_wp2_with fail
              clear hd4 hltz hlt hg hkk hlen
              go_loopg [64] cases.length (fun gg s64 w2 => ∃ kk : Nat, kk ≤ cases.length ∧ cases.length - kk ≤ gg ∧ s64 = .int .i64 kk ∧ Aside0 (Below w.heap.size w w2) ∧ Aside0 (w2.heap[w.heap.size]? = some (.cells #[.slice A0 code.length c0, .slice A1 origs.length c1, .slice A2 dests.length c2, .slice A3 loops.length c3, .slice A4 cases.length c4] 26)) ∧ Aside0 ((cases.take kk).all (caseP code) = true))
              case atStart => exact ⟨0, Nat.zero_le _, by omega, rfl, HB, HD, ⟨rfl⟩⟩
              case round =>
                clear HB HD
                obtain ⟨kk, hkk, hg, rfl, HB, HD, A⟩ := hrel
                have hlen := H4.out.2.1
                by_cases hlt : kk < cases.length
                · have hltz : (kk : Int) < (cases.length : Int) := by omega
                  obtain ⟨ad, B, cB, e, g0, g1, hcB, gC⟩ := at_T59 H4.out (kk : Int) (by omega) hltz
                  cases e
                  rw [Int.toNat_natCast] at g0 g1
                  have g2 := (HB.out.cell (World.block_lt_of_cell? w _ g0)).trans g0
                  have g3 := (HB.out.cell (World.block_lt_of_cell? w _ g1)).trans g1
                  have hrd : cases[kk]? = some (rd_T59 cases (kk : Int)) := by simp [rd_T59, List.getD_eq_getElem?_getD, hlt]
                  generalize hy : rd_T59 cases (kk : Int) = y at g0 g1 g2 g3 hrd hcB gC
                  clear hy g0 g1
                  have GC := Aside0.mk gC
                  have hmem : y ∈ cases := List.mem_of_getElem? hrd
                  have T : Aside0 (caseP code y = true → (cases.take (kk + 1)).all (caseP code) = true) := ⟨fun hy => by
                    rw [List.take_add_one, hrd, List.all_append, A.out]
                    simpa using hy⟩
                  have F : Aside0 (caseP code y = false → false = r) := ⟨fun hy => by
                    have h2 : cases.all (caseP code) = false := List.all_eq_false.2 ⟨y, hmem, by simpa using hy⟩
                    rw [← R4.out, h2]⟩
                  clear hmem hrd A gC
                  have HD5 := Aside0.mk (blk_alloc HD.out (.cells #[.int .i64 y.f0, .slice B y.f1.length cB] 59))
                  have HY5 := Aside0.mk (blk_new wr (.cells #[.int .i64 y.f0, .slice B y.f1.length cB] 59))
                  have HB5 := Aside0.mk (below_alloc HB.out (.cells #[.int .i64 y.f0, .slice B y.f1.length cB] 59))
                  have hd0 := (blk_cell HD5.out 0).trans rfl
                  have hd1 := (blk_cell HD5.out 1).trans rfl
                  have hd2 := (blk_cell HD5.out 2).trans rfl
                  have hd3 := (blk_cell HD5.out 3).trans rfl
                  have hd4 := (blk_cell HD5.out 4).trans rfl
                  have hy1 := (blk_cell HY5.out 1).trans rfl
                  by_cases hm : y.f0 = -1
                  · have hb1 := hm
                    have hm1 : (y.f0 == -1) = true := beq_iff_eq.mpr hm
                    have hm2 : (y.f0 != -1) = false := bne_eq_false_iff_eq.mpr hm
                    clear hm
                    have T2 := Aside0.mk (show areP code y.f1 [3] = true → _ from fun h => T.out (by simp [caseP, hb1, h]))
                    have F2 := Aside0.mk (show areP code y.f1 [3] = false → _ from fun h => F.out (by simp [caseP, h]))
                    clear hb1 T F
                    go_wp2_with fail
                    refine (are_calls A0 A1 A2 A3 (some ad) c0 c1 c2 c3 c4 code _ _ _ _ B cB y.f1 (some ⟨wr.heap.size + 1, 0, none⟩) 1 [3] _ (Kd.C_below H0.out (below_alloc HB5.out _)) (Kd.C_below GC.out (below_alloc HB5.out _)) (C_new1 _ _ (by simp)) (by decide)).mono ?_
                    rintro e w6 ⟨rfl, hb⟩
                    have HB6 := Aside0.mk ((below_alloc HB5.out _).trans (hb.mono (by have := HB5.out.size; simp at this ⊢; omega)) : Below w.heap.size w w6)
                    have HD6 := Aside0.mk (blk_below (blk_alloc HD5.out _) hb)
                    clear hb
                    generalize hb1 : areP code y.f1 [3] = b1 at T2 F2 ⊢
                    cases b1 with
                    | false =>
                      have F3 := Aside0.mk (F2.out rfl)
                      clear F2 T2 hb1
                      go_wp2_with fail
                      go_ret
                      exact ⟨ret_bool F3.out, HB6.out⟩
                    | true =>
                      have T3 := Aside0.mk (T2.out rfl)
                      clear F2 T2 hb1
                      go_wp2_with fail
                      go_roundg (cases.length - (kk + 1))
                      case measure => omega
                      case rel => exact ⟨kk + 1, by omega, by omega, by go_num, HB6, HD6, T3⟩
                  · have hm1 : (y.f0 == -1) = false := beq_eq_false_iff_ne.mpr hm
                    have hm2 : (y.f0 != -1) = true := bne_iff_ne.mpr hm
                    have M := Aside0.mk hm
                    clear hm
                    go_wp2_with fail
                    refine (are_calls A0 A1 A2 A3 (some ad) c0 c1 c2 c3 c4 code _ _ _ _ _ 1 [y.f0] (some ⟨wr.heap.size + 1 + 1, 0, none⟩) 1 [10] _ (Kd.C_below H0.out (below_alloc (below_alloc HB5.out _) _)) (Kd.C_alloc (C_new1 _ _ (by simp)) _) (C_new1 _ 10 (by simp)) (by decide)).mono ?_
                    rintro e w5 ⟨rfl, hb⟩
                    replace HY5 := Aside0.mk (blk_below (blk_alloc (blk_alloc HY5.out _) _) hb)
                    replace HD5 := Aside0.mk (blk_below (blk_alloc (blk_alloc HD5.out _) _) hb)
                    replace HB5 := Aside0.mk ((below_alloc (below_alloc HB5.out _) _).trans (hb.mono (by have := HB.out.size; simp; omega)) : Below w.heap.size w w5)
                    clear hb hd0 hd1 hd2 hd3 hd4 hy1 g2 g3
                    have hx : areP code [y.f0] [10] = isOf code [10] y.f0 := by simp [areP]
                    rw [hx]
                    clear hx
                    have hd0 : w5.cell? ⟨w.heap.size, 0, none⟩ = some (.slice A0 code.length c0) := (blk_cell HD5.out 0).trans rfl
                    have hd1 : w5.cell? ⟨w.heap.size, 1, none⟩ = some (.slice A1 origs.length c1) := (blk_cell HD5.out 1).trans rfl
                    have hd2 : w5.cell? ⟨w.heap.size, 2, none⟩ = some (.slice A2 dests.length c2) := (blk_cell HD5.out 2).trans rfl
                    have hd3 : w5.cell? ⟨w.heap.size, 3, none⟩ = some (.slice A3 loops.length c3) := (blk_cell HD5.out 3).trans rfl
                    have hd4 : w5.cell? ⟨w.heap.size, 4, none⟩ = some (.slice (some ad) cases.length c4) := (blk_cell HD5.out 4).trans rfl
                    have hy1 : w5.cell? ⟨wr.heap.size, 1, none⟩ = some (.slice B y.f1.length cB) := (blk_cell HY5.out 1).trans rfl
                    generalize hb1 : isOf code [10] y.f0 = b1
                    cases b1 with
                    | false =>
                      have F2 := Aside0.mk (F.out (by have := M.out; simp [caseP, hb1, this]))
                      clear hb1
                      go_wp2_with fail
                      go_ret
                      exact ⟨ret_bool F2.out, HB5.out⟩
                    | true =>
                      have T2 := Aside0.mk (show areP code y.f1 [3] = true → _ from fun h => T.out (by simp [caseP, hb1, h]))
                      have F2 := Aside0.mk (show areP code y.f1 [3] = false → _ from fun h => F.out (by simp [caseP, h]))
                      clear hb1 T F
                      go_wp2_with fail
                      refine (are_calls A0 A1 A2 A3 (some ad) c0 c1 c2 c3 c4 code _ _ _ _ B cB y.f1 (some ⟨w5.heap.size, 0, none⟩) 1 [3] _ (Kd.C_below H0.out (below_alloc HB5.out _)) (Kd.C_below GC.out (below_alloc HB5.out _)) (C_new1 _ _ (by simp)) (by decide)).mono ?_
                      rintro e w6 ⟨rfl, hb⟩
                      have HB6 := Aside0.mk ((below_alloc HB5.out _).trans (hb.mono (by have := HB5.out.size; simp at this ⊢; omega)) : Below w.heap.size w w6)
                      have HD6 := Aside0.mk (blk_below (blk_alloc HD5.out _) hb)
                      clear hb
                      generalize hb1 : areP code y.f1 [3] = b1 at T2 F2 ⊢
                      cases b1 with
                      | false =>
                        have F3 := Aside0.mk (F2.out rfl)
                        clear F2 T2 hb1
                        go_wp2_with fail
                        go_ret
                        exact ⟨ret_bool F3.out, HB6.out⟩
                      | true =>
                        have T3 := Aside0.mk (T2.out rfl)
                        clear F2 T2 hb1
                        go_wp2_with fail
                        go_roundg (cases.length - (kk + 1))
                        case measure => omega
                        case rel => exact ⟨kk + 1, by omega, by omega, by go_num, HB6, HD6, T3⟩
                · have hltz : ¬ (kk : Int) < (cases.length : Int) := by omega
                  have : kk = cases.length := by omega
                  subst this
                  rw [List.take_length] at A
                  have R5 := Aside0.mk (R4.out.symm.trans A.out)
                  clear A R4
                  go_wp2_with fail
                  go_ret
                  exact ⟨ret_bool R5.out.symm, HB.out⟩
end Go.Proofs.Ytmglkgjnhoojaaa.PCodeRows
