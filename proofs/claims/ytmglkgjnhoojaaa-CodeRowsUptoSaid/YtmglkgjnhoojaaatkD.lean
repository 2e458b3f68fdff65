/- code.Formed walked. -/
import Derived.Test.YtmglkgjnhoojaaatkA
import Derived.Deep.DeepCutAuto
import Derived.Test.YtmglkgjnhoojaaatkB
namespace Go.Proofs.Ytmglkgjnhoojaaa.PCodeRows
open Go.RowKit Go.Proofs.YtmglkgjnhoojaaaW.PrintWords Go.Proofs.YtmglkgjnhoojaaaW.PrintLast Go.Proofs.YtmglkgjnhoojaaaW.PrintMore
set_option linter.unusedVariables false
set_option linter.unusedSimpArgs false
def destsP (code : List S37) (l : List Int) : Bool := l.all fun n => decide (0 ≤ n) && decide (n ≤ code.length)
def loopP (code : List S37) (x : S59) : Bool := isOf code [5, 6] x.f0 && areP code x.f1 [9]
def caseP (code : List S37) (x : S59) : Bool := (decide (x.f0 = -1) || isOf code [10] x.f0) && areP code x.f1 [3]
def formedP (code : List S37) (origs dests : List Int) (loops cases : List S59) : Bool :=
  decide (code.length ≤ 256) && (areP code origs [3, 4] && (destsP code dests && (loops.all (loopP code) && cases.all (caseP code))))
set_option maxHeartbeats 4000000 in
theorem formed_calls (A0 A1 A2 A3 A4 : Option Addr) (c0 c1 c2 c3 c4 : Nat) (code : List S37) (origs dests : List Int) (loops cases : List S59) (w : World)
    (h : DrC w A0 A1 A2 A3 A4 c0 c1 c2 c3 c4 code origs dests loops cases) :
    Calls Try.prog 12 #[drV A0 A1 A2 A3 A4 c0 c1 c2 c3 c4 code.length origs.length dests.length loops.length cases.length] w fun e w' => e = .returned (.bool (formedP code origs dests loops cases)) ∧ Below w.heap.size w w' := by
  obtain ⟨r, R0⟩ : ∃ r, formedP code origs dests loops cases = r := ⟨_, rfl⟩
  have R := Aside0.mk R0
  rw [R0]
  clear R0
  by_cases q0 : (256 : Int) < (code.length : Int)
  · have q1 := decide_eq_true q0
    have R1 := Aside0.mk (show 256 < code.length by omega)
    clear q0
    go_enter Try.func12, Try.ntmps12
    go_wp2_with fail
    go_ret
    exact ⟨ret_bool (by have := R1.out; rw [← R.out]; simp [formedP]; omega), below_alloc (Below.refl _ _) _⟩
  have q1 := decide_eq_false q0
  have R1 := Aside0.mk (show (areP code origs [3, 4] && (destsP code dests && (loops.all (loopP code) && cases.all (caseP code)))) = r by
    have : code.length ≤ 256 := by omega
    have h2 := R.out
    simpa [formedP, this] using h2)
  clear R q0
  have H0 := Aside0.mk h.r0
  have H1 := Aside0.mk h.r1
  have H2 := Aside0.mk h.r2
  have H3 := Aside0.mk h.r3
  have H4 := Aside0.mk h.r4
  clear h
  go_enter Try.func12, Try.ntmps12
  go_wp2_with fail
  · refine (are_calls A0 A1 A2 A3 A4 c0 c1 c2 c3 c4 code _ _ _ _ A1 c1 origs (some ⟨w.heap.size + 1, 0, none⟩) 2 [3, 4] _ (Kd.C_alloc (Kd.C_alloc H0.out _) _) (Kd.C_alloc (Kd.C_alloc H1.out _) _) (C_new2 _ 3 4 (by simp)) (by decide)).mono ?_
    rintro e w1 ⟨rfl, hb⟩
    have hd := blk_below (blk_alloc (blk_new w (.cells #[.slice A0 code.length c0, .slice A1 origs.length c1, .slice A2 dests.length c2, .slice A3 loops.length c3, .slice A4 cases.length c4] 26)) (.cells #[.int .i64 3, .int .i64 4] 3)) hb
    have HB := Aside0.mk ((below_alloc (below_alloc (Below.refl _ _) _) _).trans (hb.mono (by simp; omega)) : Below w.heap.size w w1)
    have HD := Aside0.mk hd
    have hd2 : w1.cell? ⟨w.heap.size, 2, none⟩ = some (.slice A2 dests.length c2) := (blk_cell hd 2).trans rfl
    clear hb hd
    generalize hb1 : areP code origs [3, 4] = b1 at R1 ⊢
    cases b1 with
    | false =>
      go_wp2
      go_ret
      exact ⟨ret_bool (by rw [← R1.out]; rfl), HB.out⟩
    | true =>
      clear hb1
      have R2 := Aside0.mk (show (destsP code dests && (loops.all (loopP code) && cases.all (caseP code))) = r from R1.out)
      clear R1
      go_wp2_with fail
      go_loopg [24] dests.length (fun gg s24 wr => ∃ kk : Nat, kk ≤ dests.length ∧ dests.length - kk ≤ gg ∧ s24 = .int .i64 kk ∧ Aside0 (Below w.heap.size w wr) ∧ Aside0 (wr.heap[w.heap.size]? = some (.cells #[.slice A0 code.length c0, .slice A1 origs.length c1, .slice A2 dests.length c2, .slice A3 loops.length c3, .slice A4 cases.length c4] 26)) ∧ Aside0 (destsP code (dests.take kk) = true))
      case atStart => exact ⟨0, Nat.zero_le _, by omega, rfl, HB, HD, ⟨rfl⟩⟩
      case round =>
        clear HB HD hd2
        have hlen := H2.out.2.1
        obtain ⟨kk, hkk, hg, rfl, HB, HD, A⟩ := hrel
        by_cases hlt : kk < dests.length
        · have hltz : (kk : Int) < (dests.length : Int) := by omega
          obtain ⟨ad, e, g0⟩ := Kd.at_int H2.out (kk : Int) (by omega) hltz
          cases e
          have g1 := (HB.out.cell (World.block_lt_of_cell? w _ g0)).trans g0
          rw [Int.toNat_natCast] at g1
          have hrd : dests[kk]? = some (rd dests (kk : Int)) := by simp [rd, List.getD_eq_getElem?_getD, hlt]
          have hd0 : wr.cell? ⟨w.heap.size, 0, none⟩ = some (.slice A0 code.length c0) := (blk_cell HD.out 0).trans rfl
          generalize hy : rd dests (kk : Int) = y at g0 g1 hrd
          clear hy g0
          have hmem : y ∈ dests := List.mem_of_getElem? hrd
          have T : Aside0 ((decide (0 ≤ y) && decide (y ≤ (code.length : Int))) = true → destsP code (dests.take (kk + 1)) = true) := ⟨fun hy => by
            have := A.out
            unfold destsP at this ⊢
            rw [List.take_add_one, hrd, List.all_append, this]
            simpa using hy⟩
          have F : Aside0 ((decide (0 ≤ y) && decide (y ≤ (code.length : Int))) = false → false = r) := ⟨fun hy => by
            have h2 : destsP code dests = false := by
              unfold destsP
              exact List.all_eq_false.2 ⟨y, hmem, by simpa using hy⟩
            rw [← R2.out, h2]
            rfl⟩
          clear hmem hrd A
          by_cases y0 : y < 0
          · have y1 := decide_eq_true y0
            have F2 := Aside0.mk (F.out (by simp; omega))
            clear F T R2
            go_wp2_with fail
            go_ret
            exact ⟨ret_bool F2.out, HB.out⟩
          have y1 := decide_eq_false y0
          by_cases y2 : (code.length : Int) < y
          · have y3 := decide_eq_true y2
            have F2 := Aside0.mk (F.out (by simp; omega))
            clear F T R2
            go_wp2_with fail
            go_ret
            exact ⟨ret_bool F2.out, HB.out⟩
          have y3 := decide_eq_false y2
          have T2 := Aside0.mk (T.out (by simp; omega))
          clear T F
          go_wp2_with fail
          go_roundg (dests.length - (kk + 1))
          case measure => omega
          case rel => exact ⟨kk + 1, by omega, by omega, by go_num, ⟨HB.out⟩, ⟨HD.out⟩, T2⟩
        · have hltz : ¬ (kk : Int) < (dests.length : Int) := by omega
          have : kk = dests.length := by omega
          subst this
          rw [List.take_length] at A
          have R3 := Aside0.mk (show (loops.all (loopP code) && cases.all (caseP code)) = r by have := R2.out; rw [A.out] at this; exact this)
          clear A R2
          have hd3 : wr.cell? ⟨w.heap.size, 3, none⟩ = some (.slice A3 loops.length c3) := (blk_cell HD.out 3).trans rfl
          go_wp2_with fail
          clear hd3 hltz hlt hg hkk hlen
          go_loopg [41] loops.length (fun gg s41 w2 => ∃ kk : Nat, kk ≤ loops.length ∧ loops.length - kk ≤ gg ∧ s41 = .int .i64 kk ∧ Aside0 (Below w.heap.size w w2) ∧ Aside0 (w2.heap[w.heap.size]? = some (.cells #[.slice A0 code.length c0, .slice A1 origs.length c1, .slice A2 dests.length c2, .slice A3 loops.length c3, .slice A4 cases.length c4] 26)) ∧ Aside0 ((loops.take kk).all (loopP code) = true))
          case atStart => exact ⟨0, Nat.zero_le _, by omega, rfl, HB, HD, ⟨rfl⟩⟩
          case round =>
            clear HB HD
            obtain ⟨kk, hkk, hg, rfl, HB, HD, A⟩ := hrel
            have hlen := H3.out.2.1
            by_cases hlt : kk < loops.length
            · have hltz : (kk : Int) < (loops.length : Int) := by omega
              obtain ⟨ad, B, cB, e, g0, g1, hcB, gC⟩ := at_T59 H3.out (kk : Int) (by omega) hltz
              cases e
              rw [Int.toNat_natCast] at g0 g1
              have g2 := (HB.out.cell (World.block_lt_of_cell? w _ g0)).trans g0
              have g3 := (HB.out.cell (World.block_lt_of_cell? w _ g1)).trans g1
              have hrd : loops[kk]? = some (rd_T59 loops (kk : Int)) := by simp [rd_T59, List.getD_eq_getElem?_getD, hlt]
              generalize hy : rd_T59 loops (kk : Int) = y at g0 g1 g2 g3 hrd hcB gC
              clear hy g0 g1
              have GC := Aside0.mk gC
              have hmem : y ∈ loops := List.mem_of_getElem? hrd
              have T : Aside0 (loopP code y = true → (loops.take (kk + 1)).all (loopP code) = true) := ⟨fun hy => by
                rw [List.take_add_one, hrd, List.all_append, A.out]
                simpa using hy⟩
              have F : Aside0 (loopP code y = false → false = r) := ⟨fun hy => by
                have h2 : loops.all (loopP code) = false := List.all_eq_false.2 ⟨y, hmem, by simpa using hy⟩
                rw [← R3.out, h2]
                rfl⟩
              clear hmem hrd A gC
              have HD1 := Aside0.mk (blk_alloc HD.out (.cells #[.int .i64 y.f0, .slice B y.f1.length cB] 59))
              obtain ⟨hd0, hd1, hd2, hd3, hd4⟩ := cells5 HD1.out
              go_wp2_with fail
              refine (are_calls A0 A1 A2 (some ad) A4 c0 c1 c2 c3 c4 code _ _ _ _ _ 1 [y.f0] (some ⟨wr.heap.size + 1 + 1, 0, none⟩) 2 [5, 6] _ (Kd.C_below H0.out (below_alloc (below_alloc (below_alloc HB.out _) _) _)) (Kd.C_alloc (C_new1 _ _ (by simp)) _) (C_new2 _ 5 6 (by simp)) (by decide)).mono ?_
              rintro e w5 ⟨rfl, hb⟩
              have HB5 := Aside0.mk ((below_alloc (below_alloc (below_alloc HB.out _) _) _).trans (hb.mono (by have := HB.out.size; simp; omega)) : Below w.heap.size w w5)
              have HD5 := Aside0.mk (blk_below (blk_alloc (blk_alloc HD1.out _) _) hb)
              have HY5 := Aside0.mk (blk_below (blk_alloc (blk_alloc (blk_new wr (.cells #[.int .i64 y.f0, .slice B y.f1.length cB] 59)) _) _) hb)
              clear hb hd0 hd1 hd2 hd3 hd4 HD1 g2 g3
              have hx : areP code [y.f0] [5, 6] = isOf code [5, 6] y.f0 := by simp [areP]
              rw [hx]
              clear hx
              obtain ⟨hd0, hd1, hd2, hd3, hd4⟩ := cells5 (show w5.heap[w.heap.size]? = some (.cells #[.slice A0 code.length c0, .slice A1 origs.length c1, .slice A2 dests.length c2, .slice (some ad) loops.length c3, .slice A4 cases.length c4] _ _) from HD5.out)
              have hy1 : w5.cell? ⟨wr.heap.size, 1, none⟩ = some (.slice B y.f1.length cB) := (blk_cell HY5.out 1).trans rfl
              generalize hb1 : isOf code [5, 6] y.f0 = b1
              cases b1 with
              | false =>
                have F2 := Aside0.mk (F.out (by simp [loopP, hb1]))
                clear hb1
                go_wp2_with fail
                go_ret
                exact ⟨ret_bool F2.out, HB5.out⟩
              | true =>
                have T2 := Aside0.mk (show areP code y.f1 [9] = true → _ from fun h => T.out (by simp [loopP, hb1, h]))
                have F2 := Aside0.mk (show areP code y.f1 [9] = false → _ from fun h => F.out (by simp [loopP, h]))
                clear hb1 T F
                go_wp2_with fail
                refine (are_calls A0 A1 A2 (some ad) A4 c0 c1 c2 c3 c4 code _ _ _ _ B cB y.f1 (some ⟨w5.heap.size, 0, none⟩) 1 [9] _ (Kd.C_below H0.out (below_alloc HB5.out _)) (Kd.C_below GC.out (below_alloc HB5.out _)) (C_new1 _ _ (by simp)) (by decide)).mono ?_
                rintro e w6 ⟨rfl, hb⟩
                have HB6 := Aside0.mk ((below_alloc HB5.out _).trans (hb.mono (by have := HB5.out.size; simp; omega)) : Below w.heap.size w w6)
                have HD6 := Aside0.mk (blk_below (blk_alloc HD5.out _) hb)
                clear hb
                generalize hb1 : areP code y.f1 [9] = b1 at T2 F2 ⊢
                cases b1 with
                | false =>
                  have F3 := Aside0.mk (F2.out rfl)
                  clear F2 T2 hb1
                  go_wp2_with fail
                  go_ret
                  exact ⟨ret_bool F3.out, HB6.out⟩
                | true =>
                  have T3 := Aside0.mk (T2.out rfl)
                  clear F2 T2 hb1
                  go_wp2_with fail
                  go_roundg (loops.length - (kk + 1))
                  case measure => omega
                  case rel => exact ⟨kk + 1, by omega, by omega, by go_num, HB6, HD6, T3⟩
            · have hltz : ¬ (kk : Int) < (loops.length : Int) := by omega
              have : kk = loops.length := by omega
              subst this
              rw [List.take_length] at A
              have R4 := Aside0.mk (show cases.all (caseP code) = r by have := R3.out; rw [A.out] at this; exact this)
              clear A R3
              have hd4 : wr.cell? ⟨w.heap.size, 4, none⟩ = some (.slice A4 cases.length c4) := (blk_cell HD.out 4).trans rfl
              go_wp2_with fail
              clear hd4 hltz hlt hg hkk hlen
              go_loopg [64] cases.length (fun gg s64 w2 => ∃ kk : Nat, kk ≤ cases.length ∧ cases.length - kk ≤ gg ∧ s64 = .int .i64 kk ∧ Aside0 (Below w.heap.size w w2) ∧ Aside0 (w2.heap[w.heap.size]? = some (.cells #[.slice A0 code.length c0, .slice A1 origs.length c1, .slice A2 dests.length c2, .slice A3 loops.length c3, .slice A4 cases.length c4] 26)) ∧ Aside0 ((cases.take kk).all (caseP code) = true))
              case atStart => exact ⟨0, Nat.zero_le _, by omega, rfl, HB, HD, ⟨rfl⟩⟩
              case round =>
                clear HB HD
                obtain ⟨kk, hkk, hg, rfl, HB, HD, A⟩ := hrel
                have hlen := H4.out.2.1
                by_cases hlt : kk < cases.length
                · have hltz : (kk : Int) < (cases.length : Int) := by omega
                  obtain ⟨ad, B, cB, e, g0, g1, hcB, gC⟩ := at_T59 H4.out (kk : Int) (by omega) hltz
                  cases e
                  rw [Int.toNat_natCast] at g0 g1
                  have g2 := (HB.out.cell (World.block_lt_of_cell? w _ g0)).trans g0
                  have g3 := (HB.out.cell (World.block_lt_of_cell? w _ g1)).trans g1
                  have hrd : cases[kk]? = some (rd_T59 cases (kk : Int)) := by simp [rd_T59, List.getD_eq_getElem?_getD, hlt]
                  generalize hy : rd_T59 cases (kk : Int) = y at g0 g1 g2 g3 hrd hcB gC
                  clear hy g0 g1
                  have GC := Aside0.mk gC
                  have hmem : y ∈ cases := List.mem_of_getElem? hrd
                  have T : Aside0 (caseP code y = true → (cases.take (kk + 1)).all (caseP code) = true) := ⟨fun hy => by
                    rw [List.take_add_one, hrd, List.all_append, A.out]
                    simpa using hy⟩
                  have F : Aside0 (caseP code y = false → false = r) := ⟨fun hy => by
                    have h2 : cases.all (caseP code) = false := List.all_eq_false.2 ⟨y, hmem, by simpa using hy⟩
                    rw [← R4.out, h2]⟩
                  clear hmem hrd A gC
                  have HD5 := Aside0.mk (blk_alloc HD.out (.cells #[.int .i64 y.f0, .slice B y.f1.length cB] 59))
                  have HY5 := Aside0.mk (blk_new wr (.cells #[.int .i64 y.f0, .slice B y.f1.length cB] 59))
                  have HB5 := Aside0.mk (below_alloc HB.out (.cells #[.int .i64 y.f0, .slice B y.f1.length cB] 59))
                  obtain ⟨hd0, hd1, hd2, hd3, hd4⟩ := cells5 HD5.out
                  have hy1 := (blk_cell HY5.out 1).trans rfl
                  by_cases hm : y.f0 = -1
                  · have hb1 := hm
                    have hm1 : (y.f0 == -1) = true := beq_iff_eq.mpr hm
                    have hm2 : (y.f0 != -1) = false := bne_eq_false_iff_eq.mpr hm
                    clear hm
                    have T2 := Aside0.mk (show areP code y.f1 [3] = true → _ from fun h => T.out (by simp [caseP, hb1, h]))
                    have F2 := Aside0.mk (show areP code y.f1 [3] = false → _ from fun h => F.out (by simp [caseP, h]))
                    clear hb1 T F
                    go_wp2_with fail
                    refine (are_calls A0 A1 A2 A3 (some ad) c0 c1 c2 c3 c4 code _ _ _ _ B cB y.f1 (some ⟨wr.heap.size + 1, 0, none⟩) 1 [3] _ (Kd.C_below H0.out (below_alloc HB5.out _)) (Kd.C_below GC.out (below_alloc HB5.out _)) (C_new1 _ _ (by simp)) (by decide)).mono ?_
                    rintro e w6 ⟨rfl, hb⟩
                    have HB6 := Aside0.mk ((below_alloc HB5.out _).trans (hb.mono (by have := HB5.out.size; simp at this ⊢; omega)) : Below w.heap.size w w6)
                    have HD6 := Aside0.mk (blk_below (blk_alloc HD5.out _) hb)
                    clear hb
                    generalize hb1 : areP code y.f1 [3] = b1 at T2 F2 ⊢
                    cases b1 with
                    | false =>
                      have F3 := Aside0.mk (F2.out rfl)
                      clear F2 T2 hb1
                      go_wp2_with fail
                      go_ret
                      exact ⟨ret_bool F3.out, HB6.out⟩
                    | true =>
                      have T3 := Aside0.mk (T2.out rfl)
                      clear F2 T2 hb1
                      go_wp2_with fail
                      go_roundg (cases.length - (kk + 1))
                      case measure => omega
                      case rel => exact ⟨kk + 1, by omega, by omega, by go_num, HB6, HD6, T3⟩
                  · have hm1 : (y.f0 == -1) = false := beq_eq_false_iff_ne.mpr hm
                    have hm2 : (y.f0 != -1) = true := bne_iff_ne.mpr hm
                    have M := Aside0.mk hm
                    clear hm
                    go_wp2_with fail
                    refine (are_calls A0 A1 A2 A3 (some ad) c0 c1 c2 c3 c4 code _ _ _ _ _ 1 [y.f0] (some ⟨wr.heap.size + 1 + 1, 0, none⟩) 1 [10] _ (Kd.C_below H0.out (below_alloc (below_alloc HB5.out _) _)) (Kd.C_alloc (C_new1 _ _ (by simp)) _) (C_new1 _ 10 (by simp)) (by decide)).mono ?_
                    rintro e w5 ⟨rfl, hb⟩
                    replace HY5 := Aside0.mk (blk_below (blk_alloc (blk_alloc HY5.out _) _) hb)
                    replace HD5 := Aside0.mk (blk_below (blk_alloc (blk_alloc HD5.out _) _) hb)
                    replace HB5 := Aside0.mk ((below_alloc (below_alloc HB5.out _) _).trans (hb.mono (by have := HB.out.size; simp; omega)) : Below w.heap.size w w5)
                    clear hb hd0 hd1 hd2 hd3 hd4 hy1 g2 g3
                    have hx : areP code [y.f0] [10] = isOf code [10] y.f0 := by simp [areP]
                    rw [hx]
                    clear hx
                    obtain ⟨hd0, hd1, hd2, hd3, hd4⟩ := cells5 (show w5.heap[w.heap.size]? = some (.cells #[.slice A0 code.length c0, .slice A1 origs.length c1, .slice A2 dests.length c2, .slice A3 loops.length c3, .slice (some ad) cases.length c4] _ _) from HD5.out)
                    have hy1 : w5.cell? ⟨wr.heap.size, 1, none⟩ = some (.slice B y.f1.length cB) := (blk_cell HY5.out 1).trans rfl
                    generalize hb1 : isOf code [10] y.f0 = b1
                    cases b1 with
                    | false =>
                      have F2 := Aside0.mk (F.out (by have := M.out; simp [caseP, hb1, this]))
                      clear hb1
                      go_wp2_with fail
                      go_ret
                      exact ⟨ret_bool F2.out, HB5.out⟩
                    | true =>
                      have T2 := Aside0.mk (show areP code y.f1 [3] = true → _ from fun h => T.out (by simp [caseP, hb1, h]))
                      have F2 := Aside0.mk (show areP code y.f1 [3] = false → _ from fun h => F.out (by simp [caseP, h]))
                      clear hb1 T F
                      go_wp2_with fail
                      refine (are_calls A0 A1 A2 A3 (some ad) c0 c1 c2 c3 c4 code _ _ _ _ B cB y.f1 (some ⟨w5.heap.size, 0, none⟩) 1 [3] _ (Kd.C_below H0.out (below_alloc HB5.out _)) (Kd.C_below GC.out (below_alloc HB5.out _)) (C_new1 _ _ (by simp)) (by decide)).mono ?_
                      rintro e w6 ⟨rfl, hb⟩
                      have HB6 := Aside0.mk ((below_alloc HB5.out _).trans (hb.mono (by have := HB5.out.size; simp at this ⊢; omega)) : Below w.heap.size w w6)
                      have HD6 := Aside0.mk (blk_below (blk_alloc HD5.out _) hb)
                      clear hb
                      generalize hb1 : areP code y.f1 [3] = b1 at T2 F2 ⊢
                      cases b1 with
                      | false =>
                        have F3 := Aside0.mk (F2.out rfl)
                        clear F2 T2 hb1
                        go_wp2_with fail
                        go_ret
                        exact ⟨ret_bool F3.out, HB6.out⟩
                      | true =>
                        have T3 := Aside0.mk (T2.out rfl)
                        clear F2 T2 hb1
                        go_wp2_with fail
                        go_roundg (cases.length - (kk + 1))
                        case measure => omega
                        case rel => exact ⟨kk + 1, by omega, by omega, by go_num, HB6, HD6, T3⟩
                · have hltz : ¬ (kk : Int) < (cases.length : Int) := by omega
                  have : kk = cases.length := by omega
                  subst this
                  rw [List.take_length] at A
                  have R5 := Aside0.mk (R4.out.symm.trans A.out)
                  clear A R4
                  go_wp2_with fail
                  go_ret
                  exact ⟨ret_bool R5.out.symm, HB.out⟩
end Go.Proofs.Ytmglkgjnhoojaaa.PCodeRows
/- opens (38): a row of open ones, each with outs of its own. -/
namespace Go.Proofs.Ytmglkgjnhoojaaa.PCodeRows
open Go.RowKit Go.Proofs.YtmglkgjnhoojaaaW.PrintWords Go.Proofs.YtmglkgjnhoojaaaW.PrintLast Go.Proofs.YtmglkgjnhoojaaaW.PrintMore
set_option linter.unusedVariables false
set_option linter.unusedSimpArgs false
/-- The row as cells: up to i with outs of one's own, from i on with those that came in. -/
structure OpI (w W : World) (v : Value) (l : List S59) (i : Nat) (own : Nat → Nat) (rows : List (List Value)) : Prop where
  hr : (Kd.raw 2).R 59 W w.heap.size (fun _ => True) v rows
  hn : rows.length = l.length
  hold : ∀ j x, l[j]? = some x → j < i → ∃ u, rows[j]? = some [.int .i64 x.f0, u] ∧ Kd.R (Kd.int .i64) 3 W w.heap.size (fun k => own k = j) u x.f1
  hnew : ∀ j x, l[j]? = some x → ¬ j < i → ∃ A c, rows[j]? = some [.int .i64 x.f0, .slice A x.f1.length c] ∧ x.f1.length ≤ c ∧ Kd.C (Kd.int .i64) w A x.f1.length x.f1
  hb : Below w.heap.size w W
theorem opi_start {w W : World} {v : Value} {l : List S59} (h : Cloned k59 59 l w v W) (hC : Kd.C k59 w none 0 [] → True) : ∃ rows, OpI w W v l 0 (fun _ => 0) rows := by
  obtain ⟨⟨inner, ho, hr⟩, hb⟩ := h
  have hsz : k59.sz = 2 := rfl
  have hsr : (Kd.raw 2).sz = 2 := rfl
  have hrl := hr.1
  rw [hsz] at hrl
  refine ⟨(List.range l.length).map fun j => (inner.drop (j * 2)).take 2, ⟨⟨fun _ _ => trivial, inner, ?_, ?_⟩, by simp, fun j x _ hj => by omega, fun j x hj _ => ?_, hb⟩⟩
  · rw [hsr]; rw [hsz] at ho; simpa using ho
  · rw [hsr]
    refine ⟨by simpa using hrl, fun j p hj => ?_⟩
    obtain ⟨hjl, rfl⟩ : j < l.length ∧ (inner.drop (j * 2)).take 2 = p := by
      rw [List.getElem?_map] at hj
      obtain ⟨m, hm, rfl⟩ := Option.map_eq_some_iff.1 hj
      obtain ⟨h1, h2⟩ := List.getElem?_eq_some_iff.1 hm
      simp at h1 h2
      subst h2
      exact ⟨h1, rfl⟩
    refine ⟨rfl, by simp; omega, ?_⟩
    have hk := hr.2 j _ (List.getElem?_eq_getElem hjl)
    exact k59.K_one hk
  · have hk := hr.2 j x hj
    obtain ⟨A1, c1, e, h1, h2⟩ := k59_open hk
    have hjl : j < l.length := by
      by_cases h : j < l.length
      · exact h
      · rw [List.getElem?_eq_none (by omega)] at hj; cases hj
    refine ⟨A1, c1, ?_, h1, h2⟩
    rw [List.getElem?_map, List.getElem?_range hjl]
    exact congrArg some e
theorem opi_end {w W : World} {v : Value} {l : List S59} {own : Nat → Nat} {rows : List (List Value)} (h : OpI w W v l l.length own rows) : Kd.S k59 59 W w.heap.size (fun _ => True) v l := by
  have hsr : (Kd.raw 2).sz = 2 := rfl
  have htv := Kd.R_typed h.hr
  obtain ⟨_, inner, ho, hr⟩ := h.hr
  rw [hsr] at ho hr
  refine ⟨own, fun _ _ => trivial, inner, ?_, ?_⟩
  · show W.ownsRow w.heap.size 59 2 v l.zipIdx.length inner
    rw [List.length_zipIdx, ← h.hn]; exact ho
  · refine ⟨?_, fun j p hj => ?_⟩
    · show inner.length = l.zipIdx.length * 2
      rw [List.length_zipIdx, ← h.hn]; exact hr.1
    · rw [List.getElem?_zipIdx, Nat.zero_add] at hj
      obtain ⟨x, hx, rfl⟩ := Option.map_eq_some_iff.1 hj
      have hjl : j < l.length := by
        by_cases h : j < l.length
        · exact h
        · rw [List.getElem?_eq_none (by omega)] at hx; cases hx
      obtain ⟨u, hu, hR⟩ := h.hold j x hx hjl
      have hm := (hr.2 j _ hu).1
      show k59.M W w.heap.size (fun k => (True ∧ some k ≠ v.ownBlock) ∧ own k = j) x ((inner.drop (j * 2)).take 2)
      rw [hm]
      refine k59_mkM W w.heap.size _ x (Kd.R_mono (Kd.R_bound hR) (fun k hk => ⟨⟨trivial, fun he => ?_⟩, hk.1⟩))
      obtain ⟨c1, h1⟩ := htv k he.symm
      obtain ⟨q, hq, c2, h2⟩ := hk.2.2.2
      rw [E3] at hq
      simp at hq
      subst hq
      have := h1.symm.trans h2
      injection this with this
      injection this with _ h3
      exact absurd h3 (by decide)
theorem opi_step {w W W2 : World} {g n cap i : Nat} {v' : Value} {l : List S59} {own : Nat → Nat} {rows : List (List Value)} {x : S59} (h : OpI w W (.slice (some ⟨g, 0, none⟩) n cap) l i own rows) (hx : l[i]? = some x) (hC : Cloned (Kd.int .i64) 3 x.f1 W v' W2) :
    OpI w (W2.setCell ⟨g, i * 2 + 1, none⟩ v') (.slice (some ⟨g, 0, none⟩) n cap) l (i + 1) (new_ W own i) (rows.set i [.int .i64 x.f0, v']) := by
  have hsr : (Kd.raw 2).sz = 2 := rfl
  obtain ⟨hO, hB⟩ := hC
  have hil : i < l.length := by
    by_cases h : i < l.length
    · exact h
    · rw [List.getElem?_eq_none (by omega)] at hx; cases hx
  have hRn : (Kd.int .i64).R 3 W2 W.heap.size (fun _ => True) v' x.f1 := ⟨fun _ _ => trivial, hO.imp_ (fun p c hp => hp)⟩
  obtain ⟨Av, cv, rfl⟩ := Kd.R_slice hRn
  obtain ⟨A0, c0, hrow, _, _⟩ := h.hnew i x hx (by omega)
  have h2 := Kd.R_below h.hr hB
  have hnl : n = rows.length := (Kd.R_reads' h2).1
  have hin : (i : Int) < (n : Int) := by rw [hnl, h.hn]; omega
  obtain ⟨c, hcl, hM, hcc, hfr⟩ := Kd.R_elem h2 [] (i : Int) (by omega) hin
  have hc : c = [.int .i64 x.f0, .slice A0 x.f1.length c0] := by
    have := hM.1
    rw [this, Int.toNat_natCast, List.getD_eq_getElem?_getD, hrow]
    rfl
  subst hc
  have hseg := Kd.R_seg h2 (i : Int) (by omega) hin (seg := [.slice Av x.f1.length cv]) (j := 1) hcl hcc (by rw [hsr]; simp) (x' := [.int .i64 x.f0, .slice Av x.f1.length cv]) (okp := fun _ => False) ⟨rfl, rfl, by intro u hu; simp at hu; rcases hu with rfl | rfl <;> rfl⟩ (fun _ h => h.elim)
  rw [Int.toNat_natCast] at hseg
  obtain ⟨cells, htg⟩ := Kd.R_typed h2 g rfl
  have hbg := Kd.R_base h2 g rfl
  refine ⟨hseg.1, by rw [List.length_set]; exact h.hn, fun j y hy hj => ?_, fun j y hy hj => ?_, ?_⟩
  · by_cases hji : j = i
    · subst hji
      rw [hx] at hy
      injection hy with hy
      subst hy
      refine ⟨_, by rw [List.getElem?_set_self (by rw [h.hn]; exact hil)], Kd.R_set ?_ htg (by decide) _ _⟩
      exact Kd.R_lower (Kd.R_mono (Kd.R_bound hRn) (fun k hk => new_new hk.2.1)) h.hb.size
    · obtain ⟨u, hu, hR⟩ := h.hold j y hy (by omega)
      refine ⟨u, by rw [List.getElem?_set_ne (by omega)]; exact hu, Kd.R_set (Kd.R_below (R_lt_mono hR (fun k hk hl => new_old hk hl)) hB) htg (by decide) _ _⟩
  · obtain ⟨A, c, hu, h3, h4⟩ := h.hnew j y hy (by omega)
    exact ⟨A, c, by rw [List.getElem?_set_ne (by omega)]; exact hu, h3, h4⟩
  · exact (below_step h.hb hB).setCell hbg _
set_option maxHeartbeats 2000000 in
theorem opens_calls (A : Option Addr) (c : Nat) (l : List S59) (w : World) (hr : Kd.C k59 w A l.length l) (hb : l.length * 32 ≤ 140737488355328) (hb2 : ∀ x ∈ l, x.f1.length * 8 ≤ 140737488355328) :
    Calls Try.prog 38 #[.slice A l.length c] w fun e w' => ∃ v, e = .returned v ∧ Kd.S k59 59 w' w.heap.size (fun _ => True) v l ∧ Below w.heap.size w w' := by
  have hlen := hr.2.1
  go_enter Try.func38, Try.ntmps38
  go_wp2_with fail
  refine (clone45_calls A c l w hr hb).mono ?_
  rintro e w1 ⟨v, rfl, hCl⟩
  obtain ⟨rows0, h0⟩ := opi_start hCl (fun _ => trivial)
  obtain ⟨A1, c1, rfl⟩ := Kd.R_slice h0.hr
  rw [h0.hn] at h0 ⊢
  clear hCl
  go_wp2_with fail
  go_loopg [8] l.length (fun gg s8 wr => ∃ (kk : Nat) (own : Nat → Nat) (rows : List (List Value)), kk ≤ l.length ∧ l.length - kk ≤ gg ∧ s8 = .int .i64 kk ∧ Aside0 (OpI w wr (.slice A1 l.length c1) l kk own rows))
  case atStart => exact ⟨0, _, _, Nat.zero_le _, by omega, rfl, ⟨h0⟩⟩
  case round =>
    obtain ⟨kk, own, rows, hkk, hg, rfl, HI⟩ := hrel
    by_cases hlt : kk < l.length
    · have hltz : (kk : Int) < (l.length : Int) := by omega
      have hx : l[kk]? = some (l[kk]'hlt) := List.getElem?_eq_getElem hlt
      have hxm : l[kk]'hlt ∈ l := List.getElem_mem hlt
      generalize l[kk]'hlt = x at hx hxm
      obtain ⟨g, rfl⟩ : ∃ g, A1 = some ⟨g, 0, none⟩ := by
        cases A1 with
        | none =>
          obtain ⟨_, _, hC⟩ := Kd.R_reads' HI.out.hr
          obtain ⟨ad', e', _⟩ := hC.2.2 (by rw [HI.out.hn]; omega)
          cases e'
        | some a =>
          obtain ⟨g, e⟩ := Kd.R_head HI.out.hr
          exact ⟨g, by rw [e]⟩
      obtain ⟨A0, c0, hrow, hc0, hC0⟩ := HI.out.hnew kk x hx (by omega)
      obtain ⟨cc, hcl2, hM, hcc, hfr⟩ := Kd.R_elem HI.out.hr [] (kk : Int) (by omega) hltz
      have hz : cc = [.int .i64 x.f0, .slice A0 x.f1.length c0] := by
        have := hM.1
        rw [this, Int.toNat_natCast, List.getD_eq_getElem?_getD, hrow]
        rfl
      subst hz
      have hc1 : wr.cell? ⟨g, kk * 2 + 1, none⟩ = some (.slice A0 x.f1.length c0) := by
        have := hcc 1 _ rfl
        rw [Int.toNat_natCast] at this
        exact this
      have p0 : (0 ≤ (kk : Int)) = True := eq_true (by omega)
      have p1 : ((kk : Int) < (l.length : Int)) = True := eq_true hltz
      have hCw : Kd.C (Kd.int .i64) wr A0 x.f1.length x.f1 := Kd.C_below hC0 HI.out.hb
      clear hcc hfr hM hrow hC0
      go_wp2_with fail
      refine (clone37_calls A0 c0 x.f1 wr hCw (hb2 x hxm)).mono ?_
      rintro e w2 ⟨v', rfl, hCl2⟩
      have h' := opi_step HI.out hx hCl2
      obtain ⟨cells, htg⟩ := Kd.R_typed (Kd.R_below HI.out.hr hCl2.2) g rfl
      have hfz : w2.frozen? ⟨g, kk * 2 + 1, none⟩ = false := blk_frozen htg _
      have hc2 : w2.cell? ⟨g, kk * 2 + 1, none⟩ = some (.slice A0 x.f1.length c0) := pw_cell_below hCl2.2 hc1
      obtain ⟨Av, cv, rfl, _⟩ := hCl2.1.slice_
      clear hc1 hCw hCl2 htg h0
      go_wp2_with fail
      go_roundg (l.length - (kk + 1))
      case measure => omega
      case rel => exact ⟨kk + 1, _, _, by omega, by omega, by go_num, ⟨h'⟩⟩
    · have hltz : ¬ (kk : Int) < (l.length : Int) := by omega
      have : kk = l.length := by omega
      subst this
      clear h0
      go_wp2_with fail
      exact bodyPost_ret (v := .slice A1 l.length c1) (by simp [results, Try.results38, go_sem]) rfl ⟨_, rfl, opi_end HI.out, HI.out.hb⟩
end Go.Proofs.Ytmglkgjnhoojaaa.PCodeRows
/- copied (22): a draft with rows of its own. -/
namespace Go.Proofs.Ytmglkgjnhoojaaa.PCodeRows
open Go.RowKit Go.Proofs.YtmglkgjnhoojaaaW.PrintWords Go.Proofs.YtmglkgjnhoojaaaW.PrintLast Go.Proofs.YtmglkgjnhoojaaaW.PrintMore
set_option linter.unusedVariables false
set_option linter.unusedSimpArgs false
theorem cloned_R {w w' : World} {v : Value} {l : List Int} {o : Nat → Nat} {i : Nat} (h : Cloned (Kd.int .i64) 3 l w v w') : Kd.R (Kd.int .i64) 3 w' w.heap.size (fun k => new_ w o i k = i) v l := by
  have h1 : Kd.R (Kd.int .i64) 3 w' w.heap.size (fun _ => True) v l := ⟨fun _ _ => trivial, h.1.imp_ (fun p c hp => hp)⟩
  exact Kd.R_mono (Kd.R_bound h1) (fun k hk => new_new hk.2.1)
theorem cloned_R37 {w w' : World} {v : Value} {l : List S37} (h : Cloned k37 37 l w v w') : Kd.R k37 37 w' w.heap.size (fun _ => True) v l :=
  ⟨fun _ _ => trivial, h.1.imp_ (fun p c hp => by have := k37_open hp; subst this; exact k37_mkM _ _ _ p)⟩
/-- What a draft asks to be copied. -/
structure Small (code : List S37) (origs dests : List Int) (loops cases : List S59) : Prop where
  s0 : code.length * 16 ≤ 140737488355328
  s1 : origs.length * 8 ≤ 140737488355328
  s2 : dests.length * 8 ≤ 140737488355328
  s3 : loops.length * 32 ≤ 140737488355328
  s4 : cases.length * 32 ≤ 140737488355328
  s5 : ∀ x ∈ loops, x.f1.length * 8 ≤ 140737488355328
  s6 : ∀ x ∈ cases, x.f1.length * 8 ≤ 140737488355328
theorem n26a {q : Nat} (h : q ∈ 37 :: k37.E) : q ≠ 26 := by
  have : k37.E = [] := rfl
  rw [this] at h; simp at h; omega
theorem n26b {q : Nat} (h : q ∈ 3 :: (Kd.int .i64).E) : q ≠ 26 := by have := q3 h; omega
theorem n26c {q : Nat} (h : q ∈ 59 :: k59.E) : q ≠ 26 := by have := q59 h; omega
/-- The first three rows of a copy. -/
structure C3 (w : World) (base : Nat) (v0 v1 v2 : Value) (o : Nat → Nat) (code : List S37) (origs dests : List Int) : Prop where
  hc : Kd.R k37 37 w base (fun _ => True) v0 code
  ho : Kd.R (Kd.int .i64) 3 w base (fun k => o k = 1) v1 origs
  hd : Kd.R (Kd.int .i64) 3 w base (fun k => o k = 2) v2 dests
theorem C3.below {w w1 : World} {base : Nat} {v0 v1 v2 : Value} {o : Nat → Nat} {code : List S37} {origs dests : List Int} (h : C3 w base v0 v1 v2 o code origs dests) (hb : Below w.heap.size w w1) (i : Nat) (hi : 2 < i) : C3 w1 base v0 v1 v2 (new_ w o i) code origs dests :=
  ⟨Kd.R_below h.hc hb, Kd.R_below (R_lt_mono h.ho (fun k hk hl => new_old hk hl)) hb, Kd.R_below (R_lt_mono h.hd (fun k hk hl => new_old hk hl)) hb⟩
theorem C3.set {w : World} {base g : Nat} {v0 v1 v2 : Value} {o : Nat → Nat} {code : List S37} {origs dests : List Int} {cs : Array Value} (h : C3 w base v0 v1 v2 o code origs dests) (hb : w.heap[g]? = some (.cells cs 26 (0, 0))) (j : Nat) (u : Value) : C3 (w.setCell ⟨g, j, none⟩ u) base v0 v1 v2 o code origs dests :=
  ⟨Kd.R_set h.hc hb (fun q hq => n26a hq) j u, Kd.R_set h.ho hb (fun q hq => n26b hq) j u, Kd.R_set h.hd hb (fun q hq => n26b hq) j u⟩
/-- The five rows of a copy. -/
structure C5 (w : World) (base : Nat) (v0 v1 v2 v3 v4 : Value) (o : Nat → Nat) (code : List S37) (origs dests : List Int) (loops cases : List S59) : Prop where
  c3 : C3 w base v0 v1 v2 o code origs dests
  hl : Kd.S k59 59 w base (fun k => o k = 3) v3 loops
  hs : Kd.S k59 59 w base (fun k => o k = 4) v4 cases
theorem C5.set {w : World} {base g : Nat} {v0 v1 v2 v3 v4 : Value} {o : Nat → Nat} {code : List S37} {origs dests : List Int} {loops cases : List S59} {cs : Array Value} (h : C5 w base v0 v1 v2 v3 v4 o code origs dests loops cases) (hb : w.heap[g]? = some (.cells cs 26 (0, 0))) (j : Nat) (u : Value) : C5 (w.setCell ⟨g, j, none⟩ u) base v0 v1 v2 v3 v4 o code origs dests loops cases :=
  ⟨h.c3.set hb j u, Kd.S_set h.hl hb (fun q hq => n26c hq) j u, Kd.S_set h.hs hb (fun q hq => n26c hq) j u⟩
set_option maxHeartbeats 4000000 in
theorem copied_calls (A0 A1 A2 A3 A4 : Option Addr) (c0 c1 c2 c3 c4 : Nat) (code : List S37) (origs dests : List Int) (loops cases : List S59) (w : World) (h : DrC w A0 A1 A2 A3 A4 c0 c1 c2 c3 c4 code origs dests loops cases) (hs : Small code origs dests loops cases) :
    Calls Try.prog 22 #[drV A0 A1 A2 A3 A4 c0 c1 c2 c3 c4 code.length origs.length dests.length loops.length cases.length] w fun e w' => ∃ (v0 v1 v2 v3 v4 : Value) (o : Nat → Nat), e = .returned (.agg #[v0, v1, v2, v3, v4]) ∧ C5 w' w.heap.size v0 v1 v2 v3 v4 o code origs dests loops cases ∧ Below w.heap.size w w' := by
  go_enter Try.func22, Try.ntmps22
  go_wp2_with fail
  have hsz : (w.alloc (.cells #[.slice A0 code.length c0, .slice A1 origs.length c1, .slice A2 dests.length c2, .slice A3 loops.length c3, .slice A4 cases.length c4] 26)).heap.size = w.heap.size + 1 := by simp
  have HD0 := blk_alloc (blk_new w (.cells #[.slice A0 code.length c0, .slice A1 origs.length c1, .slice A2 dests.length c2, .slice A3 loops.length c3, .slice A4 cases.length c4] 26)) (.cells #[.slice none 0 0, .slice none 0 0, .slice none 0 0, .slice none 0 0, .slice none 0 0] 26)
  have HR0 := blk_new (w.alloc (.cells #[.slice A0 code.length c0, .slice A1 origs.length c1, .slice A2 dests.length c2, .slice A3 loops.length c3, .slice A4 cases.length c4] 26)) (.cells #[.slice none 0 0, .slice none 0 0, .slice none 0 0, .slice none 0 0, .slice none 0 0] 26)
  rw [hsz] at HR0
  have HB0 := below_alloc (below_alloc (Below.refl w.heap.size w) (.cells #[.slice A0 code.length c0, .slice A1 origs.length c1, .slice A2 dests.length c2, .slice A3 loops.length c3, .slice A4 cases.length c4] 26)) (.cells #[.slice none 0 0, .slice none 0 0, .slice none 0 0, .slice none 0 0, .slice none 0 0] 26)
  clear hsz
  generalize (w.alloc (.cells #[.slice A0 code.length c0, .slice A1 origs.length c1, .slice A2 dests.length c2, .slice A3 loops.length c3, .slice A4 cases.length c4] 26)).alloc (.cells #[.slice none 0 0, .slice none 0 0, .slice none 0 0, .slice none 0 0, .slice none 0 0] 26) = wq at HD0 HR0 HB0 ⊢
  have hdr : w.heap.size ≠ w.heap.size + 1 := by omega
  have hdd : w.heap.size ≤ w.heap.size := Nat.le_refl _
  have hrr : w.heap.size ≤ w.heap.size + 1 := by omega
  have HH := Aside0.mk h
  have HSM := Aside0.mk hs
  clear h hs
  generalize hdw : w.heap.size = base at HB0 hdd hrr hdr ⊢
  rw [hdw] at HD0 HR0
  generalize hrw : base + 1 = rr at HR0 hrr hdr ⊢
  have hS : wq.cell? ⟨base, 0, none⟩ = some (.slice A0 code.length c0) ∧ wq.cell? ⟨base, 1, none⟩ = some (.slice A1 origs.length c1) ∧ wq.cell? ⟨base, 2, none⟩ = some (.slice A2 dests.length c2) := ⟨(blk_cell HD0 0).trans rfl, (blk_cell HD0 1).trans rfl, (blk_cell HD0 2).trans rfl⟩
  refine start_ (n := 15) (S := fun w' => w'.cell? ⟨base, 0, none⟩ = some (.slice A0 code.length c0) ∧ w'.cell? ⟨base, 1, none⟩ = some (.slice A1 origs.length c1) ∧ w'.cell? ⟨base, 2, none⟩ = some (.slice A2 dests.length c2)) (ds := [10, 12, 14]) (bz_ 15 0) (by kernel_rfl) rfl rfl (hS) (fun hHeld => ?_)
  refine with_tab (rfl : rtab .any (opsOf Try.f22 1) = rtab .any (opsOf Try.f22 1)) (fun HT_ => ?_)
  have HDd := blk_drew HD0
  have HRd := blk_drew HR0
  have HBd := below_drew HB0
  clear HD0 HR0 HB0 hS
  generalize wq.drew = wa at HDd HRd HBd hHeld ⊢
  apply pu_ 0 (some 3) (bz_ 15 1) HT_ rfl rfl (by kernel_rfl) (fun _ _ _ h => h) (by rfl)
  · intro _; go_simp; with_reducible rfl
  · go_simp; rfl
  apply pu_ 3 (some 6) (bz_ 15 9) HT_ rfl rfl (by kernel_rfl) (fun _ _ _ h => h) (by rfl)
  · intro _; go_simp; with_reducible rfl
  · go_simp; rfl
  apply pu_ 6 (some 9) (bz_ 15 73) HT_ rfl rfl (by kernel_rfl) (fun _ _ _ h => h) (by rfl)
  · intro _; go_simp; with_reducible rfl
  · go_simp; rfl
  apply tk_ 1 (some 4) (bz_ 15 75) HT_ hHeld rfl rfl (by kernel_rfl) (fun _ _ _ h => h) (by rfl)
  · intro _ hS; go_split_ands; go_simp; with_reducible rfl
  · go_simp; rfl
  apply tk_ 4 (some 7) (bz_ 15 91) HT_ hHeld rfl rfl (by kernel_rfl) (fun _ _ _ h => h) (by rfl)
  · intro _ hS; go_split_ands; go_simp; with_reducible rfl
  · go_simp; rfl
  apply tk_ 7 (some 10) (bz_ 15 219) HT_ hHeld rfl rfl (by kernel_rfl) (fun _ _ _ h => h) (by rfl)
  · intro _ hS; go_split_ands; go_simp; with_reducible rfl
  · go_simp; rfl
  refine one_ (i := 2) (N := some 5) (bz_ 15 223) rfl rfl (one_of HT_.out (by kernel_rfl)) (by decide) (fun K hK => ?_)
  refine goes_ Try.func36 (by kernel_rfl) rfl #[.slice A0 code.length c0] (by rfl) rfl rfl (by simp only [List.map_toArray, List.map_cons, List.map_nil]; rfl) ?_
  with_reducible refine (clone36_calls A0 c0 code wa (Kd.C_below HH.out.r0 (by rw [hdw]; exact HBd)) HSM.out.s0).mono ?_
  rintro e w1 ⟨v0, rfl, hC0⟩
  refine ⟨_, rfl, ?_⟩
  have hz0 : base ≤ wa.heap.size := by have := HBd.size; omega
  have HD0 := blk_below HDd hC0.2
  have HR0 := blk_below HRd hC0.2
  have HB0 := below_then HBd (by have := HBd.size; omega) hC0.2
  have hS : w1.cell? ⟨base, 0, none⟩ = some (.slice A0 code.length c0) ∧ w1.cell? ⟨base, 1, none⟩ = some (.slice A1 origs.length c1) ∧ w1.cell? ⟨base, 2, none⟩ = some (.slice A2 dests.length c2) := ⟨(blk_cell HD0 0).trans rfl, (blk_cell HD0 1).trans rfl, (blk_cell HD0 2).trans rfl⟩
  clear HDd HRd HBd
  have HDd := HD0
  have HRd := HR0
  have HBd := HB0
  clear HD0 HR0 HB0
  refine hK.out _ _ (hS) (fun hHeld => ?_)
  clear hK K
  refine norm_ (a' := ?_) ?_ ?_
  rotate_left
  · show Act.put _ (some 5) _ = _
    simp only [Act.put, List.setIfInBounds_toArray, List.set_cons_zero, List.set_cons_succ, i64_w, i32_w]
    rfl
  apply pu_ 9 (some 12) (bz_ 15 735) HT_ rfl rfl (by kernel_rfl) (fun _ _ _ h => h) (by rfl)
  · intro _; go_simp; with_reducible rfl
  · go_simp; rfl
  refine one_ (i := 5) (N := some 8) (bz_ 15 767) rfl rfl (one_of HT_.out (by kernel_rfl)) (by decide) (fun K hK => ?_)
  refine goes_ Try.func37 (by kernel_rfl) rfl #[.slice A1 origs.length c1] (by rfl) rfl rfl (by simp only [List.map_toArray, List.map_cons, List.map_nil]; rfl) ?_
  with_reducible refine (clone37_calls A1 c1 origs w1 (Kd.C_below HH.out.r1 (by rw [hdw]; exact HBd)) HSM.out.s1).mono ?_
  rintro e w2 ⟨v1, rfl, hC1⟩
  refine ⟨_, rfl, ?_⟩
  have hz1 : base ≤ w1.heap.size := by have := HBd.size; omega
  have HD0 := blk_below HDd hC1.2
  have HR0 := blk_below HRd hC1.2
  have HB0 := below_then HBd (by have := HBd.size; omega) hC1.2
  have hS : w2.cell? ⟨base, 0, none⟩ = some (.slice A0 code.length c0) ∧ w2.cell? ⟨base, 1, none⟩ = some (.slice A1 origs.length c1) ∧ w2.cell? ⟨base, 2, none⟩ = some (.slice A2 dests.length c2) := ⟨(blk_cell HD0 0).trans rfl, (blk_cell HD0 1).trans rfl, (blk_cell HD0 2).trans rfl⟩
  clear HDd HRd HBd
  have HDd := HD0
  have HRd := HR0
  have HBd := HB0
  clear HD0 HR0 HB0
  refine hK.out _ _ (hS) (fun hHeld => ?_)
  clear hK K
  refine norm_ (a' := ?_) ?_ ?_
  rotate_left
  · show Act.put _ (some 8) _ = _
    simp only [Act.put, List.setIfInBounds_toArray, List.set_cons_zero, List.set_cons_succ, i64_w, i32_w]
    rfl
  refine one_ (i := 8) (N := some 11) (bz_ 15 1023) rfl rfl (one_of HT_.out (by kernel_rfl)) (by decide) (fun K hK => ?_)
  refine goes_ Try.func37 (by kernel_rfl) rfl #[.slice A2 dests.length c2] (by rfl) rfl rfl (by simp only [List.map_toArray, List.map_cons, List.map_nil]; rfl) ?_
  with_reducible refine (clone37_calls A2 c2 dests w2 (Kd.C_below HH.out.r2 (by rw [hdw]; exact HBd)) HSM.out.s2).mono ?_
  rintro e w3 ⟨v2, rfl, hC2⟩
  refine ⟨_, rfl, ?_⟩
  have hz2 : base ≤ w2.heap.size := by have := HBd.size; omega
  have HD0 := blk_below HDd hC2.2
  have HR0 := blk_below HRd hC2.2
  have HB0 := below_then HBd (by have := HBd.size; omega) hC2.2
  have hS : w3.cell? ⟨base, 0, none⟩ = some (.slice A0 code.length c0) ∧ w3.cell? ⟨base, 1, none⟩ = some (.slice A1 origs.length c1) ∧ w3.cell? ⟨base, 2, none⟩ = some (.slice A2 dests.length c2) := ⟨(blk_cell HD0 0).trans rfl, (blk_cell HD0 1).trans rfl, (blk_cell HD0 2).trans rfl⟩
  clear HDd HRd HBd
  have HDd := HD0
  have HRd := HR0
  have HBd := HB0
  clear HD0 HR0 HB0
  obtain ⟨Av0, cv0, rfl, _⟩ := hC0.1.slice_
  obtain ⟨Av1, cv1, rfl, _⟩ := hC1.1.slice_
  obtain ⟨Av2, cv2, rfl, _⟩ := hC2.1.slice_
  have e1 := blk_put HDd 0 (.slice Av0 code.length cv0) rfl
  have e2 := blk_put e1 1 (.slice Av1 origs.length cv1) rfl
  have e3 := blk_put e2 2 (.slice Av2 dests.length cv2) rfl
  have hf0 := blk_frozen HDd 0
  have hf1 := blk_frozen e1 1
  have hf2 := blk_frozen e2 2
  have hq0 := (blk_cell HDd 0).trans rfl
  have hq1 := (blk_cell e1 1).trans rfl
  have hq2 := (blk_cell e2 2).trans rfl
  refine hK.out _ _ (hS) (fun hHeld => ?_)
  clear hK K
  refine norm_ (a' := ?_) ?_ ?_
  rotate_left
  · show Act.put _ (some 11) _ = _
    simp only [Act.put, List.setIfInBounds_toArray, List.set_cons_zero, List.set_cons_succ, i64_w, i32_w]
    rfl
  refine last_ (i := 10) (N := none) (bz_ 15 2047) rfl rfl (one_of HT_.out (by kernel_rfl)) (by decide) (fun K hK => ?_)
  go_simp
  refine hK.out _ _ ?_
  clear hK K
  apply pu_ 11 (some 13) (bz_ 15 4095) HT_ rfl rfl (by kernel_rfl) (fun _ _ _ h => h) (by rfl)
  · intro _; go_simp; with_reducible rfl
  · go_simp; rfl
  refine last_ (i := 12) (N := none) (bz_ 15 8191) rfl rfl (one_of HT_.out (by kernel_rfl)) (by decide) (fun K hK => ?_)
  go_simp
  refine hK.out _ _ ?_
  clear hK K
  apply pu_ 13 (some 14) (bz_ 15 16383) HT_ rfl rfl (by kernel_rfl) (fun _ _ _ h => h) (by rfl)
  · intro _; go_simp; with_reducible rfl
  · go_simp; rfl
  refine last_ (i := 14) (N := none) (bz_ 15 32767) rfl rfl (one_of HT_.out (by kernel_rfl)) (by decide) (fun K hK => ?_)
  go_simp
  refine hK.out _ _ ?_
  clear hK K
  refine done_ (done_of HT_.out (by kernel_rfl)) ?_
  clear HT_ hHeld hS hf0 hf1 hf2 hq0 hq1 hq2
  have hv0 := Kd.R_below (Kd.R_below (Kd.R_lower (cloned_R37 hC0) hz0) hC1.2) hC2.2
  have hv1 := Kd.R_below (R_lt_mono (ok' := fun k => new_ w2 (new_ w1 (fun _ => 0) 1) 2 k = 1) (Kd.R_lower (cloned_R (o := fun _ => 0) (i := 1) hC1) hz1) (fun k hk hl => new_old hk hl)) hC2.2
  have hv2 := Kd.R_lower (cloned_R (o := new_ w1 (fun _ => 0) 1) (i := 2) hC2) hz2
  have h3 := (((C3.mk hv0 hv1 hv2).set HDd 0 (.slice Av0 code.length cv0)).set e1 1 (.slice Av1 origs.length cv1)).set e2 2 (.slice Av2 dests.length cv2)
  have HD4 : (((w3.setCell ⟨base, 0, none⟩ (.slice Av0 code.length cv0)).setCell ⟨base, 1, none⟩ (.slice Av1 origs.length cv1)).setCell ⟨base, 2, none⟩ (.slice Av2 dests.length cv2)).heap[base]? = some (.cells #[.slice Av0 code.length cv0, .slice Av1 origs.length cv1, .slice Av2 dests.length cv2, .slice A3 loops.length c3, .slice A4 cases.length c4] 26 (0, 0)) := e3
  have HR4 := blk_far (blk_far (blk_far HRd (p := ⟨base, 0, none⟩) (Ne.symm hdr) (.slice Av0 code.length cv0)) (p := ⟨base, 1, none⟩) (Ne.symm hdr) (.slice Av1 origs.length cv1)) (p := ⟨base, 2, none⟩) (Ne.symm hdr) (.slice Av2 dests.length cv2)
  have HB4 := ((HBd.setCell (p := ⟨base, 0, none⟩) hdd (.slice Av0 code.length cv0)).setCell (p := ⟨base, 1, none⟩) hdd (.slice Av1 origs.length cv1)).setCell (p := ⟨base, 2, none⟩) hdd (.slice Av2 dests.length cv2)
  clear hv0 hv1 hv2 e1 e2 e3 HDd HRd HBd hC0 hC1 hC2
  generalize new_ w2 (new_ w1 (fun _ => 0) 1) 2 = o2 at h3
  generalize ((w3.setCell ⟨base, 0, none⟩ (.slice Av0 code.length cv0)).setCell ⟨base, 1, none⟩ (.slice Av1 origs.length cv1)).setCell ⟨base, 2, none⟩ (.slice Av2 dests.length cv2) = w4 at h3 HD4 HR4 HB4 ⊢
  have hS : w4.cell? ⟨base, 3, none⟩ = some (.slice A3 loops.length c3) ∧ w4.cell? ⟨base, 4, none⟩ = some (.slice A4 cases.length c4) := ⟨(blk_cell HD4 3).trans rfl, (blk_cell HD4 4).trans rfl⟩
  go_wp2_with fail
  refine start_ (n := 10) (S := fun w' => w'.cell? ⟨base, 3, none⟩ = some (.slice A3 loops.length c3) ∧ w'.cell? ⟨base, 4, none⟩ = some (.slice A4 cases.length c4)) (ds := [7, 9]) (bz_ 10 0) (by kernel_rfl) rfl rfl (hS) (fun hHeld => ?_)
  refine with_tab (rfl : rtab .any (opsOf Try.f22 2) = rtab .any (opsOf Try.f22 2)) (fun HT_ => ?_)
  have HDd := blk_drew HD4
  have HRd := blk_drew HR4
  have HBd := below_drew HB4
  have h3d := h3.below (below_drew (Below.refl _ _)) 9 (by decide)
  clear HD4 HR4 HB4 hS h3
  generalize w4.drew = wb at HDd HRd HBd h3d hHeld ⊢
  generalize new_ w4 o2 9 = o3 at h3d
  apply pu_ 0 (some 15) (bz_ 10 1) HT_ rfl rfl (by kernel_rfl) (fun _ _ _ h => h) (by rfl)
  · intro _; go_simp; with_reducible rfl
  · go_simp; rfl
  apply pu_ 3 (some 18) (bz_ 10 9) HT_ rfl rfl (by kernel_rfl) (fun _ _ _ h => h) (by rfl)
  · intro _; go_simp; with_reducible rfl
  · go_simp; rfl
  apply tk_ 1 (some 16) (bz_ 10 11) HT_ hHeld rfl rfl (by kernel_rfl) (fun _ _ _ h => h) (by rfl)
  · intro _ hS; go_split_ands; go_simp; with_reducible rfl
  · go_simp; rfl
  apply tk_ 4 (some 19) (bz_ 10 27) HT_ hHeld rfl rfl (by kernel_rfl) (fun _ _ _ h => h) (by rfl)
  · intro _ hS; go_split_ands; go_simp; with_reducible rfl
  · go_simp; rfl
  refine one_ (i := 2) (N := some 17) (bz_ 10 31) rfl rfl (one_of HT_.out (by kernel_rfl)) (by decide) (fun K hK => ?_)
  refine goes_ Try.func38 (by kernel_rfl) rfl #[.slice A3 loops.length c3] (by rfl) rfl rfl (by simp only [List.map_toArray, List.map_cons, List.map_nil]; rfl) ?_
  with_reducible refine (opens_calls A3 c3 loops wb (Kd.C_below HH.out.r3 (by rw [hdw]; exact HBd)) HSM.out.s3 HSM.out.s5).mono ?_
  rintro e w5 ⟨v3, rfl, hl5, hb5⟩
  refine ⟨_, rfl, ?_⟩
  have hz5 : base ≤ wb.heap.size := by have := HBd.size; omega
  have hl5b := Kd.S_lower (Kd.S_mono (Kd.S_bound hl5) (ok' := fun k => new_ wb o3 3 k = 3) (fun k hk => new_new hk.2.1)) hz5
  have h35 := h3d.below hb5 3 (by decide)
  replace HDd := blk_below HDd hb5
  replace HRd := blk_below HRd hb5
  replace HBd := below_then HBd hz5 hb5
  have hS : w5.cell? ⟨base, 3, none⟩ = some (.slice A3 loops.length c3) ∧ w5.cell? ⟨base, 4, none⟩ = some (.slice A4 cases.length c4) := ⟨(blk_cell HDd 3).trans rfl, (blk_cell HDd 4).trans rfl⟩
  clear h3d hl5 hb5 hz5
  generalize new_ wb o3 3 = o5 at hl5b h35
  refine hK.out _ _ (hS) (fun hHeld => ?_)
  clear hK K
  refine norm_ (a' := ?_) ?_ ?_
  rotate_left
  · show Act.put _ (some 17) _ = _
    simp only [Act.put, List.setIfInBounds_toArray, List.set_cons_zero, List.set_cons_succ, i64_w, i32_w]
    rfl
  apply pu_ 6 (some 21) (bz_ 10 95) HT_ rfl rfl (by kernel_rfl) (fun _ _ _ h => h) (by rfl)
  · intro _; go_simp; with_reducible rfl
  · go_simp; rfl
  refine one_ (i := 5) (N := some 20) (bz_ 10 127) rfl rfl (one_of HT_.out (by kernel_rfl)) (by decide) (fun K hK => ?_)
  refine goes_ Try.func38 (by kernel_rfl) rfl #[.slice A4 cases.length c4] (by rfl) rfl rfl (by simp only [List.map_toArray, List.map_cons, List.map_nil]; rfl) ?_
  with_reducible refine (opens_calls A4 c4 cases w5 (Kd.C_below HH.out.r4 (by rw [hdw]; exact HBd)) HSM.out.s4 HSM.out.s6).mono ?_
  rintro e w6 ⟨v4, rfl, hl6, hb6⟩
  refine ⟨_, rfl, ?_⟩
  have hz6 : base ≤ w5.heap.size := by have := HBd.size; omega
  have hl6b := Kd.S_lower (Kd.S_mono (Kd.S_bound hl6) (ok' := fun k => new_ w5 o5 4 k = 4) (fun k hk => new_new hk.2.1)) hz6
  have h36 := h35.below hb6 4 (by decide)
  have hl66 : Kd.S k59 59 w6 base (fun k => new_ w5 o5 4 k = 3) v3 loops := Kd.S_below (S_lt_mono hl5b (fun k hk hl => new_old hk hl)) hb6
  replace HDd := blk_below HDd hb6
  replace HRd := blk_below HRd hb6
  replace HBd := below_then HBd hz6 hb6
  have hS : w6.cell? ⟨base, 3, none⟩ = some (.slice A3 loops.length c3) ∧ w6.cell? ⟨base, 4, none⟩ = some (.slice A4 cases.length c4) := ⟨(blk_cell HDd 3).trans rfl, (blk_cell HDd 4).trans rfl⟩
  clear h35 hl5b hl6 hb6 hz6
  have h5 := C5.mk h36 hl66 hl6b
  clear h36 hl66 hl6b
  obtain ⟨Av3, cv3, rfl⟩ := Kd.S_slice h5.hl
  obtain ⟨Av4, cv4, rfl⟩ := Kd.S_slice h5.hs
  have e1 := blk_put HDd 3 (.slice Av3 loops.length cv3) rfl
  have e2 := blk_put e1 4 (.slice Av4 cases.length cv4) rfl
  have hf0 := blk_frozen HDd 3
  have hf1 := blk_frozen e1 4
  have hq0 := (blk_cell HDd 3).trans rfl
  have hq1 := (blk_cell e1 4).trans rfl
  refine hK.out _ _ (hS) (fun hHeld => ?_)
  clear hK K
  refine norm_ (a' := ?_) ?_ ?_
  rotate_left
  · show Act.put _ (some 20) _ = _
    simp only [Act.put, List.setIfInBounds_toArray, List.set_cons_zero, List.set_cons_succ, i64_w, i32_w]
    rfl
  refine last_ (i := 7) (N := none) (bz_ 10 255) rfl rfl (one_of HT_.out (by kernel_rfl)) (by decide) (fun K hK => ?_)
  go_simp
  refine hK.out _ _ ?_
  clear hK K
  apply pu_ 8 (some 22) (bz_ 10 511) HT_ rfl rfl (by kernel_rfl) (fun _ _ _ h => h) (by rfl)
  · intro _; go_simp; with_reducible rfl
  · go_simp; rfl
  refine last_ (i := 9) (N := none) (bz_ 10 1023) rfl rfl (one_of HT_.out (by kernel_rfl)) (by decide) (fun K hK => ?_)
  go_simp
  refine hK.out _ _ ?_
  clear hK K
  refine done_ (done_of HT_.out (by kernel_rfl)) ?_
  clear HT_ hHeld hS hf0 hf1 hq0 hq1
  have h7 := (h5.set HDd 3 (.slice Av3 loops.length cv3)).set e1 4 (.slice Av4 cases.length cv4)
  have HD7 : ((w6.setCell ⟨base, 3, none⟩ (.slice Av3 loops.length cv3)).setCell ⟨base, 4, none⟩ (.slice Av4 cases.length cv4)).heap[base]? = some (.cells #[.slice Av0 code.length cv0, .slice Av1 origs.length cv1, .slice Av2 dests.length cv2, .slice Av3 loops.length cv3, .slice Av4 cases.length cv4] 26 (0, 0)) := e2
  have HR7 := blk_far (blk_far HRd (p := ⟨base, 3, none⟩) (Ne.symm hdr) (.slice Av3 loops.length cv3)) (p := ⟨base, 4, none⟩) (Ne.symm hdr) (.slice Av4 cases.length cv4)
  have HB7 := (HBd.setCell (p := ⟨base, 3, none⟩) hdd (.slice Av3 loops.length cv3)).setCell (p := ⟨base, 4, none⟩) hdd (.slice Av4 cases.length cv4)
  clear e1 e2 HDd HRd HBd h5
  generalize (w6.setCell ⟨base, 3, none⟩ (.slice Av3 loops.length cv3)).setCell ⟨base, 4, none⟩ (.slice Av4 cases.length cv4) = w7 at h7 HD7 HR7 HB7 ⊢
  obtain ⟨k0, k1, k2, k3, k4⟩ := cells5 (show w7.heap[base]? = some (.cells #[.slice Av0 code.length cv0, .slice Av1 origs.length cv1, .slice Av2 dests.length cv2, .slice Av3 loops.length cv3, .slice Av4 cases.length cv4] _ _) from HD7)
  obtain ⟨f0, f1, f2, f3, f4⟩ := frozen5 HR7
  obtain ⟨r0, r1, r2, r3, r4⟩ := cells5 (show w7.heap[rr]? = some (.cells #[.slice none 0 0, .slice none 0 0, .slice none 0 0, .slice none 0 0, .slice none 0 0] _ _) from HR7)
  have g0 := blk_put HR7 0 (.slice Av0 code.length cv0) rfl
  have g1 := blk_put g0 1 (.slice Av1 origs.length cv1) rfl
  have g2 := blk_put g1 2 (.slice Av2 dests.length cv2) rfl
  have g3 := blk_put g2 3 (.slice Av3 loops.length cv3) rfl
  have g4 := blk_put g3 4 (.slice Av4 cases.length cv4) rfl
  have h8 := ((((h7.set HR7 0 (.slice Av0 code.length cv0)).set g0 1 (.slice Av1 origs.length cv1)).set g1 2 (.slice Av2 dests.length cv2)).set g2 3 (.slice Av3 loops.length cv3)).set g3 4 (.slice Av4 cases.length cv4)
  have HB8 := (((((HB7.setCell (p := ⟨rr, 0, none⟩) hrr (.slice Av0 code.length cv0)).setCell (p := ⟨rr, 1, none⟩) hrr (.slice Av1 origs.length cv1)).setCell (p := ⟨rr, 2, none⟩) hrr (.slice Av2 dests.length cv2)).setCell (p := ⟨rr, 3, none⟩) hrr (.slice Av3 loops.length cv3)).setCell (p := ⟨rr, 4, none⟩) hrr (.slice Av4 cases.length cv4))
  have HG4 := Aside0.mk g4
  have H8 := Aside0.mk h8
  have HB9 := Aside0.mk HB8
  clear g0 g1 g2 g3 g4 h8 HB8 h7 HD7 HR7 HB7 hdd hrr hdr hrw HH HSM
  go_wp2_with fail
  obtain ⟨y0, y1, y2, y3, y4⟩ := cells5 HG4.out
  exact bodyPost_ret (v := .agg #[.slice Av0 code.length cv0, .slice Av1 origs.length cv1, .slice Av2 dests.length cv2, .slice Av3 loops.length cv3, .slice Av4 cases.length cv4]) (by simp [results, Try.results22, go_sem, y0, y1, y2, y3, y4]) rfl (by rw [hdw]; exact ⟨_, _, _, _, _, _, rfl, H8.out, HB9.out⟩)
end Go.Proofs.Ytmglkgjnhoojaaa.PCodeRows
/- Finish (17). -/
namespace Go.Proofs.Ytmglkgjnhoojaaa.PCodeRows
open Go.RowKit Go.Proofs.YtmglkgjnhoojaaaW.PrintWords Go.Proofs.YtmglkgjnhoojaaaW.PrintLast Go.Proofs.YtmglkgjnhoojaaaW.PrintMore
set_option linter.unusedVariables false
set_option linter.unusedSimpArgs false
set_option maxHeartbeats 1000000 in
theorem finish_bad (A0 A1 A2 A3 A4 : Option Addr) (c0 c1 c2 c3 c4 : Nat) (code : List S37) (origs dests : List Int) (loops cases : List S59) (w : World)
    (h : DrC w A0 A1 A2 A3 A4 c0 c1 c2 c3 c4 code origs dests loops cases) (hf : formedP code origs dests loops cases = false) :
    Calls Try.prog 17 #[drV A0 A1 A2 A3 A4 c0 c1 c2 c3 c4 code.length origs.length dests.length loops.length cases.length] w fun e w' => Below w.heap.size w w' ∧ e = .returned (.tuple #[.slice none 0 0, .int .i64 1]) := by
  have HD := Aside0.mk (blk_new w (.cells #[.slice A0 code.length c0, .slice A1 origs.length c1, .slice A2 dests.length c2, .slice A3 loops.length c3, .slice A4 cases.length c4] 26))
  have HB := Aside0.mk (below_alloc (Below.refl w.heap.size w) (.cells #[.slice A0 code.length c0, .slice A1 origs.length c1, .slice A2 dests.length c2, .slice A3 loops.length c3, .slice A4 cases.length c4] 26))
  obtain ⟨k0, k1, k2, k3, k4⟩ := cells5 HD.out
  have H := Aside0.mk h
  have HF := Aside0.mk hf
  clear h hf
  go_enter Try.func17, Try.ntmps17
  go_wp2_with fail
  clear k0 k1 k2 k3 k4
  refine (formed_calls A0 A1 A2 A3 A4 c0 c1 c2 c3 c4 code origs dests loops cases _ (H.out.below HB.out)).mono ?_
  rintro e w1 ⟨rfl, hb1⟩
  rw [HF.out]
  have HB1 := Aside0.mk (below_step HB.out hb1)
  have HD1 := Aside0.mk (blk_below HD.out hb1)
  clear hb1 HB HD
  go_wp2_with fail
  exact bodyPost_ret (v := .tuple #[.slice none 0 0, .int .i64 1]) (by simp [results, Try.results17, go_sem]) rfl ⟨HB1.out, rfl⟩
set_option maxHeartbeats 1000000 in
theorem finish_ok (A0 A1 A2 A3 A4 : Option Addr) (c0 c1 c2 c3 c4 : Nat) (code : List S37) (w : World)
    (h : DrC w A0 A1 A2 A3 A4 c0 c1 c2 c3 c4 code [] [] [] []) (hf : formedP code [] [] [] [] = true) (hs : code.length * 16 ≤ 140737488355328) :
    Calls Try.prog 17 #[drV A0 A1 A2 A3 A4 c0 c1 c2 c3 c4 code.length 0 0 0 0] w fun e w' => Below w.heap.size w w' ∧ ∃ v, e = .returned (.tuple #[v, .int .i64 0]) ∧ Kd.R k37 37 w' w.heap.size (fun _ => True) v code := by
  have HD := Aside0.mk (blk_new w (.cells #[.slice A0 code.length c0, .slice A1 0 c1, .slice A2 0 c2, .slice A3 0 c3, .slice A4 0 c4] 26))
  have HB := Aside0.mk (below_alloc (Below.refl w.heap.size w) (.cells #[.slice A0 code.length c0, .slice A1 0 c1, .slice A2 0 c2, .slice A3 0 c3, .slice A4 0 c4] 26))
  obtain ⟨k0, k1, k2, k3, k4⟩ := cells5 HD.out
  have H := Aside0.mk h
  have HF := Aside0.mk hf
  clear h hf
  go_enter Try.func17, Try.ntmps17
  go_wp2_with fail
  clear k0 k1 k2 k3 k4
  refine (formed_calls A0 A1 A2 A3 A4 c0 c1 c2 c3 c4 code [] [] [] [] _ (H.out.below HB.out)).mono ?_
  rintro e w1 ⟨rfl, hb1⟩
  rw [HF.out]
  have HB1 := Aside0.mk (below_step HB.out hb1)
  have HD1 := Aside0.mk (blk_below HD.out hb1)
  clear hb1 HB HD
  obtain ⟨k0, k1, k2, k3, k4⟩ := cells5 HD1.out
  have HS := Aside0.mk hs
  clear hs
  go_wp2_with fail
  refine (clone36_calls A0 c0 code w1 (Kd.C_below H.out.r0 HB1.out) HS.out).mono ?_
  rintro e w2 ⟨v, rfl, hC⟩
  have hB2 := Aside0.mk (below_step HB1.out hC.2)
  have hR : Kd.R k37 37 w2 w1.heap.size (fun _ => True) v code := ⟨fun _ _ => trivial, hC.1.imp_ (fun p c hp => by have := k37_open hp; subst this; exact k37_mkM _ _ _ p)⟩
  have hR2 := Aside0.mk (Kd.R_lower hR HB1.out.size)
  clear hR hC k0 k1 k2 k3 k4
  go_wp2_with fail
  exact bodyPost_ret (v := .tuple #[v, .int .i64 0]) (by simp [results, Try.results17, go_sem]) rfl ⟨hB2.out, v, rfl, hR2.out⟩
end Go.Proofs.Ytmglkgjnhoojaaa.PCodeRows
/- Finish (17), whole. -/
namespace Go.Proofs.Ytmglkgjnhoojaaa.PCodeRows
open Go.RowKit Go.Proofs.YtmglkgjnhoojaaaW.PrintWords Go.Proofs.YtmglkgjnhoojaaaW.PrintLast Go.Proofs.YtmglkgjnhoojaaaW.PrintMore
set_option linter.unusedVariables false
set_option linter.unusedSimpArgs false
set_option maxHeartbeats 1000000 in
theorem finish_open (A0 A1 A2 A3 A4 : Option Addr) (c0 c1 c2 c3 c4 : Nat) (code : List S37) (origs dests : List Int) (loops cases : List S59) (w : World)
    (h : DrC w A0 A1 A2 A3 A4 c0 c1 c2 c3 c4 code origs dests loops cases) (hf : formedP code origs dests loops cases = true) (hs : Small code origs dests loops cases) (ho : 0 < origs.length + dests.length + loops.length + cases.length) :
    Calls Try.prog 17 #[drV A0 A1 A2 A3 A4 c0 c1 c2 c3 c4 code.length origs.length dests.length loops.length cases.length] w fun e w' => Below w.heap.size w w' ∧ e = .returned (.tuple #[.slice none 0 0, .int .i64 13]) := by
  have HD := Aside0.mk (blk_new w (.cells #[.slice A0 code.length c0, .slice A1 origs.length c1, .slice A2 dests.length c2, .slice A3 loops.length c3, .slice A4 cases.length c4] 26))
  have HB := Aside0.mk (below_alloc (Below.refl w.heap.size w) (.cells #[.slice A0 code.length c0, .slice A1 origs.length c1, .slice A2 dests.length c2, .slice A3 loops.length c3, .slice A4 cases.length c4] 26))
  obtain ⟨k0, k1, k2, k3, k4⟩ := cells5 HD.out
  have H := Aside0.mk h
  have HF := Aside0.mk hf
  have s1 : origs.length ≤ 100000000000000 := by have := hs.s1; omega
  have s2 : dests.length ≤ 100000000000000 := by have := hs.s2; omega
  have s3 : loops.length ≤ 100000000000000 := by have := hs.s3; omega
  have s4 : cases.length ≤ 100000000000000 := by have := hs.s4; omega
  clear h hf hs
  have HN := Aside0.mk (formed_calls A0 A1 A2 A3 A4 c0 c1 c2 c3 c4 code origs dests loops cases _ (H.out.below HB.out))
  rw [HF.out] at HN
  generalize origs.length = n1 at *
  generalize dests.length = n2 at *
  generalize loops.length = n3 at *
  generalize cases.length = n4 at *
  have hp : decide ((n1 : Int) + (n2 : Int) + (n3 : Int) + (n4 : Int) > 0) = true := decide_eq_true (by omega)
  have hp2 : decide ((0 : Int) < (n1 : Int) + (n2 : Int) + (n3 : Int) + (n4 : Int)) = true := decide_eq_true (by omega)
  clear ho
  go_enter Try.func17, Try.ntmps17
  go_wp2_with fail
  clear k0 k1 k2 k3 k4
  refine HN.out.mono ?_
  rintro e w1 ⟨rfl, hb1⟩
  have HB1 := Aside0.mk (below_step HB.out hb1)
  have HD1 := Aside0.mk (blk_below HD.out hb1)
  clear hb1 HB HD HN HF H
  have k1 := (blk_cell HD1.out 1).trans rfl
  have k2 := (blk_cell HD1.out 2).trans rfl
  have k3 := (blk_cell HD1.out 3).trans rfl
  have k4 := (blk_cell HD1.out 4).trans rfl
  go_wp2_with fail
  exact bodyPost_ret (v := .tuple #[.slice none 0 0, .int .i64 13]) (by simp [results, Try.results17, go_sem]) rfl ⟨HB1.out, rfl⟩
/-- What Finish leaves: the code, or an error. -/
def FPost (w : World) (r : List S37 ⊕ Int) (e : Ending) (w' : World) : Prop :=
  Below w.heap.size w w' ∧ match r with
    | .inl code => ∃ A c, e = .returned (.tuple #[.slice A code.length c, .int .i64 0]) ∧ Kd.R k37 37 w' w.heap.size (fun _ => True) (.slice A code.length c) code
    | .inr c => e = .returned (.tuple #[.slice none 0 0, .int .i64 c])
def finP (code : List S37) (origs dests : List Int) (loops cases : List S59) : List S37 ⊕ Int :=
  if formedP code origs dests loops cases = true then (if 0 < origs.length + dests.length + loops.length + cases.length then .inr 13 else .inl code) else .inr 1
theorem finish_calls (A0 A1 A2 A3 A4 : Option Addr) (c0 c1 c2 c3 c4 : Nat) (code : List S37) (origs dests : List Int) (loops cases : List S59) (w : World)
    (h : DrC w A0 A1 A2 A3 A4 c0 c1 c2 c3 c4 code origs dests loops cases) (hs : Small code origs dests loops cases) :
    Calls Try.prog 17 #[drV A0 A1 A2 A3 A4 c0 c1 c2 c3 c4 code.length origs.length dests.length loops.length cases.length] w (FPost w (finP code origs dests loops cases)) := by
  unfold finP
  by_cases hf : formedP code origs dests loops cases = true
  · rw [if_pos hf]
    by_cases ho : 0 < origs.length + dests.length + loops.length + cases.length
    · rw [if_pos ho]
      exact finish_open A0 A1 A2 A3 A4 c0 c1 c2 c3 c4 code origs dests loops cases w h hf hs ho
    · rw [if_neg ho]
      obtain rfl : origs = [] := List.eq_nil_of_length_eq_zero (by omega)
      obtain rfl : dests = [] := List.eq_nil_of_length_eq_zero (by omega)
      obtain rfl : loops = [] := List.eq_nil_of_length_eq_zero (by omega)
      obtain rfl : cases = [] := List.eq_nil_of_length_eq_zero (by omega)
      refine (finish_ok A0 A1 A2 A3 A4 c0 c1 c2 c3 c4 code w h hf hs.s0).mono ?_
      rintro e w' ⟨hb, v, rfl, hR⟩
      obtain ⟨A, c, rfl, hc, hC⟩ := Kd.R_reads hR
      exact ⟨hb, A, c, rfl, hR⟩
  · rw [if_neg hf]
    refine (finish_bad A0 A1 A2 A3 A4 c0 c1 c2 c3 c4 code origs dests loops cases w h (by simpa using hf)).mono ?_
    rintro e w' ⟨hb, rfl⟩
    exact ⟨hb, rfl⟩
end Go.Proofs.Ytmglkgjnhoojaaa.PCodeRows
