/- The reference's Formed, walked. -/
import Derived.Test.YtmglkgjnhoojaaatkA
import Derived.Test.YtmglkgjnhoojaaatkD
import Derived.Deep.RegionHeld3
namespace Go.Proofs.Ytmglkgjnhoojaaa.PCodeRows
open Go.RowKit Go.Proofs.YtmglkgjnhoojaaaW.PrintWords Go.Proofs.YtmglkgjnhoojaaaW.PrintLast Go.Proofs.YtmglkgjnhoojaaaW.PrintMore
set_option linter.unusedVariables false
set_option linter.unusedSimpArgs false
set_option maxHeartbeats 4000000 in
theorem rformed_calls (A0 A1 A2 A3 A4 : Option Addr) (c0 c1 c2 c3 c4 : Nat) (code : List S37) (origs dests : List Int) (loops cases : List S59) (w : World)
    (h : DrC w A0 A1 A2 A3 A4 c0 c1 c2 c3 c4 code origs dests loops cases) :
    Calls Try.prog 13 #[drV A0 A1 A2 A3 A4 c0 c1 c2 c3 c4 code.length origs.length dests.length loops.length cases.length] w fun e w' => e = .returned (.bool (formedP code origs dests loops cases)) ∧ Below w.heap.size w w' := by
  obtain ⟨r, R0⟩ : ∃ r, formedP code origs dests loops cases = r := ⟨_, rfl⟩
  have R := Aside0.mk R0
  rw [R0]
  clear R0
  have HD0 := Aside0.mk (blk_new w (.cells #[.slice A0 code.length c0, .slice A1 origs.length c1, .slice A2 dests.length c2, .slice A3 loops.length c3, .slice A4 cases.length c4] 26))
  have hd0 := (blk_cell HD0.out 0).trans rfl
  by_cases q0 : (256 : Int) < (code.length : Int)
  · have q1 := decide_eq_true q0
    have R1 := Aside0.mk (show 256 < code.length by omega)
    clear q0
    go_enter Try.func13, Try.ntmps13
    go_wp2_with fail
    go_ret
    exact ⟨ret_bool (by have := R1.out; rw [← R.out]; simp [formedP]; omega), below_alloc (Below.refl _ _) _⟩
  have q1 := decide_eq_false q0
  have R1 := Aside0.mk (show (areP code origs [3, 4] && (destsP code dests && (loops.all (loopP code) && cases.all (caseP code)))) = r by
    have : code.length ≤ 256 := by omega
    have h2 := R.out
    simpa [formedP, this] using h2)
  clear R q0
  have HH := Aside0.mk h
  clear h
  go_enter Try.func13, Try.ntmps13
  go_wp2_with fail
  have HD := HD0
  have HB := Aside0.mk (below_alloc (Below.refl w.heap.size w) (.cells #[.slice A0 code.length c0, .slice A1 origs.length c1, .slice A2 dests.length c2, .slice A3 loops.length c3, .slice A4 cases.length c4] 26))
  clear HD0 hd0
  go_loopg [3] origs.length (fun gg s wr => ∃ kk : Nat, kk ≤ origs.length ∧ origs.length - kk ≤ gg ∧ s = .int .i64 kk ∧ Aside0 (Below w.heap.size w wr) ∧ Aside0 (wr.heap[w.heap.size]? = some (.cells #[.slice A0 code.length c0, .slice A1 origs.length c1, .slice A2 dests.length c2, .slice A3 loops.length c3, .slice A4 cases.length c4] 26)) ∧ Aside0 ((origs.take kk).all (isOf code [3, 4]) = true))
  case atStart => exact ⟨0, Nat.zero_le _, by omega, rfl, HB, HD, ⟨rfl⟩⟩
  case round =>
    clear HB HD
    try clear hd0
    obtain ⟨kk, hkk, hg, rfl, HB, HD, A⟩ := hrel
    have hlen := HH.out.r1.2.1
    have hdl := (blk_cell HD.out 1).trans rfl
    by_cases hlt : kk < origs.length
    · have hltz : (kk : Int) < (origs.length : Int) := by omega
      obtain ⟨ad, e, g0⟩ := Kd.at_int HH.out.r1 (kk : Int) (by omega) hltz
      cases e
      have g1 := (HB.out.cell (World.block_lt_of_cell? w _ g0)).trans g0
      rw [Int.toNat_natCast] at g1
      have hrd : origs[kk]? = some (rd origs (kk : Int)) := by simp [rd, List.getD_eq_getElem?_getD, hlt]
      generalize hy : rd origs (kk : Int) = y at g0 g1 hrd
      clear hy g0
      have hmem : y ∈ origs := List.mem_of_getElem? hrd
      obtain ⟨b, hI⟩ : ∃ b, (isOf code [3, 4]) y = b := ⟨_, rfl⟩
      have T : Aside0 (b = true → (origs.take (kk + 1)).all (isOf code [3, 4]) = true) := ⟨fun hy => by
        rw [List.take_add_one, hrd, List.all_append, A.out]
        simpa [hI] using hy⟩
      have F : Aside0 (b = false → false = r) := ⟨fun hy => by
        have h2 : origs.all (isOf code [3, 4]) = false := List.all_eq_false.2 ⟨y, hmem, by simpa [hI] using hy⟩
        have h3 := R1.out
        rw [← h3]
        simp only [areP]
        rw [h2]
        rfl⟩
      clear A hmem hrd
      have hk : ∀ W, Below w.heap.size w W → Calls Try.prog 30 #[drV A0 (some ad) A2 A3 A4 c0 c1 c2 c3 c4 code.length origs.length dests.length loops.length cases.length, .int .i64 y] W fun e w' => e = .returned (.int .i64 (kindOf code y)) ∧ Below W.heap.size W w' := fun W hW => kind_calls A0 (some ad) A2 A3 A4 c0 c1 c2 c3 c4 code origs dests loops cases W (HH.out.below hW) y
      have hI2 := isOf_kind code [3, 4] (by decide) y
      rw [hI] at hI2
      clear hI
      generalize kindOf code y = z at hk hI2
      go_upto_region 6 with fail
      go_cut [36] (fun v wc => v = .bool (!b) ∧ Aside0 (Below w.heap.size w wc) ∧ Aside0 (wc.heap[w.heap.size]? = some (.cells #[.slice A0 code.length c0, .slice (some ad) origs.length c1, .slice A2 dests.length c2, .slice A3 loops.length c3, .slice A4 cases.length c4] 26)))
      case first =>
        clear hdl T F
        have HG0 := Aside0.mk g1
        clear g1
        by_cases z3 : z = 3
        · subst z3
          have h3 : b = true := by rw [hI2]; decide
          subst h3
          clear hI2
          refine start_ (n := 18) (S := fun w' => w'.cell? ⟨w.heap.size, 0, none⟩ = some (.slice A0 code.length c0) ∧ w'.cell? ⟨w.heap.size, 1, none⟩ = some (.slice (some ad) origs.length c1) ∧ w'.cell? ⟨w.heap.size, 2, none⟩ = some (.slice A2 dests.length c2) ∧ w'.cell? ⟨w.heap.size, 3, none⟩ = some (.slice A3 loops.length c3) ∧ w'.cell? ⟨w.heap.size, 4, none⟩ = some (.slice A4 cases.length c4) ∧ w'.cell? (ad.add kk) = some (.int .i64 y)) (ds := []) (bz_ 18 0) (by kernel_rfl) rfl rfl (⟨(blk_cell HD.out 0).trans rfl, (blk_cell HD.out 1).trans rfl, (blk_cell HD.out 2).trans rfl, (blk_cell HD.out 3).trans rfl, (blk_cell HD.out 4).trans rfl, HG0.out⟩) (fun hHeld => ?_)
          refine with_tab (rfl : rtab .any (opsOf Try.f13 6) = rtab .any (opsOf Try.f13 6)) (fun HT_ => ?_)
          replace HD := Aside0.mk (blk_drew HD.out)
          replace HB := Aside0.mk (below_drew HB.out)
          replace HG0 := Aside0.mk (show wr.drew.cell? _ = _ from HG0.out)
          generalize wr.drew = w9 at HD HB HG0 hHeld ⊢
          apply pu_ 1 (some 20) (bz_ 18 2) HT_ rfl rfl (by kernel_rfl) (fun _ _ _ h => h) (by rfl)
          · intro _; go_simp; with_reducible rfl
          · go_simp; rfl
          apply pu_ 3 (some 22) (bz_ 18 10) HT_ rfl rfl (by kernel_rfl) (fun _ _ _ h => h) (by rfl)
          · intro _; go_simp; with_reducible rfl
          · go_simp; rfl
          apply tk_ 0 (some 19) (bz_ 18 11) HT_ hHeld rfl rfl (by kernel_rfl) (fun _ _ _ h => h) (by rfl)
          · intro _ hS; go_split_ands; go_simp; with_reducible rfl
          · go_simp; rfl
          apply tk_ 2 (some 21) (bz_ 18 15) HT_ hHeld rfl rfl (by kernel_rfl) (fun _ _ _ h => h) (by rfl)
          · intro _ hS; go_split_ands; go_simp; with_reducible rfl
          · go_simp; rfl
          apply pu_ 4 (some 23) (bz_ 18 31) HT_ rfl rfl (by kernel_rfl) (fun _ _ _ h => h) (by rfl)
          · intro _; go_simp; with_reducible rfl
          · go_simp; rfl
          apply tk_ 5 (some 24) (bz_ 18 63) HT_ hHeld rfl rfl (by kernel_rfl) (fun _ _ _ h => h) (by rfl)
          · intro _ hS; go_split_ands; go_simp; with_reducible rfl
          · go_simp; rfl
          refine one_ (i := 6) (N := some 25) (bz_ 18 127) rfl rfl (one_of HT_.out (by kernel_rfl)) (by decide) (fun K hK => ?_)
          refine goes_ Try.func30 (by kernel_rfl) rfl #[drV A0 (some ad) A2 A3 A4 c0 c1 c2 c3 c4 code.length origs.length dests.length loops.length cases.length, .int .i64 y] (by rfl) rfl rfl (by (try simp only [List.map_toArray, List.map_cons, List.map_nil]); first | done | rfl) ?_
          refine (hk _ HB.out).mono ?_
          rintro e w5 ⟨rfl, hb⟩
          refine ⟨_, rfl, ?_⟩
          replace HD := Aside0.mk (blk_below HD.out hb)
          replace HG0 := Aside0.mk ((hb.cell (World.block_lt_of_cell? _ _ HG0.out)).trans HG0.out)
          replace HB := Aside0.mk (HB.out.trans (hb.mono HB.out.size))
          clear hb
          refine hK.out _ _ (⟨(blk_cell HD.out 0).trans rfl, (blk_cell HD.out 1).trans rfl, (blk_cell HD.out 2).trans rfl, (blk_cell HD.out 3).trans rfl, (blk_cell HD.out 4).trans rfl, HG0.out⟩) (fun hHeld => ?_)
          clear hK K
          apply pu_ 7 (some 26) (bz_ 18 255) HT_ rfl rfl (by kernel_rfl) (fun _ _ _ h => h) (by rfl)
          · intro _; go_simp; with_reducible rfl
          · go_simp; rfl
          apply pu_ 8 (some 27) (bz_ 18 511) HT_ rfl rfl (by kernel_rfl) (fun _ _ _ h => h) (by rfl)
          · intro _; go_simp; with_reducible rfl
          · go_simp; rfl
          apply sk_ 9 (some 28) (bz_ 18 1023) HT_ rfl rfl (by kernel_rfl) (fun _ _ _ h => h) (by rfl)
          · go_simp; rfl
          apply sk_ 10 (some 29) (bz_ 18 2047) HT_ rfl rfl (by kernel_rfl) (fun _ _ _ h => h) (by rfl)
          · go_simp; rfl
          apply sk_ 11 (some 30) (bz_ 18 4095) HT_ rfl rfl (by kernel_rfl) (fun _ _ _ h => h) (by rfl)
          · go_simp; rfl
          apply sk_ 12 (some 31) (bz_ 18 8191) HT_ rfl rfl (by kernel_rfl) (fun _ _ _ h => h) (by rfl)
          · go_simp; rfl
          apply sk_ 13 (some 32) (bz_ 18 16383) HT_ rfl rfl (by kernel_rfl) (fun _ _ _ h => h) (by rfl)
          · go_simp; rfl
          apply sk_ 14 (some 33) (bz_ 18 32767) HT_ rfl rfl (by kernel_rfl) (fun _ _ _ h => h) (by rfl)
          · go_simp; rfl
          apply sk_ 15 (some 34) (bz_ 18 65535) HT_ rfl rfl (by kernel_rfl) (fun _ _ _ h => h) (by rfl)
          · go_simp; rfl
          apply sk_ 16 (some 35) (bz_ 18 131071) HT_ rfl rfl (by kernel_rfl) (fun _ _ _ h => h) (by rfl)
          · go_simp; rfl
          apply pu_ 17 (some 36) (bz_ 18 262143) HT_ rfl rfl (by kernel_rfl) (fun _ _ _ h => h) (by rfl)
          · intro _; go_simp; with_reducible rfl
          · go_simp; rfl
          refine done_ (done_of HT_.out (by kernel_rfl)) ?_
          go_wp2_with fail
          go_meet
          case rel => exact ⟨rfl, HB, HD⟩
        · have e3 : (z != 3) = true := bne_iff_ne.mpr z3
          have e4 : (z != 4) = !b := by
            rw [hI2]
            by_cases h4 : z = 4
            · subst h4; rfl
            · simp [z3, h4]
          clear hI2 z3
          obtain ⟨nb, hnb⟩ : ∃ nb, nb = !b := ⟨_, rfl⟩
          rw [← hnb] at e4
          have NB := Aside0.mk hnb
          clear hnb
          refine start_ (n := 18) (S := fun w' => w'.cell? ⟨w.heap.size, 0, none⟩ = some (.slice A0 code.length c0) ∧ w'.cell? ⟨w.heap.size, 1, none⟩ = some (.slice (some ad) origs.length c1) ∧ w'.cell? ⟨w.heap.size, 2, none⟩ = some (.slice A2 dests.length c2) ∧ w'.cell? ⟨w.heap.size, 3, none⟩ = some (.slice A3 loops.length c3) ∧ w'.cell? ⟨w.heap.size, 4, none⟩ = some (.slice A4 cases.length c4) ∧ w'.cell? (ad.add kk) = some (.int .i64 y)) (ds := []) (bz_ 18 0) (by kernel_rfl) rfl rfl (⟨(blk_cell HD.out 0).trans rfl, (blk_cell HD.out 1).trans rfl, (blk_cell HD.out 2).trans rfl, (blk_cell HD.out 3).trans rfl, (blk_cell HD.out 4).trans rfl, HG0.out⟩) (fun hHeld => ?_)
          refine with_tab (rfl : rtab .any (opsOf Try.f13 6) = rtab .any (opsOf Try.f13 6)) (fun HT_ => ?_)
          replace HD := Aside0.mk (blk_drew HD.out)
          replace HB := Aside0.mk (below_drew HB.out)
          replace HG0 := Aside0.mk (show wr.drew.cell? _ = _ from HG0.out)
          generalize wr.drew = w9 at HD HB HG0 hHeld ⊢
          apply pu_ 1 (some 20) (bz_ 18 2) HT_ rfl rfl (by kernel_rfl) (fun _ _ _ h => h) (by rfl)
          · intro _; go_simp; with_reducible rfl
          · go_simp; rfl
          apply pu_ 3 (some 22) (bz_ 18 10) HT_ rfl rfl (by kernel_rfl) (fun _ _ _ h => h) (by rfl)
          · intro _; go_simp; with_reducible rfl
          · go_simp; rfl
          apply tk_ 0 (some 19) (bz_ 18 11) HT_ hHeld rfl rfl (by kernel_rfl) (fun _ _ _ h => h) (by rfl)
          · intro _ hS; go_split_ands; go_simp; with_reducible rfl
          · go_simp; rfl
          apply tk_ 2 (some 21) (bz_ 18 15) HT_ hHeld rfl rfl (by kernel_rfl) (fun _ _ _ h => h) (by rfl)
          · intro _ hS; go_split_ands; go_simp; with_reducible rfl
          · go_simp; rfl
          apply pu_ 4 (some 23) (bz_ 18 31) HT_ rfl rfl (by kernel_rfl) (fun _ _ _ h => h) (by rfl)
          · intro _; go_simp; with_reducible rfl
          · go_simp; rfl
          apply tk_ 5 (some 24) (bz_ 18 63) HT_ hHeld rfl rfl (by kernel_rfl) (fun _ _ _ h => h) (by rfl)
          · intro _ hS; go_split_ands; go_simp; with_reducible rfl
          · go_simp; rfl
          refine one_ (i := 6) (N := some 25) (bz_ 18 127) rfl rfl (one_of HT_.out (by kernel_rfl)) (by decide) (fun K hK => ?_)
          refine goes_ Try.func30 (by kernel_rfl) rfl #[drV A0 (some ad) A2 A3 A4 c0 c1 c2 c3 c4 code.length origs.length dests.length loops.length cases.length, .int .i64 y] (by rfl) rfl rfl (by (try simp only [List.map_toArray, List.map_cons, List.map_nil]); first | done | rfl) ?_
          refine (hk _ HB.out).mono ?_
          rintro e w5 ⟨rfl, hb⟩
          refine ⟨_, rfl, ?_⟩
          replace HD := Aside0.mk (blk_below HD.out hb)
          replace HG0 := Aside0.mk ((hb.cell (World.block_lt_of_cell? _ _ HG0.out)).trans HG0.out)
          replace HB := Aside0.mk (HB.out.trans (hb.mono HB.out.size))
          clear hb
          refine hK.out _ _ (⟨(blk_cell HD.out 0).trans rfl, (blk_cell HD.out 1).trans rfl, (blk_cell HD.out 2).trans rfl, (blk_cell HD.out 3).trans rfl, (blk_cell HD.out 4).trans rfl, HG0.out⟩) (fun hHeld => ?_)
          clear hK K
          apply pu_ 7 (some 26) (bz_ 18 255) HT_ rfl rfl (by kernel_rfl) (fun _ _ _ h => h) (by rfl)
          · intro _; go_simp; with_reducible rfl
          · go_simp; rfl
          apply pu_ 8 (some 27) (bz_ 18 511) HT_ rfl rfl (by kernel_rfl) (fun _ _ _ h => h) (by rfl)
          · intro _; go_simp; with_reducible rfl
          · go_simp; rfl
          apply pu_ 10 (some 29) (bz_ 18 1535) HT_ rfl rfl (by kernel_rfl) (fun _ _ _ h => h) (by rfl)
          · intro _; go_simp; with_reducible rfl
          · go_simp; rfl
          apply pu_ 12 (some 31) (bz_ 18 5631) HT_ rfl rfl (by kernel_rfl) (fun _ _ _ h => h) (by rfl)
          · intro _; go_simp; with_reducible rfl
          · go_simp; rfl
          apply tk_ 9 (some 28) (bz_ 18 6143) HT_ hHeld rfl rfl (by kernel_rfl) (fun _ _ _ h => h) (by rfl)
          · intro _ hS; go_split_ands; go_simp; with_reducible rfl
          · go_simp; rfl
          apply tk_ 11 (some 30) (bz_ 18 8191) HT_ hHeld rfl rfl (by kernel_rfl) (fun _ _ _ h => h) (by rfl)
          · intro _ hS; go_split_ands; go_simp; with_reducible rfl
          · go_simp; rfl
          apply pu_ 13 (some 32) (bz_ 18 16383) HT_ rfl rfl (by kernel_rfl) (fun _ _ _ h => h) (by rfl)
          · intro _; go_simp; with_reducible rfl
          · go_simp; rfl
          apply tk_ 14 (some 33) (bz_ 18 32767) HT_ hHeld rfl rfl (by kernel_rfl) (fun _ _ _ h => h) (by rfl)
          · intro _ hS; go_split_ands; go_simp; with_reducible rfl
          · go_simp; rfl
          refine one_ (i := 15) (N := some 34) (bz_ 18 65535) rfl rfl (one_of HT_.out (by kernel_rfl)) (by decide) (fun K hK => ?_)
          refine goes_ Try.func30 (by kernel_rfl) rfl #[drV A0 (some ad) A2 A3 A4 c0 c1 c2 c3 c4 code.length origs.length dests.length loops.length cases.length, .int .i64 y] (by rfl) rfl rfl (by (try simp only [List.map_toArray, List.map_cons, List.map_nil]); first | done | rfl) ?_
          refine (hk _ HB.out).mono ?_
          rintro e w6 ⟨rfl, hb⟩
          refine ⟨_, rfl, ?_⟩
          replace HD := Aside0.mk (blk_below HD.out hb)
          replace HG0 := Aside0.mk ((hb.cell (World.block_lt_of_cell? _ _ HG0.out)).trans HG0.out)
          replace HB := Aside0.mk (HB.out.trans (hb.mono HB.out.size))
          clear hb
          refine hK.out _ _ (⟨(blk_cell HD.out 0).trans rfl, (blk_cell HD.out 1).trans rfl, (blk_cell HD.out 2).trans rfl, (blk_cell HD.out 3).trans rfl, (blk_cell HD.out 4).trans rfl, HG0.out⟩) (fun hHeld => ?_)
          clear hK K
          apply pu_ 16 (some 35) (bz_ 18 131071) HT_ rfl rfl (by kernel_rfl) (fun _ _ _ h => h) (by rfl)
          · intro _; go_simp; with_reducible rfl
          · go_simp; rfl
          apply pu_ 17 (some 36) (bz_ 18 262143) HT_ rfl rfl (by kernel_rfl) (fun _ _ _ h => h) (by rfl)
          · intro _; go_simp; with_reducible rfl
          · go_simp; rfl
          refine done_ (done_of HT_.out (by kernel_rfl)) ?_
          go_wp2_with fail
          go_meet
          case rel => exact ⟨by rw [NB.out], HB, HD⟩
      case rest =>
        obtain ⟨rfl, HB, HD⟩ := hcut
        clear g1 hk hI2 hdl
        cases b with
        | true =>
          have T2 := Aside0.mk (T.out rfl)
          clear T F
          go_wp2_with fail
          go_roundg (origs.length - (kk + 1))
          case measure => omega
          case rel => exact ⟨kk + 1, by omega, by omega, by go_num, HB, HD, T2⟩
        | false =>
          have F2 := Aside0.mk (F.out rfl)
          clear T F
          go_wp2_with fail
          go_ret
          exact ⟨ret_bool F2.out, HB.out⟩
    · have hltz : ¬ (kk : Int) < (origs.length : Int) := by omega
      have : kk = origs.length := by omega
      subst this
      rw [List.take_length] at A
      have R2 := Aside0.mk (show (destsP code dests && (loops.all (loopP code) && cases.all (caseP code))) = r by have h2 := R1.out; have h1 := A.out; first | rw [h1] at h2; exact h2 | (simp only [areP, destsP] at h2; rw [h1] at h2; exact h2))
      clear A R1 hltz hlt hg hkk hlen
      have hdn := (blk_cell HD.out 2).trans rfl
      go_wp2_with fail
      clear hdn hdl
      go_loopg [4] dests.length (fun gg s wr => ∃ kk : Nat, kk ≤ dests.length ∧ dests.length - kk ≤ gg ∧ s = .int .i64 kk ∧ Aside0 (Below w.heap.size w wr) ∧ Aside0 (wr.heap[w.heap.size]? = some (.cells #[.slice A0 code.length c0, .slice A1 origs.length c1, .slice A2 dests.length c2, .slice A3 loops.length c3, .slice A4 cases.length c4] 26)) ∧ Aside0 ((dests.take kk).all (fun n : Int => decide (0 ≤ n) && decide (n ≤ code.length)) = true))
      case atStart => exact ⟨0, Nat.zero_le _, by omega, rfl, HB, HD, ⟨rfl⟩⟩
      case round =>
        clear HB HD
        try clear hd0
        obtain ⟨kk, hkk, hg, rfl, HB, HD, A⟩ := hrel
        have hlen := HH.out.r2.2.1
        have hdl := (blk_cell HD.out 2).trans rfl
        by_cases hlt : kk < dests.length
        · have hltz : (kk : Int) < (dests.length : Int) := by omega
          obtain ⟨ad, e, g0⟩ := Kd.at_int HH.out.r2 (kk : Int) (by omega) hltz
          cases e
          have g1 := (HB.out.cell (World.block_lt_of_cell? w _ g0)).trans g0
          rw [Int.toNat_natCast] at g1
          have hrd : dests[kk]? = some (rd dests (kk : Int)) := by simp [rd, List.getD_eq_getElem?_getD, hlt]
          generalize hy : rd dests (kk : Int) = y at g0 g1 hrd
          clear hy g0
          have hmem : y ∈ dests := List.mem_of_getElem? hrd
          obtain ⟨b, hI⟩ : ∃ b, (fun n : Int => decide (0 ≤ n) && decide (n ≤ code.length)) y = b := ⟨_, rfl⟩
          have T : Aside0 (b = true → (dests.take (kk + 1)).all (fun n : Int => decide (0 ≤ n) && decide (n ≤ code.length)) = true) := ⟨fun hy => by
            rw [List.take_add_one, hrd, List.all_append, A.out]
            simpa [hI] using hy⟩
          have F : Aside0 (b = false → false = r) := ⟨fun hy => by
            have h2 : dests.all (fun n : Int => decide (0 ≤ n) && decide (n ≤ code.length)) = false := List.all_eq_false.2 ⟨y, hmem, by simpa [hI] using hy⟩
            have h3 := R2.out
            rw [← h3]
            simp only [destsP]
            rw [h2]
            rfl⟩
          clear A hmem hrd
          have hd0 := (blk_cell HD.out 0).trans rfl
          by_cases y0 : y < 0
          · have y1 := decide_eq_true y0
            have F2 := Aside0.mk (F.out (by rw [← hI]; simp; omega))
            clear F T hI
            go_wp2_with fail
            go_quiet (fail)
            go_wp2
            go_ret
            exact ⟨ret_bool F2.out, pw_below_drewN' HB.out _⟩
          have y1 := decide_eq_false y0
          by_cases y2 : (code.length : Int) < y
          · have y3 := decide_eq_true y2
            have F2 := Aside0.mk (F.out (by rw [← hI]; simp; omega))
            clear F T hI
            go_wp2_with fail
            go_quiet (fail)
            go_wp2
            go_ret
            exact ⟨ret_bool F2.out, pw_below_drewN' HB.out _⟩
          have y3 := decide_eq_false y2
          have T2 := Aside0.mk (T.out (by rw [← hI]; simp; omega))
          clear T F hI
          go_wp2_with fail
          go_quiet (fail)
          go_wp2
          go_roundg (dests.length - (kk + 1))
          case measure => omega
          case rel => exact ⟨kk + 1, by omega, by omega, by go_num, ⟨pw_below_drewN' HB.out _⟩, ⟨blk_drewN HD.out _⟩, T2⟩
        · have hltz : ¬ (kk : Int) < (dests.length : Int) := by omega
          have : kk = dests.length := by omega
          subst this
          rw [List.take_length] at A
          have R3 := Aside0.mk (show (loops.all (loopP code) && cases.all (caseP code)) = r by have h2 := R2.out; have h1 := A.out; first | rw [h1] at h2; exact h2 | (simp only [areP, destsP] at h2; rw [h1] at h2; exact h2))
          clear A R2 hltz hlt hg hkk hlen
          have hdn := (blk_cell HD.out 3).trans rfl
          go_wp2_with fail
          clear hdn hdl
          go_loopg [5] loops.length (fun gg s wr => ∃ kk : Nat, kk ≤ loops.length ∧ loops.length - kk ≤ gg ∧ s = .int .i64 kk ∧ Aside0 (Below w.heap.size w wr) ∧ Aside0 (wr.heap[w.heap.size]? = some (.cells #[.slice A0 code.length c0, .slice A1 origs.length c1, .slice A2 dests.length c2, .slice A3 loops.length c3, .slice A4 cases.length c4] 26)) ∧ Aside0 ((loops.take kk).all (loopP code) = true))
          case atStart => exact ⟨0, Nat.zero_le _, by omega, rfl, HB, HD, ⟨rfl⟩⟩
          case round =>
            clear HB HD
            try clear hd0
            obtain ⟨kk, hkk, hg, rfl, HB, HD, A⟩ := hrel
            have hlen := HH.out.r3.2.1
            have hdl := (blk_cell HD.out 3).trans rfl
            by_cases hlt : kk < loops.length
            · have hltz : (kk : Int) < (loops.length : Int) := by omega
              obtain ⟨ad, B, cB, e, g0, g1, hcB, gC⟩ := at_T59 HH.out.r3 (kk : Int) (by omega) hltz
              cases e
              rw [Int.toNat_natCast] at g0 g1
              have g2 := (HB.out.cell (World.block_lt_of_cell? w _ g0)).trans g0
              have g3 := (HB.out.cell (World.block_lt_of_cell? w _ g1)).trans g1
              have hrd : loops[kk]? = some (rd_T59 loops (kk : Int)) := by simp [rd_T59, List.getD_eq_getElem?_getD, hlt]
              generalize hy : rd_T59 loops (kk : Int) = y at g0 g1 g2 g3 hrd hcB gC
              clear hy g0 g1
              have hmem : y ∈ loops := List.mem_of_getElem? hrd
              obtain ⟨b, hI⟩ : ∃ b, (loopP code) y = b := ⟨_, rfl⟩
              have T : Aside0 (b = true → (loops.take (kk + 1)).all (loopP code) = true) := ⟨fun hy => by
                rw [List.take_add_one, hrd, List.all_append, A.out]
                simpa [hI] using hy⟩
              have F : Aside0 (b = false → false = r) := ⟨fun hy => by
                have h2 : loops.all (loopP code) = false := List.all_eq_false.2 ⟨y, hmem, by simpa [hI] using hy⟩
                have h3 := R3.out
                rw [← h3, h2]
                try rfl⟩
              clear A hmem hrd
              have hk : ∀ W, Below w.heap.size w W → Calls Try.prog 30 #[drV A0 A1 A2 (some ad) A4 c0 c1 c2 c3 c4 code.length origs.length dests.length loops.length cases.length, .int .i64 y.f0] W fun e w' => e = .returned (.int .i64 (kindOf code y.f0)) ∧ Below W.heap.size W w' := fun W hW => kind_calls A0 A1 A2 (some ad) A4 c0 c1 c2 c3 c4 code origs dests loops cases W (HH.out.below hW) y.f0
              have hk2 : ∀ W, Below w.heap.size w W → Calls Try.prog 31 #[drV A0 A1 A2 (some ad) A4 c0 c1 c2 c3 c4 code.length origs.length dests.length loops.length cases.length, .slice B y.f1.length cB, .int .i64 9] W fun e w' => e = .returned (.bool (areP code y.f1 [9])) ∧ Below W.heap.size W w' := fun W hW => all_calls A0 A1 A2 (some ad) A4 c0 c1 c2 c3 c4 code origs dests loops cases W (HH.out.below hW) B cB y.f1 9 (by decide) (Kd.C_below gC hW) hcB
              have hI2 := isOf_kind code [5, 6] (by decide) y.f0
              unfold loopP at hI
              rw [hI2] at hI
              clear hI2
              have HI := Aside0.mk hI
              generalize kindOf code y.f0 = z at hk hI
              generalize areP code y.f1 [9] = b2 at hk2 hI
              clear HI gC
              go_upto_region 16 with fail
              have HG0 := Aside0.mk g2
              have HG1 := Aside0.mk g3
              clear g2 g3 hdl
              refine start_ (n := 9) (S := fun w' => w'.cell? ⟨w.heap.size, 0, none⟩ = some (.slice A0 code.length c0) ∧ w'.cell? ⟨w.heap.size, 1, none⟩ = some (.slice A1 origs.length c1) ∧ w'.cell? ⟨w.heap.size, 2, none⟩ = some (.slice A2 dests.length c2) ∧ w'.cell? ⟨w.heap.size, 3, none⟩ = some (.slice (some ad) loops.length c3) ∧ w'.cell? ⟨w.heap.size, 4, none⟩ = some (.slice A4 cases.length c4) ∧ w'.cell? (ad.add (kk * 2)) = some (.int .i64 y.f0) ∧ w'.cell? ⟨(ad.add (kk * 2)).block, (ad.add (kk * 2)).off + 1, none⟩ = some (.slice B y.f1.length cB)) (ds := []) (bz_ 9 0) (by kernel_rfl) rfl rfl (⟨(blk_cell HD.out 0).trans rfl, (blk_cell HD.out 1).trans rfl, (blk_cell HD.out 2).trans rfl, (blk_cell HD.out 3).trans rfl, (blk_cell HD.out 4).trans rfl, HG0.out, HG1.out⟩) (fun hHeld => ?_)
              refine with_tab (rfl : rtab .any (opsOf Try.f13 16) = rtab .any (opsOf Try.f13 16)) (fun HT_ => ?_)
              replace HD := Aside0.mk (blk_drew HD.out)
              replace HB := Aside0.mk (below_drew HB.out)
              replace HG0 := Aside0.mk (show wr.drew.cell? _ = _ from HG0.out)
              replace HG1 := Aside0.mk (show wr.drew.cell? _ = _ from HG1.out)
              generalize wr.drew = w9 at HD HB HG0 HG1 hHeld ⊢
              apply pu_ 1 (some 69) (bz_ 9 2) HT_ rfl rfl (by kernel_rfl) (fun _ _ _ h => h) (by rfl)
              · intro _; go_simp; with_reducible rfl
              · go_simp; rfl
              apply pu_ 3 (some 71) (bz_ 9 10) HT_ rfl rfl (by kernel_rfl) (fun _ _ _ h => h) (by rfl)
              · intro _; go_simp; with_reducible rfl
              · go_simp; rfl
              apply tk_ 0 (some 68) (bz_ 9 11) HT_ hHeld rfl rfl (by kernel_rfl) (fun _ _ _ h => h) (by rfl)
              · intro _ hS; go_split_ands; go_simp; with_reducible rfl
              · go_simp; rfl
              apply tk_ 2 (some 70) (bz_ 9 15) HT_ hHeld rfl rfl (by kernel_rfl) (fun _ _ _ h => h) (by rfl)
              · intro _ hS; go_split_ands; go_simp; with_reducible rfl
              · go_simp; rfl
              apply pu_ 4 (some 72) (bz_ 9 31) HT_ rfl rfl (by kernel_rfl) (fun _ _ _ h => h) (by rfl)
              · intro _; go_simp; with_reducible rfl
              · go_simp; rfl
              apply pu_ 5 (some 73) (bz_ 9 63) HT_ rfl rfl (by kernel_rfl) (fun _ _ _ h => h) (by rfl)
              · intro _; go_simp; with_reducible rfl
              · go_simp; rfl
              apply tk_ 6 (some 74) (bz_ 9 127) HT_ hHeld rfl rfl (by kernel_rfl) (fun _ _ _ h => h) (by rfl)
              · intro _ hS; go_split_ands; go_simp; with_reducible rfl
              · go_simp; rfl
              refine one_ (i := 7) (N := some 75) (bz_ 9 255) rfl rfl (one_of HT_.out (by kernel_rfl)) (by decide) (fun K hK => ?_)
              refine goes_ Try.func30 (by kernel_rfl) rfl #[drV A0 A1 A2 (some ad) A4 c0 c1 c2 c3 c4 code.length origs.length dests.length loops.length cases.length, .int .i64 y.f0] (by rfl) rfl rfl (by (try simp only [List.map_toArray, List.map_cons, List.map_nil]); first | done | rfl) ?_
              refine (hk _ HB.out).mono ?_
              rintro e w5 ⟨rfl, hb⟩
              refine ⟨_, rfl, ?_⟩
              replace HD := Aside0.mk (blk_below HD.out hb)
              replace HG0 := Aside0.mk ((hb.cell (World.block_lt_of_cell? _ _ HG0.out)).trans HG0.out)
              replace HG1 := Aside0.mk ((hb.cell (World.block_lt_of_cell? _ _ HG1.out)).trans HG1.out)
              replace HB := Aside0.mk (HB.out.trans (hb.mono HB.out.size))
              clear hb
              refine hK.out _ _ (⟨(blk_cell HD.out 0).trans rfl, (blk_cell HD.out 1).trans rfl, (blk_cell HD.out 2).trans rfl, (blk_cell HD.out 3).trans rfl, (blk_cell HD.out 4).trans rfl, HG0.out, HG1.out⟩) (fun hHeld => ?_)
              clear hK K
              apply pu_ 8 (some 6) (bz_ 9 511) HT_ rfl rfl (by kernel_rfl) (fun _ _ _ h => h) (by rfl)
              · intro _; go_simp; with_reducible rfl
              · go_simp; rfl
              refine done_ (done_of HT_.out (by kernel_rfl)) ?_
              go_upto_region 17 with fail
              go_cut [92] (fun v wc => v = .bool (!b) ∧ Aside0 (Below w.heap.size w wc) ∧ Aside0 (wc.heap[w.heap.size]? = some (.cells #[.slice A0 code.length c0, .slice A1 origs.length c1, .slice A2 dests.length c2, .slice (some ad) loops.length c3, .slice A4 cases.length c4] 26)))
              case first =>
                clear T F
                by_cases z5 : z = 5
                · subst z5
                  have h3 : b = b2 := by rw [← hI]; simp
                  subst h3
                  clear hI
                  refine start_ (n := 17) (S := fun w' => w'.cell? ⟨w.heap.size, 0, none⟩ = some (.slice A0 code.length c0) ∧ w'.cell? ⟨w.heap.size, 1, none⟩ = some (.slice A1 origs.length c1) ∧ w'.cell? ⟨w.heap.size, 2, none⟩ = some (.slice A2 dests.length c2) ∧ w'.cell? ⟨w.heap.size, 3, none⟩ = some (.slice (some ad) loops.length c3) ∧ w'.cell? ⟨w.heap.size, 4, none⟩ = some (.slice A4 cases.length c4) ∧ w'.cell? (ad.add (kk * 2)) = some (.int .i64 y.f0) ∧ w'.cell? ⟨(ad.add (kk * 2)).block, (ad.add (kk * 2)).off + 1, none⟩ = some (.slice B y.f1.length cB)) (ds := []) (bz_ 17 0) (by kernel_rfl) rfl rfl (⟨(blk_cell HD.out 0).trans rfl, (blk_cell HD.out 1).trans rfl, (blk_cell HD.out 2).trans rfl, (blk_cell HD.out 3).trans rfl, (blk_cell HD.out 4).trans rfl, HG0.out, HG1.out⟩) (fun hHeld => ?_)
                  refine with_tab (rfl : rtab .any (opsOf Try.f13 17) = rtab .any (opsOf Try.f13 17)) (fun HT_ => ?_)
                  replace HD := Aside0.mk (blk_drew HD.out)
                  replace HB := Aside0.mk (below_drew HB.out)
                  replace HG0 := Aside0.mk (show w5.drew.cell? _ = _ from HG0.out)
                  replace HG1 := Aside0.mk (show w5.drew.cell? _ = _ from HG1.out)
                  generalize w5.drew = w19 at HD HB HG0 HG1 hHeld ⊢
                  apply pu_ 0 (some 76) (bz_ 17 1) HT_ rfl rfl (by kernel_rfl) (fun _ _ _ h => h) (by rfl)
                  · intro _; go_simp; with_reducible rfl
                  · go_simp; rfl
                  apply pu_ 1 (some 77) (bz_ 17 3) HT_ rfl rfl (by kernel_rfl) (fun _ _ _ h => h) (by rfl)
                  · intro _; go_simp; with_reducible rfl
                  · go_simp; rfl
                  apply pu_ 2 (some 78) (bz_ 17 7) HT_ rfl rfl (by kernel_rfl) (fun _ _ _ h => h) (by rfl)
                  · intro _; go_simp; with_reducible rfl
                  · go_simp; rfl
                  apply sk_ 3 (some 79) (bz_ 17 15) HT_ rfl rfl (by kernel_rfl) (fun _ _ _ h => h) (by rfl)
                  · go_simp; rfl
                  apply sk_ 4 (some 80) (bz_ 17 31) HT_ rfl rfl (by kernel_rfl) (fun _ _ _ h => h) (by rfl)
                  · go_simp; rfl
                  apply pu_ 5 (some 81) (bz_ 17 63) HT_ rfl rfl (by kernel_rfl) (fun _ _ _ h => h) (by rfl)
                  · intro _; go_simp; with_reducible rfl
                  · go_simp; rfl
                  apply pu_ 6 (some 82) (bz_ 17 127) HT_ rfl rfl (by kernel_rfl) (fun _ _ _ h => h) (by rfl)
                  · intro _; go_simp; with_reducible rfl
                  · go_simp; rfl
                  apply pu_ 8 (some 84) (bz_ 17 383) HT_ rfl rfl (by kernel_rfl) (fun _ _ _ h => h) (by rfl)
                  · intro _; go_simp; with_reducible rfl
                  · go_simp; rfl
                  apply pu_ 10 (some 86) (bz_ 17 1407) HT_ rfl rfl (by kernel_rfl) (fun _ _ _ h => h) (by rfl)
                  · intro _; go_simp; with_reducible rfl
                  · go_simp; rfl
                  apply tk_ 7 (some 83) (bz_ 17 1535) HT_ hHeld rfl rfl (by kernel_rfl) (fun _ _ _ h => h) (by rfl)
                  · intro _ hS; go_split_ands; go_simp; with_reducible rfl
                  · go_simp; rfl
                  apply tk_ 9 (some 85) (bz_ 17 2047) HT_ hHeld rfl rfl (by kernel_rfl) (fun _ _ _ h => h) (by rfl)
                  · intro _ hS; go_split_ands; go_simp; with_reducible rfl
                  · go_simp; rfl
                  apply pu_ 11 (some 87) (bz_ 17 4095) HT_ rfl rfl (by kernel_rfl) (fun _ _ _ h => h) (by rfl)
                  · intro _; go_simp; with_reducible rfl
                  · go_simp; rfl
                  apply pu_ 12 (some 88) (bz_ 17 8191) HT_ rfl rfl (by kernel_rfl) (fun _ _ _ h => h) (by rfl)
                  · intro _; go_simp; with_reducible rfl
                  · go_simp; rfl
                  apply tk_ 13 (some 89) (bz_ 17 16383) HT_ hHeld rfl rfl (by kernel_rfl) (fun _ _ _ h => h) (by rfl)
                  · intro _ hS; go_split_ands; go_simp; with_reducible rfl
                  · go_simp; rfl
                  refine one_ (i := 14) (N := some 90) (bz_ 17 32767) rfl rfl (one_of HT_.out (by kernel_rfl)) (by decide) (fun K hK => ?_)
                  refine goes_ Try.func31 (by kernel_rfl) rfl #[drV A0 A1 A2 (some ad) A4 c0 c1 c2 c3 c4 code.length origs.length dests.length loops.length cases.length, .slice B y.f1.length cB, .int .i64 9] (by rfl) rfl rfl (by (try simp only [List.map_toArray, List.map_cons, List.map_nil]); first | done | rfl) ?_
                  refine (hk2 _ HB.out).mono ?_
                  rintro e w6 ⟨rfl, hb⟩
                  refine ⟨_, rfl, ?_⟩
                  replace HD := Aside0.mk (blk_below HD.out hb)
                  replace HG0 := Aside0.mk ((hb.cell (World.block_lt_of_cell? _ _ HG0.out)).trans HG0.out)
                  replace HG1 := Aside0.mk ((hb.cell (World.block_lt_of_cell? _ _ HG1.out)).trans HG1.out)
                  replace HB := Aside0.mk (HB.out.trans (hb.mono HB.out.size))
                  clear hb
                  refine hK.out _ _ (⟨(blk_cell HD.out 0).trans rfl, (blk_cell HD.out 1).trans rfl, (blk_cell HD.out 2).trans rfl, (blk_cell HD.out 3).trans rfl, (blk_cell HD.out 4).trans rfl, HG0.out, HG1.out⟩) (fun hHeld => ?_)
                  clear hK K
                  apply pu_ 15 (some 91) (bz_ 17 65535) HT_ rfl rfl (by kernel_rfl) (fun _ _ _ h => h) (by rfl)
                  · intro _; go_simp; with_reducible rfl
                  · go_simp; rfl
                  apply pu_ 16 (some 92) (bz_ 17 131071) HT_ rfl rfl (by kernel_rfl) (fun _ _ _ h => h) (by rfl)
                  · intro _; go_simp; with_reducible rfl
                  · go_simp; rfl
                  refine done_ (done_of HT_.out (by kernel_rfl)) ?_
                  go_wp2_with fail
                  go_meet
                  case rel => exact ⟨rfl, HB, HD⟩
                · have e5 : (z != 5) = true := bne_iff_ne.mpr z5
                  by_cases z6 : z = 6
                  · subst z6
                    have h3 : b = b2 := by rw [← hI]; simp
                    subst h3
                    clear hI
                    refine start_ (n := 17) (S := fun w' => w'.cell? ⟨w.heap.size, 0, none⟩ = some (.slice A0 code.length c0) ∧ w'.cell? ⟨w.heap.size, 1, none⟩ = some (.slice A1 origs.length c1) ∧ w'.cell? ⟨w.heap.size, 2, none⟩ = some (.slice A2 dests.length c2) ∧ w'.cell? ⟨w.heap.size, 3, none⟩ = some (.slice (some ad) loops.length c3) ∧ w'.cell? ⟨w.heap.size, 4, none⟩ = some (.slice A4 cases.length c4) ∧ w'.cell? (ad.add (kk * 2)) = some (.int .i64 y.f0) ∧ w'.cell? ⟨(ad.add (kk * 2)).block, (ad.add (kk * 2)).off + 1, none⟩ = some (.slice B y.f1.length cB)) (ds := []) (bz_ 17 0) (by kernel_rfl) rfl rfl (⟨(blk_cell HD.out 0).trans rfl, (blk_cell HD.out 1).trans rfl, (blk_cell HD.out 2).trans rfl, (blk_cell HD.out 3).trans rfl, (blk_cell HD.out 4).trans rfl, HG0.out, HG1.out⟩) (fun hHeld => ?_)
                    refine with_tab (rfl : rtab .any (opsOf Try.f13 17) = rtab .any (opsOf Try.f13 17)) (fun HT_ => ?_)
                    replace HD := Aside0.mk (blk_drew HD.out)
                    replace HB := Aside0.mk (below_drew HB.out)
                    replace HG0 := Aside0.mk (show w5.drew.cell? _ = _ from HG0.out)
                    replace HG1 := Aside0.mk (show w5.drew.cell? _ = _ from HG1.out)
                    generalize w5.drew = w19 at HD HB HG0 HG1 hHeld ⊢
                    apply pu_ 0 (some 76) (bz_ 17 1) HT_ rfl rfl (by kernel_rfl) (fun _ _ _ h => h) (by rfl)
                    · intro _; go_simp; with_reducible rfl
                    · go_simp; rfl
                    apply pu_ 1 (some 77) (bz_ 17 3) HT_ rfl rfl (by kernel_rfl) (fun _ _ _ h => h) (by rfl)
                    · intro _; go_simp; with_reducible rfl
                    · go_simp; rfl
                    apply pu_ 2 (some 78) (bz_ 17 7) HT_ rfl rfl (by kernel_rfl) (fun _ _ _ h => h) (by rfl)
                    · intro _; go_simp; with_reducible rfl
                    · go_simp; rfl
                    apply pu_ 3 (some 79) (bz_ 17 15) HT_ rfl rfl (by kernel_rfl) (fun _ _ _ h => h) (by rfl)
                    · intro _; go_simp; with_reducible rfl
                    · go_simp; rfl
                    apply pu_ 4 (some 80) (bz_ 17 31) HT_ rfl rfl (by kernel_rfl) (fun _ _ _ h => h) (by rfl)
                    · intro _; go_simp; with_reducible rfl
                    · go_simp; rfl
                    apply pu_ 5 (some 81) (bz_ 17 63) HT_ rfl rfl (by kernel_rfl) (fun _ _ _ h => h) (by rfl)
                    · intro _; go_simp; with_reducible rfl
                    · go_simp; rfl
                    apply pu_ 6 (some 82) (bz_ 17 127) HT_ rfl rfl (by kernel_rfl) (fun _ _ _ h => h) (by rfl)
                    · intro _; go_simp; with_reducible rfl
                    · go_simp; rfl
                    apply pu_ 8 (some 84) (bz_ 17 383) HT_ rfl rfl (by kernel_rfl) (fun _ _ _ h => h) (by rfl)
                    · intro _; go_simp; with_reducible rfl
                    · go_simp; rfl
                    apply pu_ 10 (some 86) (bz_ 17 1407) HT_ rfl rfl (by kernel_rfl) (fun _ _ _ h => h) (by rfl)
                    · intro _; go_simp; with_reducible rfl
                    · go_simp; rfl
                    apply tk_ 7 (some 83) (bz_ 17 1535) HT_ hHeld rfl rfl (by kernel_rfl) (fun _ _ _ h => h) (by rfl)
                    · intro _ hS; go_split_ands; go_simp; with_reducible rfl
                    · go_simp; rfl
                    apply tk_ 9 (some 85) (bz_ 17 2047) HT_ hHeld rfl rfl (by kernel_rfl) (fun _ _ _ h => h) (by rfl)
                    · intro _ hS; go_split_ands; go_simp; with_reducible rfl
                    · go_simp; rfl
                    apply pu_ 11 (some 87) (bz_ 17 4095) HT_ rfl rfl (by kernel_rfl) (fun _ _ _ h => h) (by rfl)
                    · intro _; go_simp; with_reducible rfl
                    · go_simp; rfl
                    apply pu_ 12 (some 88) (bz_ 17 8191) HT_ rfl rfl (by kernel_rfl) (fun _ _ _ h => h) (by rfl)
                    · intro _; go_simp; with_reducible rfl
                    · go_simp; rfl
                    apply tk_ 13 (some 89) (bz_ 17 16383) HT_ hHeld rfl rfl (by kernel_rfl) (fun _ _ _ h => h) (by rfl)
                    · intro _ hS; go_split_ands; go_simp; with_reducible rfl
                    · go_simp; rfl
                    refine one_ (i := 14) (N := some 90) (bz_ 17 32767) rfl rfl (one_of HT_.out (by kernel_rfl)) (by decide) (fun K hK => ?_)
                    refine goes_ Try.func31 (by kernel_rfl) rfl #[drV A0 A1 A2 (some ad) A4 c0 c1 c2 c3 c4 code.length origs.length dests.length loops.length cases.length, .slice B y.f1.length cB, .int .i64 9] (by rfl) rfl rfl (by (try simp only [List.map_toArray, List.map_cons, List.map_nil]); first | done | rfl) ?_
                    refine (hk2 _ HB.out).mono ?_
                    rintro e w6 ⟨rfl, hb⟩
                    refine ⟨_, rfl, ?_⟩
                    replace HD := Aside0.mk (blk_below HD.out hb)
                    replace HG0 := Aside0.mk ((hb.cell (World.block_lt_of_cell? _ _ HG0.out)).trans HG0.out)
                    replace HG1 := Aside0.mk ((hb.cell (World.block_lt_of_cell? _ _ HG1.out)).trans HG1.out)
                    replace HB := Aside0.mk (HB.out.trans (hb.mono HB.out.size))
                    clear hb
                    refine hK.out _ _ (⟨(blk_cell HD.out 0).trans rfl, (blk_cell HD.out 1).trans rfl, (blk_cell HD.out 2).trans rfl, (blk_cell HD.out 3).trans rfl, (blk_cell HD.out 4).trans rfl, HG0.out, HG1.out⟩) (fun hHeld => ?_)
                    clear hK K
                    apply pu_ 15 (some 91) (bz_ 17 65535) HT_ rfl rfl (by kernel_rfl) (fun _ _ _ h => h) (by rfl)
                    · intro _; go_simp; with_reducible rfl
                    · go_simp; rfl
                    apply pu_ 16 (some 92) (bz_ 17 131071) HT_ rfl rfl (by kernel_rfl) (fun _ _ _ h => h) (by rfl)
                    · intro _; go_simp; with_reducible rfl
                    · go_simp; rfl
                    refine done_ (done_of HT_.out (by kernel_rfl)) ?_
                    go_wp2_with fail
                    go_meet
                    case rel => exact ⟨rfl, HB, HD⟩
                  · have e6 : (z != 6) = true := bne_iff_ne.mpr z6
                    have h3 : b = false := by rw [← hI]; simp [z5, z6]
                    subst h3
                    clear hI z5 z6
                    refine start_ (n := 17) (S := fun w' => w'.cell? ⟨w.heap.size, 0, none⟩ = some (.slice A0 code.length c0) ∧ w'.cell? ⟨w.heap.size, 1, none⟩ = some (.slice A1 origs.length c1) ∧ w'.cell? ⟨w.heap.size, 2, none⟩ = some (.slice A2 dests.length c2) ∧ w'.cell? ⟨w.heap.size, 3, none⟩ = some (.slice (some ad) loops.length c3) ∧ w'.cell? ⟨w.heap.size, 4, none⟩ = some (.slice A4 cases.length c4) ∧ w'.cell? (ad.add (kk * 2)) = some (.int .i64 y.f0) ∧ w'.cell? ⟨(ad.add (kk * 2)).block, (ad.add (kk * 2)).off + 1, none⟩ = some (.slice B y.f1.length cB)) (ds := []) (bz_ 17 0) (by kernel_rfl) rfl rfl (⟨(blk_cell HD.out 0).trans rfl, (blk_cell HD.out 1).trans rfl, (blk_cell HD.out 2).trans rfl, (blk_cell HD.out 3).trans rfl, (blk_cell HD.out 4).trans rfl, HG0.out, HG1.out⟩) (fun hHeld => ?_)
                    refine with_tab (rfl : rtab .any (opsOf Try.f13 17) = rtab .any (opsOf Try.f13 17)) (fun HT_ => ?_)
                    replace HD := Aside0.mk (blk_drew HD.out)
                    replace HB := Aside0.mk (below_drew HB.out)
                    replace HG0 := Aside0.mk (show w5.drew.cell? _ = _ from HG0.out)
                    replace HG1 := Aside0.mk (show w5.drew.cell? _ = _ from HG1.out)
                    generalize w5.drew = w19 at HD HB HG0 HG1 hHeld ⊢
                    apply pu_ 0 (some 76) (bz_ 17 1) HT_ rfl rfl (by kernel_rfl) (fun _ _ _ h => h) (by rfl)
                    · intro _; go_simp; with_reducible rfl
                    · go_simp; rfl
                    apply pu_ 1 (some 77) (bz_ 17 3) HT_ rfl rfl (by kernel_rfl) (fun _ _ _ h => h) (by rfl)
                    · intro _; go_simp; with_reducible rfl
                    · go_simp; rfl
                    apply pu_ 2 (some 78) (bz_ 17 7) HT_ rfl rfl (by kernel_rfl) (fun _ _ _ h => h) (by rfl)
                    · intro _; go_simp; with_reducible rfl
                    · go_simp; rfl
                    apply pu_ 3 (some 79) (bz_ 17 15) HT_ rfl rfl (by kernel_rfl) (fun _ _ _ h => h) (by rfl)
                    · intro _; go_simp; with_reducible rfl
                    · go_simp; rfl
                    apply pu_ 4 (some 80) (bz_ 17 31) HT_ rfl rfl (by kernel_rfl) (fun _ _ _ h => h) (by rfl)
                    · intro _; go_simp; with_reducible rfl
                    · go_simp; rfl
                    apply pu_ 5 (some 81) (bz_ 17 63) HT_ rfl rfl (by kernel_rfl) (fun _ _ _ h => h) (by rfl)
                    · intro _; go_simp; with_reducible rfl
                    · go_simp; rfl
                    apply pu_ 6 (some 82) (bz_ 17 127) HT_ rfl rfl (by kernel_rfl) (fun _ _ _ h => h) (by rfl)
                    · intro _; go_simp; with_reducible rfl
                    · go_simp; rfl
                    apply sk_ 7 (some 83) (bz_ 17 255) HT_ rfl rfl (by kernel_rfl) (fun _ _ _ h => h) (by rfl)
                    · go_simp; rfl
                    apply sk_ 8 (some 84) (bz_ 17 511) HT_ rfl rfl (by kernel_rfl) (fun _ _ _ h => h) (by rfl)
                    · go_simp; rfl
                    apply sk_ 9 (some 85) (bz_ 17 1023) HT_ rfl rfl (by kernel_rfl) (fun _ _ _ h => h) (by rfl)
                    · go_simp; rfl
                    apply sk_ 10 (some 86) (bz_ 17 2047) HT_ rfl rfl (by kernel_rfl) (fun _ _ _ h => h) (by rfl)
                    · go_simp; rfl
                    apply sk_ 11 (some 87) (bz_ 17 4095) HT_ rfl rfl (by kernel_rfl) (fun _ _ _ h => h) (by rfl)
                    · go_simp; rfl
                    apply sk_ 12 (some 88) (bz_ 17 8191) HT_ rfl rfl (by kernel_rfl) (fun _ _ _ h => h) (by rfl)
                    · go_simp; rfl
                    apply sk_ 13 (some 89) (bz_ 17 16383) HT_ rfl rfl (by kernel_rfl) (fun _ _ _ h => h) (by rfl)
                    · go_simp; rfl
                    apply sk_ 14 (some 90) (bz_ 17 32767) HT_ rfl rfl (by kernel_rfl) (fun _ _ _ h => h) (by rfl)
                    · go_simp; rfl
                    apply sk_ 15 (some 91) (bz_ 17 65535) HT_ rfl rfl (by kernel_rfl) (fun _ _ _ h => h) (by rfl)
                    · go_simp; rfl
                    apply pu_ 16 (some 92) (bz_ 17 131071) HT_ rfl rfl (by kernel_rfl) (fun _ _ _ h => h) (by rfl)
                    · intro _; go_simp; with_reducible rfl
                    · go_simp; rfl
                    refine done_ (done_of HT_.out (by kernel_rfl)) ?_
                    go_wp2_with fail
                    go_meet
                    case rel => exact ⟨rfl, HB, HD⟩
              case rest =>
                obtain ⟨rfl, HB, HD⟩ := hcut
                clear HG0 HG1 hk hk2 hI
                cases b with
                | true =>
                  have T2 := Aside0.mk (T.out rfl)
                  clear T F
                  go_wp2_with fail
                  go_roundg (loops.length - (kk + 1))
                  case measure => omega
                  case rel => exact ⟨kk + 1, by omega, by omega, by go_num, HB, HD, T2⟩
                | false =>
                  have F2 := Aside0.mk (F.out rfl)
                  clear T F
                  go_wp2_with fail
                  go_ret
                  exact ⟨ret_bool F2.out, HB.out⟩
            · have hltz : ¬ (kk : Int) < (loops.length : Int) := by omega
              have : kk = loops.length := by omega
              subst this
              rw [List.take_length] at A
              have R4 := Aside0.mk (show cases.all (caseP code) = r by have h2 := R3.out; have h1 := A.out; first | rw [h1] at h2; exact h2 | (simp only [areP, destsP] at h2; rw [h1] at h2; exact h2))
              clear A R3 hltz hlt hg hkk hlen
              have hdn := (blk_cell HD.out 4).trans rfl
              go_wp2_with fail
              clear hdn hdl
              go_loopg [7] cases.length (fun gg s wr => ∃ kk : Nat, kk ≤ cases.length ∧ cases.length - kk ≤ gg ∧ s = .int .i64 kk ∧ Aside0 (Below w.heap.size w wr) ∧ Aside0 (wr.heap[w.heap.size]? = some (.cells #[.slice A0 code.length c0, .slice A1 origs.length c1, .slice A2 dests.length c2, .slice A3 loops.length c3, .slice A4 cases.length c4] 26)) ∧ Aside0 ((cases.take kk).all (caseP code) = true))
              case atStart => exact ⟨0, Nat.zero_le _, by omega, rfl, HB, HD, ⟨rfl⟩⟩
              case round =>
                clear HB HD
                try clear hd0
                obtain ⟨kk, hkk, hg, rfl, HB, HD, A⟩ := hrel
                have hlen := HH.out.r4.2.1
                have hdl := (blk_cell HD.out 4).trans rfl
                by_cases hlt : kk < cases.length
                · have hltz : (kk : Int) < (cases.length : Int) := by omega
                  obtain ⟨ad, B, cB, e, g0, g1, hcB, gC⟩ := at_T59 HH.out.r4 (kk : Int) (by omega) hltz
                  cases e
                  rw [Int.toNat_natCast] at g0 g1
                  have g2 := (HB.out.cell (World.block_lt_of_cell? w _ g0)).trans g0
                  have g3 := (HB.out.cell (World.block_lt_of_cell? w _ g1)).trans g1
                  have hrd : cases[kk]? = some (rd_T59 cases (kk : Int)) := by simp [rd_T59, List.getD_eq_getElem?_getD, hlt]
                  generalize hy : rd_T59 cases (kk : Int) = y at g0 g1 g2 g3 hrd hcB gC
                  clear hy g0 g1
                  have hmem : y ∈ cases := List.mem_of_getElem? hrd
                  obtain ⟨b, hI⟩ : ∃ b, (caseP code) y = b := ⟨_, rfl⟩
                  have T : Aside0 (b = true → (cases.take (kk + 1)).all (caseP code) = true) := ⟨fun hy => by
                    rw [List.take_add_one, hrd, List.all_append, A.out]
                    simpa [hI] using hy⟩
                  have F : Aside0 (b = false → false = r) := ⟨fun hy => by
                    have h2 : cases.all (caseP code) = false := List.all_eq_false.2 ⟨y, hmem, by simpa [hI] using hy⟩
                    have h3 := R4.out
                    rw [← h3, h2]
                    try rfl⟩
                  clear A hmem hrd
                  have hk : ∀ W, Below w.heap.size w W → Calls Try.prog 30 #[drV A0 A1 A2 A3 (some ad) c0 c1 c2 c3 c4 code.length origs.length dests.length loops.length cases.length, .int .i64 y.f0] W fun e w' => e = .returned (.int .i64 (kindOf code y.f0)) ∧ Below W.heap.size W w' := fun W hW => kind_calls A0 A1 A2 A3 (some ad) c0 c1 c2 c3 c4 code origs dests loops cases W (HH.out.below hW) y.f0
                  have hk2 : ∀ W, Below w.heap.size w W → Calls Try.prog 31 #[drV A0 A1 A2 A3 (some ad) c0 c1 c2 c3 c4 code.length origs.length dests.length loops.length cases.length, .slice B y.f1.length cB, .int .i64 3] W fun e w' => e = .returned (.bool (areP code y.f1 [3])) ∧ Below W.heap.size W w' := fun W hW => all_calls A0 A1 A2 A3 (some ad) c0 c1 c2 c3 c4 code origs dests loops cases W (HH.out.below hW) B cB y.f1 3 (by decide) (Kd.C_below gC hW) hcB
                  have hI2 := isOf_kind code [10] (by decide) y.f0
                  unfold caseP at hI
                  rw [hI2] at hI
                  clear hI2
                  generalize kindOf code y.f0 = z at hk hI
                  generalize areP code y.f1 [3] = b2 at hk2 hI
                  clear gC
                  go_upto_region 22 with fail
                  have HG0 := Aside0.mk g2
                  have HG1 := Aside0.mk g3
                  clear g2 g3 hdl
                  go_cut [128] (fun v wc => v = .bool (!b) ∧ Aside0 (Below w.heap.size w wc) ∧ Aside0 (wc.heap[w.heap.size]? = some (.cells #[.slice A0 code.length c0, .slice A1 origs.length c1, .slice A2 dests.length c2, .slice A3 loops.length c3, .slice (some ad) cases.length c4] 26)))
                  case first =>
                    clear T F
                    by_cases hm : y.f0 = -1
                    · have h3 : b = b2 := by rw [← hI]; simp [hm]
                      subst h3
                      have hm2 : (y.f0 != -1) = false := bne_eq_false_iff_eq.mpr hm
                      clear hI hm
                      refine start_ (n := 29) (S := fun w' => w'.cell? ⟨w.heap.size, 0, none⟩ = some (.slice A0 code.length c0) ∧ w'.cell? ⟨w.heap.size, 1, none⟩ = some (.slice A1 origs.length c1) ∧ w'.cell? ⟨w.heap.size, 2, none⟩ = some (.slice A2 dests.length c2) ∧ w'.cell? ⟨w.heap.size, 3, none⟩ = some (.slice A3 loops.length c3) ∧ w'.cell? ⟨w.heap.size, 4, none⟩ = some (.slice (some ad) cases.length c4) ∧ w'.cell? (ad.add (kk * 2)) = some (.int .i64 y.f0) ∧ w'.cell? ⟨(ad.add (kk * 2)).block, (ad.add (kk * 2)).off + 1, none⟩ = some (.slice B y.f1.length cB)) (ds := []) (bz_ 29 0) (by kernel_rfl) rfl rfl (⟨(blk_cell HD.out 0).trans rfl, (blk_cell HD.out 1).trans rfl, (blk_cell HD.out 2).trans rfl, (blk_cell HD.out 3).trans rfl, (blk_cell HD.out 4).trans rfl, HG0.out, HG1.out⟩) (fun hHeld => ?_)
                      refine with_tab (rfl : rtab .any (opsOf Try.f13 22) = rtab .any (opsOf Try.f13 22)) (fun HT_ => ?_)
                      replace HD := Aside0.mk (blk_drew HD.out)
                      replace HB := Aside0.mk (below_drew HB.out)
                      replace HG0 := Aside0.mk (show wr.drew.cell? _ = _ from HG0.out)
                      replace HG1 := Aside0.mk (show wr.drew.cell? _ = _ from HG1.out)
                      generalize wr.drew = w9 at HD HB HG0 HG1 hHeld ⊢
                      apply pu_ 0 (some 100) (bz_ 29 1) HT_ rfl rfl (by kernel_rfl) (fun _ _ _ h => h) (by rfl)
                      · intro _; go_simp; with_reducible rfl
                      · go_simp; rfl
                      apply pu_ 2 (some 102) (bz_ 29 5) HT_ rfl rfl (by kernel_rfl) (fun _ _ _ h => h) (by rfl)
                      · intro _; go_simp; with_reducible rfl
                      · go_simp; rfl
                      apply tk_ 1 (some 101) (bz_ 29 7) HT_ hHeld rfl rfl (by kernel_rfl) (fun _ _ _ h => h) (by rfl)
                      · intro _ hS; go_split_ands; go_simp; with_reducible rfl
                      · go_simp; rfl
                      apply pu_ 3 (some 103) (bz_ 29 15) HT_ rfl rfl (by kernel_rfl) (fun _ _ _ h => h) (by rfl)
                      · intro _; go_simp; with_reducible rfl
                      · go_simp; rfl
                      apply pu_ 4 (some 104) (bz_ 29 31) HT_ rfl rfl (by kernel_rfl) (fun _ _ _ h => h) (by rfl)
                      · intro _; go_simp; with_reducible rfl
                      · go_simp; rfl
                      apply tk_ 5 (some 105) (bz_ 29 63) HT_ hHeld rfl rfl (by kernel_rfl) (fun _ _ _ h => h) (by rfl)
                      · intro _ hS; go_split_ands; go_simp; with_reducible rfl
                      · go_simp; rfl
                      apply pu_ 6 (some 106) (bz_ 29 127) HT_ rfl rfl (by kernel_rfl) (fun _ _ _ h => h) (by rfl)
                      · intro _; go_simp; with_reducible rfl
                      · go_simp; rfl
                      apply pu_ 7 (some 107) (bz_ 29 255) HT_ rfl rfl (by kernel_rfl) (fun _ _ _ h => h) (by rfl)
                      · intro _; go_simp; with_reducible rfl
                      · go_simp; rfl
                      apply sk_ 8 (some 108) (bz_ 29 511) HT_ rfl rfl (by kernel_rfl) (fun _ _ _ h => h) (by rfl)
                      · go_simp; rfl
                      apply sk_ 9 (some 109) (bz_ 29 1023) HT_ rfl rfl (by kernel_rfl) (fun _ _ _ h => h) (by rfl)
                      · go_simp; rfl
                      apply sk_ 10 (some 110) (bz_ 29 2047) HT_ rfl rfl (by kernel_rfl) (fun _ _ _ h => h) (by rfl)
                      · go_simp; rfl
                      apply sk_ 11 (some 111) (bz_ 29 4095) HT_ rfl rfl (by kernel_rfl) (fun _ _ _ h => h) (by rfl)
                      · go_simp; rfl
                      apply sk_ 12 (some 112) (bz_ 29 8191) HT_ rfl rfl (by kernel_rfl) (fun _ _ _ h => h) (by rfl)
                      · go_simp; rfl
                      apply sk_ 13 (some 113) (bz_ 29 16383) HT_ rfl rfl (by kernel_rfl) (fun _ _ _ h => h) (by rfl)
                      · go_simp; rfl
                      apply sk_ 14 (some 114) (bz_ 29 32767) HT_ rfl rfl (by kernel_rfl) (fun _ _ _ h => h) (by rfl)
                      · go_simp; rfl
                      apply sk_ 15 (some 115) (bz_ 29 65535) HT_ rfl rfl (by kernel_rfl) (fun _ _ _ h => h) (by rfl)
                      · go_simp; rfl
                      apply sk_ 16 (some 116) (bz_ 29 131071) HT_ rfl rfl (by kernel_rfl) (fun _ _ _ h => h) (by rfl)
                      · go_simp; rfl
                      apply pu_ 17 (some 117) (bz_ 29 262143) HT_ rfl rfl (by kernel_rfl) (fun _ _ _ h => h) (by rfl)
                      · intro _; go_simp; with_reducible rfl
                      · go_simp; rfl
                      apply pu_ 18 (some 118) (bz_ 29 524287) HT_ rfl rfl (by kernel_rfl) (fun _ _ _ h => h) (by rfl)
                      · intro _; go_simp; with_reducible rfl
                      · go_simp; rfl
                      apply pu_ 20 (some 120) (bz_ 29 1572863) HT_ rfl rfl (by kernel_rfl) (fun _ _ _ h => h) (by rfl)
                      · intro _; go_simp; with_reducible rfl
                      · go_simp; rfl
                      apply pu_ 22 (some 122) (bz_ 29 5767167) HT_ rfl rfl (by kernel_rfl) (fun _ _ _ h => h) (by rfl)
                      · intro _; go_simp; with_reducible rfl
                      · go_simp; rfl
                      apply tk_ 19 (some 119) (bz_ 29 6291455) HT_ hHeld rfl rfl (by kernel_rfl) (fun _ _ _ h => h) (by rfl)
                      · intro _ hS; go_split_ands; go_simp; with_reducible rfl
                      · go_simp; rfl
                      apply tk_ 21 (some 121) (bz_ 29 8388607) HT_ hHeld rfl rfl (by kernel_rfl) (fun _ _ _ h => h) (by rfl)
                      · intro _ hS; go_split_ands; go_simp; with_reducible rfl
                      · go_simp; rfl
                      apply pu_ 23 (some 123) (bz_ 29 16777215) HT_ rfl rfl (by kernel_rfl) (fun _ _ _ h => h) (by rfl)
                      · intro _; go_simp; with_reducible rfl
                      · go_simp; rfl
                      apply pu_ 24 (some 124) (bz_ 29 33554431) HT_ rfl rfl (by kernel_rfl) (fun _ _ _ h => h) (by rfl)
                      · intro _; go_simp; with_reducible rfl
                      · go_simp; rfl
                      apply tk_ 25 (some 125) (bz_ 29 67108863) HT_ hHeld rfl rfl (by kernel_rfl) (fun _ _ _ h => h) (by rfl)
                      · intro _ hS; go_split_ands; go_simp; with_reducible rfl
                      · go_simp; rfl
                      refine one_ (i := 26) (N := some 126) (bz_ 29 134217727) rfl rfl (one_of HT_.out (by kernel_rfl)) (by decide) (fun K hK => ?_)
                      refine goes_ Try.func31 (by kernel_rfl) rfl #[drV A0 A1 A2 A3 (some ad) c0 c1 c2 c3 c4 code.length origs.length dests.length loops.length cases.length, .slice B y.f1.length cB, .int .i64 3] (by rfl) rfl rfl (by (try simp only [List.map_toArray, List.map_cons, List.map_nil]); first | done | rfl) ?_
                      refine (hk2 _ HB.out).mono ?_
                      rintro e w6 ⟨rfl, hb⟩
                      refine ⟨_, rfl, ?_⟩
                      replace HD := Aside0.mk (blk_below HD.out hb)
                      replace HG0 := Aside0.mk ((hb.cell (World.block_lt_of_cell? _ _ HG0.out)).trans HG0.out)
                      replace HG1 := Aside0.mk ((hb.cell (World.block_lt_of_cell? _ _ HG1.out)).trans HG1.out)
                      replace HB := Aside0.mk (HB.out.trans (hb.mono HB.out.size))
                      clear hb
                      refine hK.out _ _ (⟨(blk_cell HD.out 0).trans rfl, (blk_cell HD.out 1).trans rfl, (blk_cell HD.out 2).trans rfl, (blk_cell HD.out 3).trans rfl, (blk_cell HD.out 4).trans rfl, HG0.out, HG1.out⟩) (fun hHeld => ?_)
                      clear hK K
                      apply pu_ 27 (some 127) (bz_ 29 268435455) HT_ rfl rfl (by kernel_rfl) (fun _ _ _ h => h) (by rfl)
                      · intro _; go_simp; with_reducible rfl
                      · go_simp; rfl
                      apply pu_ 28 (some 128) (bz_ 29 536870911) HT_ rfl rfl (by kernel_rfl) (fun _ _ _ h => h) (by rfl)
                      · intro _; go_simp; with_reducible rfl
                      · go_simp; rfl
                      refine done_ (done_of HT_.out (by kernel_rfl)) ?_
                      go_wp2_with fail
                      go_meet
                      case rel => exact ⟨rfl, HB, HD⟩
                    · have hm2 : (y.f0 != -1) = true := bne_iff_ne.mpr hm
                      by_cases z10 : z = 10
                      · subst z10
                        have h3 : b = b2 := by rw [← hI]; simp
                        subst h3
                        clear hI hm
                        refine start_ (n := 29) (S := fun w' => w'.cell? ⟨w.heap.size, 0, none⟩ = some (.slice A0 code.length c0) ∧ w'.cell? ⟨w.heap.size, 1, none⟩ = some (.slice A1 origs.length c1) ∧ w'.cell? ⟨w.heap.size, 2, none⟩ = some (.slice A2 dests.length c2) ∧ w'.cell? ⟨w.heap.size, 3, none⟩ = some (.slice A3 loops.length c3) ∧ w'.cell? ⟨w.heap.size, 4, none⟩ = some (.slice (some ad) cases.length c4) ∧ w'.cell? (ad.add (kk * 2)) = some (.int .i64 y.f0) ∧ w'.cell? ⟨(ad.add (kk * 2)).block, (ad.add (kk * 2)).off + 1, none⟩ = some (.slice B y.f1.length cB)) (ds := []) (bz_ 29 0) (by kernel_rfl) rfl rfl (⟨(blk_cell HD.out 0).trans rfl, (blk_cell HD.out 1).trans rfl, (blk_cell HD.out 2).trans rfl, (blk_cell HD.out 3).trans rfl, (blk_cell HD.out 4).trans rfl, HG0.out, HG1.out⟩) (fun hHeld => ?_)
                        refine with_tab (rfl : rtab .any (opsOf Try.f13 22) = rtab .any (opsOf Try.f13 22)) (fun HT_ => ?_)
                        replace HD := Aside0.mk (blk_drew HD.out)
                        replace HB := Aside0.mk (below_drew HB.out)
                        replace HG0 := Aside0.mk (show wr.drew.cell? _ = _ from HG0.out)
                        replace HG1 := Aside0.mk (show wr.drew.cell? _ = _ from HG1.out)
                        generalize wr.drew = w9 at HD HB HG0 HG1 hHeld ⊢
                        apply pu_ 0 (some 100) (bz_ 29 1) HT_ rfl rfl (by kernel_rfl) (fun _ _ _ h => h) (by rfl)
                        · intro _; go_simp; with_reducible rfl
                        · go_simp; rfl
                        apply pu_ 2 (some 102) (bz_ 29 5) HT_ rfl rfl (by kernel_rfl) (fun _ _ _ h => h) (by rfl)
                        · intro _; go_simp; with_reducible rfl
                        · go_simp; rfl
                        apply tk_ 1 (some 101) (bz_ 29 7) HT_ hHeld rfl rfl (by kernel_rfl) (fun _ _ _ h => h) (by rfl)
                        · intro _ hS; go_split_ands; go_simp; with_reducible rfl
                        · go_simp; rfl
                        apply pu_ 3 (some 103) (bz_ 29 15) HT_ rfl rfl (by kernel_rfl) (fun _ _ _ h => h) (by rfl)
                        · intro _; go_simp; with_reducible rfl
                        · go_simp; rfl
                        apply pu_ 4 (some 104) (bz_ 29 31) HT_ rfl rfl (by kernel_rfl) (fun _ _ _ h => h) (by rfl)
                        · intro _; go_simp; with_reducible rfl
                        · go_simp; rfl
                        apply tk_ 5 (some 105) (bz_ 29 63) HT_ hHeld rfl rfl (by kernel_rfl) (fun _ _ _ h => h) (by rfl)
                        · intro _ hS; go_split_ands; go_simp; with_reducible rfl
                        · go_simp; rfl
                        apply pu_ 6 (some 106) (bz_ 29 127) HT_ rfl rfl (by kernel_rfl) (fun _ _ _ h => h) (by rfl)
                        · intro _; go_simp; with_reducible rfl
                        · go_simp; rfl
                        apply pu_ 7 (some 107) (bz_ 29 255) HT_ rfl rfl (by kernel_rfl) (fun _ _ _ h => h) (by rfl)
                        · intro _; go_simp; with_reducible rfl
                        · go_simp; rfl
                        apply pu_ 9 (some 109) (bz_ 29 767) HT_ rfl rfl (by kernel_rfl) (fun _ _ _ h => h) (by rfl)
                        · intro _; go_simp; with_reducible rfl
                        · go_simp; rfl
                        apply pu_ 11 (some 111) (bz_ 29 2815) HT_ rfl rfl (by kernel_rfl) (fun _ _ _ h => h) (by rfl)
                        · intro _; go_simp; with_reducible rfl
                        · go_simp; rfl
                        apply tk_ 8 (some 108) (bz_ 29 3071) HT_ hHeld rfl rfl (by kernel_rfl) (fun _ _ _ h => h) (by rfl)
                        · intro _ hS; go_split_ands; go_simp; with_reducible rfl
                        · go_simp; rfl
                        apply tk_ 10 (some 110) (bz_ 29 4095) HT_ hHeld rfl rfl (by kernel_rfl) (fun _ _ _ h => h) (by rfl)
                        · intro _ hS; go_split_ands; go_simp; with_reducible rfl
                        · go_simp; rfl
                        apply pu_ 12 (some 112) (bz_ 29 8191) HT_ rfl rfl (by kernel_rfl) (fun _ _ _ h => h) (by rfl)
                        · intro _; go_simp; with_reducible rfl
                        · go_simp; rfl
                        apply pu_ 13 (some 113) (bz_ 29 16383) HT_ rfl rfl (by kernel_rfl) (fun _ _ _ h => h) (by rfl)
                        · intro _; go_simp; with_reducible rfl
                        · go_simp; rfl
                        apply tk_ 14 (some 114) (bz_ 29 32767) HT_ hHeld rfl rfl (by kernel_rfl) (fun _ _ _ h => h) (by rfl)
                        · intro _ hS; go_split_ands; go_simp; with_reducible rfl
                        · go_simp; rfl
                        refine one_ (i := 15) (N := some 115) (bz_ 29 65535) rfl rfl (one_of HT_.out (by kernel_rfl)) (by decide) (fun K hK => ?_)
                        refine goes_ Try.func30 (by kernel_rfl) rfl #[drV A0 A1 A2 A3 (some ad) c0 c1 c2 c3 c4 code.length origs.length dests.length loops.length cases.length, .int .i64 y.f0] (by rfl) rfl rfl (by (try simp only [List.map_toArray, List.map_cons, List.map_nil]); first | done | rfl) ?_
                        refine (hk _ HB.out).mono ?_
                        rintro e w5 ⟨rfl, hb⟩
                        refine ⟨_, rfl, ?_⟩
                        replace HD := Aside0.mk (blk_below HD.out hb)
                        replace HG0 := Aside0.mk ((hb.cell (World.block_lt_of_cell? _ _ HG0.out)).trans HG0.out)
                        replace HG1 := Aside0.mk ((hb.cell (World.block_lt_of_cell? _ _ HG1.out)).trans HG1.out)
                        replace HB := Aside0.mk (HB.out.trans (hb.mono HB.out.size))
                        clear hb
                        refine hK.out _ _ (⟨(blk_cell HD.out 0).trans rfl, (blk_cell HD.out 1).trans rfl, (blk_cell HD.out 2).trans rfl, (blk_cell HD.out 3).trans rfl, (blk_cell HD.out 4).trans rfl, HG0.out, HG1.out⟩) (fun hHeld => ?_)
                        clear hK K
                        apply pu_ 16 (some 116) (bz_ 29 131071) HT_ rfl rfl (by kernel_rfl) (fun _ _ _ h => h) (by rfl)
                        · intro _; go_simp; with_reducible rfl
                        · go_simp; rfl
                        apply pu_ 17 (some 117) (bz_ 29 262143) HT_ rfl rfl (by kernel_rfl) (fun _ _ _ h => h) (by rfl)
                        · intro _; go_simp; with_reducible rfl
                        · go_simp; rfl
                        apply pu_ 18 (some 118) (bz_ 29 524287) HT_ rfl rfl (by kernel_rfl) (fun _ _ _ h => h) (by rfl)
                        · intro _; go_simp; with_reducible rfl
                        · go_simp; rfl
                        apply pu_ 20 (some 120) (bz_ 29 1572863) HT_ rfl rfl (by kernel_rfl) (fun _ _ _ h => h) (by rfl)
                        · intro _; go_simp; with_reducible rfl
                        · go_simp; rfl
                        apply pu_ 22 (some 122) (bz_ 29 5767167) HT_ rfl rfl (by kernel_rfl) (fun _ _ _ h => h) (by rfl)
                        · intro _; go_simp; with_reducible rfl
                        · go_simp; rfl
                        apply tk_ 19 (some 119) (bz_ 29 6291455) HT_ hHeld rfl rfl (by kernel_rfl) (fun _ _ _ h => h) (by rfl)
                        · intro _ hS; go_split_ands; go_simp; with_reducible rfl
                        · go_simp; rfl
                        apply tk_ 21 (some 121) (bz_ 29 8388607) HT_ hHeld rfl rfl (by kernel_rfl) (fun _ _ _ h => h) (by rfl)
                        · intro _ hS; go_split_ands; go_simp; with_reducible rfl
                        · go_simp; rfl
                        apply pu_ 23 (some 123) (bz_ 29 16777215) HT_ rfl rfl (by kernel_rfl) (fun _ _ _ h => h) (by rfl)
                        · intro _; go_simp; with_reducible rfl
                        · go_simp; rfl
                        apply pu_ 24 (some 124) (bz_ 29 33554431) HT_ rfl rfl (by kernel_rfl) (fun _ _ _ h => h) (by rfl)
                        · intro _; go_simp; with_reducible rfl
                        · go_simp; rfl
                        apply tk_ 25 (some 125) (bz_ 29 67108863) HT_ hHeld rfl rfl (by kernel_rfl) (fun _ _ _ h => h) (by rfl)
                        · intro _ hS; go_split_ands; go_simp; with_reducible rfl
                        · go_simp; rfl
                        refine one_ (i := 26) (N := some 126) (bz_ 29 134217727) rfl rfl (one_of HT_.out (by kernel_rfl)) (by decide) (fun K hK => ?_)
                        refine goes_ Try.func31 (by kernel_rfl) rfl #[drV A0 A1 A2 A3 (some ad) c0 c1 c2 c3 c4 code.length origs.length dests.length loops.length cases.length, .slice B y.f1.length cB, .int .i64 3] (by rfl) rfl rfl (by (try simp only [List.map_toArray, List.map_cons, List.map_nil]); first | done | rfl) ?_
                        refine (hk2 _ HB.out).mono ?_
                        rintro e w6 ⟨rfl, hb⟩
                        refine ⟨_, rfl, ?_⟩
                        replace HD := Aside0.mk (blk_below HD.out hb)
                        replace HG0 := Aside0.mk ((hb.cell (World.block_lt_of_cell? _ _ HG0.out)).trans HG0.out)
                        replace HG1 := Aside0.mk ((hb.cell (World.block_lt_of_cell? _ _ HG1.out)).trans HG1.out)
                        replace HB := Aside0.mk (HB.out.trans (hb.mono HB.out.size))
                        clear hb
                        refine hK.out _ _ (⟨(blk_cell HD.out 0).trans rfl, (blk_cell HD.out 1).trans rfl, (blk_cell HD.out 2).trans rfl, (blk_cell HD.out 3).trans rfl, (blk_cell HD.out 4).trans rfl, HG0.out, HG1.out⟩) (fun hHeld => ?_)
                        clear hK K
                        apply pu_ 27 (some 127) (bz_ 29 268435455) HT_ rfl rfl (by kernel_rfl) (fun _ _ _ h => h) (by rfl)
                        · intro _; go_simp; with_reducible rfl
                        · go_simp; rfl
                        apply pu_ 28 (some 128) (bz_ 29 536870911) HT_ rfl rfl (by kernel_rfl) (fun _ _ _ h => h) (by rfl)
                        · intro _; go_simp; with_reducible rfl
                        · go_simp; rfl
                        refine done_ (done_of HT_.out (by kernel_rfl)) ?_
                        go_wp2_with fail
                        go_meet
                        case rel => exact ⟨rfl, HB, HD⟩
                      · have e10 : (z != 10) = true := bne_iff_ne.mpr z10
                        have h3 : b = false := by rw [← hI]; simp [hm, z10]
                        subst h3
                        clear hI z10 hm
                        refine start_ (n := 29) (S := fun w' => w'.cell? ⟨w.heap.size, 0, none⟩ = some (.slice A0 code.length c0) ∧ w'.cell? ⟨w.heap.size, 1, none⟩ = some (.slice A1 origs.length c1) ∧ w'.cell? ⟨w.heap.size, 2, none⟩ = some (.slice A2 dests.length c2) ∧ w'.cell? ⟨w.heap.size, 3, none⟩ = some (.slice A3 loops.length c3) ∧ w'.cell? ⟨w.heap.size, 4, none⟩ = some (.slice (some ad) cases.length c4) ∧ w'.cell? (ad.add (kk * 2)) = some (.int .i64 y.f0) ∧ w'.cell? ⟨(ad.add (kk * 2)).block, (ad.add (kk * 2)).off + 1, none⟩ = some (.slice B y.f1.length cB)) (ds := []) (bz_ 29 0) (by kernel_rfl) rfl rfl (⟨(blk_cell HD.out 0).trans rfl, (blk_cell HD.out 1).trans rfl, (blk_cell HD.out 2).trans rfl, (blk_cell HD.out 3).trans rfl, (blk_cell HD.out 4).trans rfl, HG0.out, HG1.out⟩) (fun hHeld => ?_)
                        refine with_tab (rfl : rtab .any (opsOf Try.f13 22) = rtab .any (opsOf Try.f13 22)) (fun HT_ => ?_)
                        replace HD := Aside0.mk (blk_drew HD.out)
                        replace HB := Aside0.mk (below_drew HB.out)
                        replace HG0 := Aside0.mk (show wr.drew.cell? _ = _ from HG0.out)
                        replace HG1 := Aside0.mk (show wr.drew.cell? _ = _ from HG1.out)
                        generalize wr.drew = w9 at HD HB HG0 HG1 hHeld ⊢
                        apply pu_ 0 (some 100) (bz_ 29 1) HT_ rfl rfl (by kernel_rfl) (fun _ _ _ h => h) (by rfl)
                        · intro _; go_simp; with_reducible rfl
                        · go_simp; rfl
                        apply pu_ 2 (some 102) (bz_ 29 5) HT_ rfl rfl (by kernel_rfl) (fun _ _ _ h => h) (by rfl)
                        · intro _; go_simp; with_reducible rfl
                        · go_simp; rfl
                        apply tk_ 1 (some 101) (bz_ 29 7) HT_ hHeld rfl rfl (by kernel_rfl) (fun _ _ _ h => h) (by rfl)
                        · intro _ hS; go_split_ands; go_simp; with_reducible rfl
                        · go_simp; rfl
                        apply pu_ 3 (some 103) (bz_ 29 15) HT_ rfl rfl (by kernel_rfl) (fun _ _ _ h => h) (by rfl)
                        · intro _; go_simp; with_reducible rfl
                        · go_simp; rfl
                        apply pu_ 4 (some 104) (bz_ 29 31) HT_ rfl rfl (by kernel_rfl) (fun _ _ _ h => h) (by rfl)
                        · intro _; go_simp; with_reducible rfl
                        · go_simp; rfl
                        apply tk_ 5 (some 105) (bz_ 29 63) HT_ hHeld rfl rfl (by kernel_rfl) (fun _ _ _ h => h) (by rfl)
                        · intro _ hS; go_split_ands; go_simp; with_reducible rfl
                        · go_simp; rfl
                        apply pu_ 6 (some 106) (bz_ 29 127) HT_ rfl rfl (by kernel_rfl) (fun _ _ _ h => h) (by rfl)
                        · intro _; go_simp; with_reducible rfl
                        · go_simp; rfl
                        apply pu_ 7 (some 107) (bz_ 29 255) HT_ rfl rfl (by kernel_rfl) (fun _ _ _ h => h) (by rfl)
                        · intro _; go_simp; with_reducible rfl
                        · go_simp; rfl
                        apply pu_ 9 (some 109) (bz_ 29 767) HT_ rfl rfl (by kernel_rfl) (fun _ _ _ h => h) (by rfl)
                        · intro _; go_simp; with_reducible rfl
                        · go_simp; rfl
                        apply pu_ 11 (some 111) (bz_ 29 2815) HT_ rfl rfl (by kernel_rfl) (fun _ _ _ h => h) (by rfl)
                        · intro _; go_simp; with_reducible rfl
                        · go_simp; rfl
                        apply tk_ 8 (some 108) (bz_ 29 3071) HT_ hHeld rfl rfl (by kernel_rfl) (fun _ _ _ h => h) (by rfl)
                        · intro _ hS; go_split_ands; go_simp; with_reducible rfl
                        · go_simp; rfl
                        apply tk_ 10 (some 110) (bz_ 29 4095) HT_ hHeld rfl rfl (by kernel_rfl) (fun _ _ _ h => h) (by rfl)
                        · intro _ hS; go_split_ands; go_simp; with_reducible rfl
                        · go_simp; rfl
                        apply pu_ 12 (some 112) (bz_ 29 8191) HT_ rfl rfl (by kernel_rfl) (fun _ _ _ h => h) (by rfl)
                        · intro _; go_simp; with_reducible rfl
                        · go_simp; rfl
                        apply pu_ 13 (some 113) (bz_ 29 16383) HT_ rfl rfl (by kernel_rfl) (fun _ _ _ h => h) (by rfl)
                        · intro _; go_simp; with_reducible rfl
                        · go_simp; rfl
                        apply tk_ 14 (some 114) (bz_ 29 32767) HT_ hHeld rfl rfl (by kernel_rfl) (fun _ _ _ h => h) (by rfl)
                        · intro _ hS; go_split_ands; go_simp; with_reducible rfl
                        · go_simp; rfl
                        refine one_ (i := 15) (N := some 115) (bz_ 29 65535) rfl rfl (one_of HT_.out (by kernel_rfl)) (by decide) (fun K hK => ?_)
                        refine goes_ Try.func30 (by kernel_rfl) rfl #[drV A0 A1 A2 A3 (some ad) c0 c1 c2 c3 c4 code.length origs.length dests.length loops.length cases.length, .int .i64 y.f0] (by rfl) rfl rfl (by (try simp only [List.map_toArray, List.map_cons, List.map_nil]); first | done | rfl) ?_
                        refine (hk _ HB.out).mono ?_
                        rintro e w5 ⟨rfl, hb⟩
                        refine ⟨_, rfl, ?_⟩
                        replace HD := Aside0.mk (blk_below HD.out hb)
                        replace HG0 := Aside0.mk ((hb.cell (World.block_lt_of_cell? _ _ HG0.out)).trans HG0.out)
                        replace HG1 := Aside0.mk ((hb.cell (World.block_lt_of_cell? _ _ HG1.out)).trans HG1.out)
                        replace HB := Aside0.mk (HB.out.trans (hb.mono HB.out.size))
                        clear hb
                        refine hK.out _ _ (⟨(blk_cell HD.out 0).trans rfl, (blk_cell HD.out 1).trans rfl, (blk_cell HD.out 2).trans rfl, (blk_cell HD.out 3).trans rfl, (blk_cell HD.out 4).trans rfl, HG0.out, HG1.out⟩) (fun hHeld => ?_)
                        clear hK K
                        apply pu_ 16 (some 116) (bz_ 29 131071) HT_ rfl rfl (by kernel_rfl) (fun _ _ _ h => h) (by rfl)
                        · intro _; go_simp; with_reducible rfl
                        · go_simp; rfl
                        apply pu_ 17 (some 117) (bz_ 29 262143) HT_ rfl rfl (by kernel_rfl) (fun _ _ _ h => h) (by rfl)
                        · intro _; go_simp; with_reducible rfl
                        · go_simp; rfl
                        apply pu_ 18 (some 118) (bz_ 29 524287) HT_ rfl rfl (by kernel_rfl) (fun _ _ _ h => h) (by rfl)
                        · intro _; go_simp; with_reducible rfl
                        · go_simp; rfl
                        apply sk_ 19 (some 119) (bz_ 29 1048575) HT_ rfl rfl (by kernel_rfl) (fun _ _ _ h => h) (by rfl)
                        · go_simp; rfl
                        apply sk_ 20 (some 120) (bz_ 29 2097151) HT_ rfl rfl (by kernel_rfl) (fun _ _ _ h => h) (by rfl)
                        · go_simp; rfl
                        apply sk_ 21 (some 121) (bz_ 29 4194303) HT_ rfl rfl (by kernel_rfl) (fun _ _ _ h => h) (by rfl)
                        · go_simp; rfl
                        apply sk_ 22 (some 122) (bz_ 29 8388607) HT_ rfl rfl (by kernel_rfl) (fun _ _ _ h => h) (by rfl)
                        · go_simp; rfl
                        apply sk_ 23 (some 123) (bz_ 29 16777215) HT_ rfl rfl (by kernel_rfl) (fun _ _ _ h => h) (by rfl)
                        · go_simp; rfl
                        apply sk_ 24 (some 124) (bz_ 29 33554431) HT_ rfl rfl (by kernel_rfl) (fun _ _ _ h => h) (by rfl)
                        · go_simp; rfl
                        apply sk_ 25 (some 125) (bz_ 29 67108863) HT_ rfl rfl (by kernel_rfl) (fun _ _ _ h => h) (by rfl)
                        · go_simp; rfl
                        apply sk_ 26 (some 126) (bz_ 29 134217727) HT_ rfl rfl (by kernel_rfl) (fun _ _ _ h => h) (by rfl)
                        · go_simp; rfl
                        apply sk_ 27 (some 127) (bz_ 29 268435455) HT_ rfl rfl (by kernel_rfl) (fun _ _ _ h => h) (by rfl)
                        · go_simp; rfl
                        apply pu_ 28 (some 128) (bz_ 29 536870911) HT_ rfl rfl (by kernel_rfl) (fun _ _ _ h => h) (by rfl)
                        · intro _; go_simp; with_reducible rfl
                        · go_simp; rfl
                        refine done_ (done_of HT_.out (by kernel_rfl)) ?_
                        go_wp2_with fail
                        go_meet
                        case rel => exact ⟨rfl, HB, HD⟩
                  case rest =>
                    obtain ⟨rfl, HB, HD⟩ := hcut
                    clear HG0 HG1 hk hk2 hI
                    cases b with
                    | true =>
                      have T2 := Aside0.mk (T.out rfl)
                      clear T F
                      go_wp2_with fail
                      go_roundg (cases.length - (kk + 1))
                      case measure => omega
                      case rel => exact ⟨kk + 1, by omega, by omega, by go_num, HB, HD, T2⟩
                    | false =>
                      have F2 := Aside0.mk (F.out rfl)
                      clear T F
                      go_wp2_with fail
                      go_ret
                      exact ⟨ret_bool F2.out, HB.out⟩
                · have hltz : ¬ (kk : Int) < (cases.length : Int) := by omega
                  have : kk = cases.length := by omega
                  subst this
                  rw [List.take_length] at A
                  have R5 := Aside0.mk (R4.out.symm.trans A.out)
                  clear A R4
                  go_wp2_with fail
                  go_ret
                  exact ⟨ret_bool R5.out.symm, HB.out⟩
end Go.Proofs.Ytmglkgjnhoojaaa.PCodeRows
