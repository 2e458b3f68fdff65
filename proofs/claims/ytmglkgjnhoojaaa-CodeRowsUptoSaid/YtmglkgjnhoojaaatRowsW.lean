/- CodeRows (6) walked: for each row of deeds it answers true. -/
import Derived.Test.YtmglkgjnhoojaaatkA
import Derived.Test.YtmglkgjnhoojaaatSoundW
import Derived.Test.YtmglkgjnhoojaaatkI
import Derived.Test.YtmglkgjnhoojaaatkT
import Derived.Test.YtmglkgjnhoojaaatkU
namespace Go.Proofs.Ytmglkgjnhoojaaa.PCodeRows
open Go.RowKit Go.Proofs.YtmglkgjnhoojaaaW.PrintWords Go.Proofs.YtmglkgjnhoojaaaW.PrintLast Go.Proofs.YtmglkgjnhoojaaaW.PrintMore
set_option linter.unusedVariables false
set_option linter.unusedSimpArgs false
section
variable {A0 A1 A2 A3 A4 : Option Addr} {c0 c1 c2 c3 c4 N base : Nat} {o : Nat → Nat} {d E : Dr} {W : World} {c : Int}
theorem ractC (h : C5 W base (.slice A0 d.code.length c0) (.slice A1 d.origs.length c1) (.slice A2 d.dests.length c2) (.slice A3 d.loops.length c3) (.slice A4 d.cases.length c4) o d.code d.origs d.dests d.loops d.cases) (hN : Bnd d N) (hN2 : N ≤ 1099511627776) {a : Int} (hE : outP (actR d a) = (E, c)) :
    Calls Try.prog 11 #[drV A0 A1 A2 A3 A4 c0 c1 c2 c3 c4 d.code.length d.origs.length d.dests.length d.loops.length d.cases.length, .int .i64 a] W (UPost W E c) :=
  (ract_calls A0 A1 A2 A3 A4 c0 c1 c2 c3 c4 d.code d.origs d.dests d.loops d.cases a W h.drc (hN.small hN2) (hN.room hN2)).mono fun e w' hp => upost_of hp hE
theorem rputC (h : C5 W base (.slice A0 d.code.length c0) (.slice A1 d.origs.length c1) (.slice A2 d.dests.length c2) (.slice A3 d.loops.length c3) (.slice A4 d.cases.length c4) o d.code d.origs d.dests d.loops d.cases) (hN : Bnd d N) (hN2 : N ≤ 1099511627776) {k n : Int} (hn : 0 ≤ n ∧ n < 4294967296) (hE : outP (putR d k n) = (E, c)) :
    Calls Try.prog 16 #[drV A0 A1 A2 A3 A4 c0 c1 c2 c3 c4 d.code.length d.origs.length d.dests.length d.loops.length d.cases.length, .agg #[.int .i64 k, .int .u32 n]] W (UPost W E c) :=
  (rput_calls A0 A1 A2 A3 A4 c0 c1 c2 c3 c4 d.code d.origs d.dests d.loops d.cases k n W h.drc (hN.small hN2) (hN.room hN2) hn.1 hn.2).mono fun e w' hp => upost_of hp hE
end

set_option maxHeartbeats 8000000 in
theorem rows_calls (L : Option Addr) (cl : Nat) (l : List S48) (w : World) (hL : Kd.C k48 w L l.length l) (hn : ∀ x ∈ l, 0 ≤ x.f1.f1 ∧ x.f1.f1 < 4294967296) (hN2 : l.length ≤ 1048576) :
    Calls Try.prog 6 #[.slice L l.length cl] w fun e w' => e = .returned (.bool true) ∧ Below w.heap.size w w' := by
  obtain ⟨⟨T, n, c⟩, hr⟩ : ∃ r, buildP zdr l 0 = r := ⟨_, rfl⟩
  have HB0 : Aside0 (∀ W, Below w.heap.size w W → Calls Try.prog 20 #[drV none none none none none 0 0 0 0 0 0 0 0 0 0, .slice L l.length cl] W (LPost W (T, n, c))) := ⟨fun W hb => build0 L cl l W (Kd.C_below hL hb) hn (by omega) hr⟩
  have HR := Aside0.mk hr
  have HL := Aside0.mk hL
  have HN2 := Aside0.mk hN2
  have Hn := Aside0.mk hn
  have hlen := hL.2.1
  have hbd := build_bnd l zdr 0 0 (bnd_zdr 0)
  rw [hr] at hbd
  have HNT : Aside0 (Bnd T 1048576) := ⟨(show Bnd T (0 + l.length) from hbd).mono (by omega)⟩
  clear hL hn hr hbd hN2
  go_enter Try.func6, Try.ntmps6
  go_wp2_with fail
  refine (alive_calls w).mono ?_
  rintro e w1 ⟨rfl, hb1⟩
  have HB1 := Aside0.mk hb1
  clear hb1
  go_wp2_with fail
  refine (HB0.out w1 HB1.out).mono ?_
  rintro e w2 ⟨hb2, U0, U1, U2, U3, U4, u0, u1, u2, u3, u4, oT, rfl, hT⟩
  have hal := below_alloc (below_alloc (Below.refl w2.heap.size w2) (.cells #[.slice U0 T.code.length u0, .slice U1 T.origs.length u1, .slice U2 T.dests.length u2, .slice U3 T.loops.length u3, .slice U4 T.cases.length u4] 26)) (.cells #[.slice none 0 0, .slice none 0 0, .slice none 0 0, .slice none 0 0, .slice none 0 0] 26)
  have hsz : (w2.alloc (.cells #[.slice U0 T.code.length u0, .slice U1 T.origs.length u1, .slice U2 T.dests.length u2, .slice U3 T.loops.length u3, .slice U4 T.cases.length u4] 26)).heap.size = w2.heap.size + 1 := by simp
  have HZ := Aside0.mk (blk_alloc (blk_new w2 (.cells #[.slice U0 T.code.length u0, .slice U1 T.origs.length u1, .slice U2 T.dests.length u2, .slice U3 T.loops.length u3, .slice U4 T.cases.length u4] 26)) (.cells #[.slice none 0 0, .slice none 0 0, .slice none 0 0, .slice none 0 0, .slice none 0 0] 26))
  have HG0 := blk_new (w2.alloc (.cells #[.slice U0 T.code.length u0, .slice U1 T.origs.length u1, .slice U2 T.dests.length u2, .slice U3 T.loops.length u3, .slice U4 T.cases.length u4] 26)) (.cells #[.slice none 0 0, .slice none 0 0, .slice none 0 0, .slice none 0 0, .slice none 0 0] 26)
  rw [hsz] at HG0
  have HG := Aside0.mk HG0
  have hg6 : w.heap.size ≤ w2.heap.size + 1 := by have := (below_step HB1.out hb2).size; omega
  have h36 : w2.heap.size ≠ w2.heap.size + 1 := by omega
  have HB := Aside0.mk (below_step (below_step HB1.out hb2) hal)
  have HT := Aside0.mk (hT.below hal)
  have H5 := Aside0.mk (c5_nil ((w2.alloc (.cells #[.slice U0 T.code.length u0, .slice U1 T.origs.length u1, .slice U2 T.dests.length u2, .slice U3 T.loops.length u3, .slice U4 T.cases.length u4] 26)).alloc (.cells #[.slice none 0 0, .slice none 0 0, .slice none 0 0, .slice none 0 0, .slice none 0 0] 26)) 0)
  have HN := Aside0.mk (bnd_zdr 0)
  clear hb2 hT hal hsz HG0 HB1 HB0
  go_wp2_with fail
  generalize (w2.alloc (.cells #[.slice U0 T.code.length u0, .slice U1 T.origs.length u1, .slice U2 T.dests.length u2, .slice U3 T.loops.length u3, .slice U4 T.cases.length u4] 26)).alloc (.cells #[.slice none 0 0, .slice none 0 0, .slice none 0 0, .slice none 0 0, .slice none 0 0] 26) = w3 at HZ HG HB HT H5 ⊢
  generalize hq6 : w2.heap.size + 1 = g6 at HG hg6 h36 ⊢
  generalize w2.heap.size = g3 at HZ h36 ⊢
  clear hq6
  go_loopg [7] l.length (fun gg s7 wr => ∃ (kk : Nat) (D : Dr) (A0 A1 A2 A3 A4 : Option Addr) (c0 c1 c2 c3 c4 : Nat) (o : Nat → Nat), kk ≤ l.length ∧ l.length - kk ≤ gg ∧ s7 = .int .i64 kk ∧ Aside0 (Below w.heap.size w wr) ∧ Aside0 (wr.heap[g6]? = some (.cells #[.slice A0 D.code.length c0, .slice A1 D.origs.length c1, .slice A2 D.dests.length c2, .slice A3 D.loops.length c3, .slice A4 D.cases.length c4] 26)) ∧ Aside0 (wr.heap[g3]? = some (.cells #[.slice U0 T.code.length u0, .slice U1 T.origs.length u1, .slice U2 T.dests.length u2, .slice U3 T.loops.length u3, .slice U4 T.cases.length u4] 26)) ∧ Aside0 (C5 wr 0 (.slice U0 T.code.length u0) (.slice U1 T.origs.length u1) (.slice U2 T.dests.length u2) (.slice U3 T.loops.length u3) (.slice U4 T.cases.length u4) oT T.code T.origs T.dests T.loops T.cases) ∧ Aside0 (C5 wr 0 (.slice A0 D.code.length c0) (.slice A1 D.origs.length c1) (.slice A2 D.dests.length c2) (.slice A3 D.loops.length c3) (.slice A4 D.cases.length c4) o D.code D.origs D.dests D.loops D.cases) ∧ Aside0 (Bnd D (0 + kk)) ∧ Aside0 (buildP D (l.drop kk) kk = (T, n, c)))
  case atStart => exact ⟨0, zdr, none, none, none, none, none, 0, 0, 0, 0, 0, _, Nat.zero_le _, by omega, rfl, HB, HG, HZ, HT, H5, HN, HR⟩
  case round =>
    clear HB HG HZ H5 HN HR HT
    obtain ⟨kk, D, A0, A1, A2, A3, A4, c0, c1, c2, c3, c4, o, hkk, hg, rfl, HB0, HG0, HZ0, HT0, H50, HN, HR⟩ := hrel
    by_cases hlt : kk < l.length
    · have hltz : (kk : Int) < (l.length : Int) := by omega
      have p2 : (0 ≤ (kk : Int)) = True := eq_true (by omega)
      have p3 : ((kk : Int) < (l.length : Int)) = True := eq_true hltz
      obtain ⟨ad, e, g0, g1, g2⟩ := at_T48 HL.out (kk : Int) (by omega) hltz
      cases e
      rw [Int.toNat_natCast] at g0 g1 g2
      have hrd : rd_T48 l (kk : Int) = l[kk]'hlt := by simp [rd_T48, List.getD_eq_getElem?_getD, hlt]
      rw [hrd] at g0 g1 g2
      have HX : Aside0 (l.drop kk = l[kk]'hlt :: l.drop (kk + 1)) := ⟨List.drop_eq_getElem_cons hlt⟩
      have hxn := Hn.out _ (List.getElem_mem hlt)
      clear hrd
      generalize l[kk]'hlt = x at g0 g1 g2 HX hxn
      have HXn := Aside0.mk hxn
      have HQ : Aside0 (∀ W, Below w.heap.size w W → W.cell? (ad.add (kk * 3)) = some (.int .i64 x.f0) ∧ W.cell? ⟨(ad.add (kk * 3)).block, (ad.add (kk * 3)).off + 1, none⟩ = some (.int .i64 x.f1.f0) ∧ W.cell? ⟨(ad.add (kk * 3)).block, (ad.add (kk * 3)).off + 2, none⟩ = some (.int .u32 x.f1.f1)) := ⟨fun W hb => ⟨(hb.cell (World.block_lt_of_cell? w _ g0)).trans g0, (hb.cell (World.block_lt_of_cell? w _ g1)).trans g1, (hb.cell (World.block_lt_of_cell? w _ g2)).trans g2⟩⟩
      clear g0 g1 g2 hxn
      have HNN : Aside0 (0 + kk ≤ 1099511627776) := ⟨by have := HN2.out; omega⟩
      obtain ⟨⟨E, f⟩, hE⟩ : ∃ p, outP (actR D x.f0) = p := ⟨_, rfl⟩
      have HE := Aside0.mk hE
      clear hE
      by_cases ha : x.f0 = 0
      · have ha1 : (x.f0 == 0) = true := by simpa using ha
        obtain ⟨⟨M, f2⟩, hM⟩ : ∃ p, outP (putR D x.f1.f0 x.f1.f1) = p := ⟨_, rfl⟩
        have HM := Aside0.mk hM
        have HO := Aside0.mk (out_split (d := D) (fun k hk => stepP_err (x := x) (d := D) (by unfold stepP; rw [if_pos ha]; exact hk)) hM)
        have HS := Aside0.mk (show stepP D x = putR D x.f1.f0 x.f1.f1 by unfold stepP; rw [if_pos ha])
        clear hM ha
        have HB := HB0.out
        have HG := HG0.out
        have HZ := HZ0.out
        have HT := HT0.out
        have H5 := H50.out
        have hS : wr.cell? ⟨g6, 0, none⟩ = some (.slice A0 D.code.length c0) ∧ wr.cell? ⟨g6, 1, none⟩ = some (.slice A1 D.origs.length c1) ∧ wr.cell? ⟨g6, 2, none⟩ = some (.slice A2 D.dests.length c2) ∧ wr.cell? ⟨g6, 3, none⟩ = some (.slice A3 D.loops.length c3) ∧ wr.cell? ⟨g6, 4, none⟩ = some (.slice A4 D.cases.length c4) ∧ wr.cell? (ad.add (kk * 3)) = some (.int .i64 x.f0) := ⟨(blk_cell HG 0).trans rfl, (blk_cell HG 1).trans rfl, (blk_cell HG 2).trans rfl, (blk_cell HG 3).trans rfl, (blk_cell HG 4).trans rfl, (HQ.out wr HB).1⟩
        clear HB0 HG0 HZ0 HT0 H50
        go_wp2_with fail
        refine start_ (n := 13) (S := fun w' => w'.cell? ⟨g6, 0, none⟩ = some (.slice A0 D.code.length c0) ∧ w'.cell? ⟨g6, 1, none⟩ = some (.slice A1 D.origs.length c1) ∧ w'.cell? ⟨g6, 2, none⟩ = some (.slice A2 D.dests.length c2) ∧ w'.cell? ⟨g6, 3, none⟩ = some (.slice A3 D.loops.length c3) ∧ w'.cell? ⟨g6, 4, none⟩ = some (.slice A4 D.cases.length c4) ∧ w'.cell? (ad.add (kk * 3)) = some (.int .i64 x.f0)) (ds := [11]) (bz_ 13 0) (by kernel_rfl) rfl rfl (hS) (fun hHeld => ?_)
        refine with_tab (rfl : rtab .any (opsOf Try.f6 8) = rtab .any (opsOf Try.f6 8)) (fun HT_ => ?_)
        replace HB := below_drew HB
        replace HG := blk_drew HG
        replace HZ := blk_drew HZ
        replace H5 := H5.below (below_drew (Below.refl _ _))
        replace HT := HT.below (below_drew (Below.refl _ _))
        clear hS
        generalize wr.drew = wa at HB HG HZ HT H5 hHeld ⊢
        apply pu_ 1 (some 28) (bz_ 13 2) HT_ rfl rfl (by kernel_rfl) (fun _ _ _ h => h) (by rfl)
        · intro _; go_simp; with_reducible rfl
        · go_simp; rfl
        apply pu_ 2 (some 29) (bz_ 13 6) HT_ rfl rfl (by kernel_rfl) (fun _ _ _ h => h) (by rfl)
        · intro _; go_simp; with_reducible rfl
        · go_simp; rfl
        apply pu_ 3 (some 30) (bz_ 13 14) HT_ rfl rfl (by kernel_rfl) (fun _ _ _ h => h) (by rfl)
        · intro _; go_simp; with_reducible rfl
        · go_simp; rfl
        apply pu_ 4 (some 31) (bz_ 13 30) HT_ rfl rfl (by kernel_rfl) (fun _ _ _ h => h) (by rfl)
        · intro _; go_simp; with_reducible rfl
        · go_simp; rfl
        apply tk_ 0 (some 27) (bz_ 13 31) HT_ hHeld rfl rfl (by kernel_rfl) (fun _ _ _ h => h) (by rfl)
        · intro _ hS; go_split_ands; go_simp; with_reducible rfl
        · go_simp; rfl
        apply tk_ 5 (some 32) (bz_ 13 63) HT_ hHeld rfl rfl (by kernel_rfl) (fun _ _ _ h => h) (by rfl)
        · intro _ hS; go_split_ands; go_simp; with_reducible rfl
        · go_simp; rfl
        refine two_ (i := 6) (j := 10) (Ni := some 33) (Nj := some 8) (bz_ 13 127) (bz_ 13 1087) rfl rfl rfl rfl (two_of HT_.out (by kernel_rfl)) (by decide) (by decide) (fun K hK => ?_) (fun K hK => ?_)
        · refine goes_ Try.func11 (by kernel_rfl) rfl #[drV A0 A1 A2 A3 A4 c0 c1 c2 c3 c4 D.code.length D.origs.length D.dests.length D.loops.length D.cases.length, .int .i64 x.f0] (by rfl) rfl rfl (by simp only [List.map_toArray, List.map_cons, List.map_nil]; rfl) ?_
          with_reducible refine (ractC H5 HN.out HNN.out HE.out).mono ?_
          rintro e w1 ⟨hb1, B0, B1, B2, B3, B4, b0, b1, b2, b3, b4, oe, rfl, hE5⟩
          refine ⟨_, rfl, ?_⟩
          replace HB := below_step HB hb1
          replace HG := blk_below HG hb1
          replace HZ := blk_below HZ hb1
          replace H5 := H5.below hb1
          replace HT := HT.below hb1
          clear hb1
          have hS : w1.cell? ⟨g6, 0, none⟩ = some (.slice A0 D.code.length c0) ∧ w1.cell? ⟨g6, 1, none⟩ = some (.slice A1 D.origs.length c1) ∧ w1.cell? ⟨g6, 2, none⟩ = some (.slice A2 D.dests.length c2) ∧ w1.cell? ⟨g6, 3, none⟩ = some (.slice A3 D.loops.length c3) ∧ w1.cell? ⟨g6, 4, none⟩ = some (.slice A4 D.cases.length c4) ∧ w1.cell? (ad.add (kk * 3)) = some (.int .i64 x.f0) := ⟨(blk_cell HG 0).trans rfl, (blk_cell HG 1).trans rfl, (blk_cell HG 2).trans rfl, (blk_cell HG 3).trans rfl, (blk_cell HG 4).trans rfl, (HQ.out w1 HB).1⟩
          refine hK.out _ _ (hS) (fun hHeld => ?_)
          clear hK K
          refine norm_ (a' := ?_) ?_ ?_
          rotate_left
          · show Act.put _ (some 33) _ = _
            simp only [Act.put, List.setIfInBounds_toArray, List.set_cons_zero, List.set_cons_succ, i64_w, i32_w]
            rfl
          apply pu_ 7 (some 26) (bz_ 13 255) HT_ rfl rfl (by kernel_rfl) (fun _ _ _ h => h) (by rfl)
          · intro _; go_simp; with_reducible rfl
          · go_simp; rfl
          apply pu_ 8 (some 34) (bz_ 13 511) HT_ rfl rfl (by kernel_rfl) (fun _ _ _ h => h) (by rfl)
          · intro _; go_simp; with_reducible rfl
          · go_simp; rfl
          apply pu_ 9 (some 35) (bz_ 13 1023) HT_ rfl rfl (by kernel_rfl) (fun _ _ _ h => h) (by rfl)
          · intro _; go_simp; with_reducible rfl
          · go_simp; rfl
          refine one_ (i := 10) (N := some 8) (bz_ 13 2047) rfl rfl (one_of HT_.out (by kernel_rfl)) (by decide) (fun K hK => ?_)
          refine value_ (w1 := ?_) (v := ?_) (by rfl) rfl ?_ ?_
          rotate_left 2
          · go_simp
            constructor
            · rfl
            · rfl
          have hal := below_alloc (Below.refl w1.heap.size w1) (.cells #[.slice none 0 0, .slice none 0 0, .slice none 0 0, .slice none 0 0, .slice none 0 0] 26)
          have HXB := blk_new w1 (.cells #[.slice none 0 0, .slice none 0 0, .slice none 0 0, .slice none 0 0, .slice none 0 0] 26)
          have hxb : w.heap.size ≤ w1.heap.size := HB.size
          have hne : g6 ≠ w1.heap.size := Nat.ne_of_lt (blk_lt HG)
          have hne2 : g3 ≠ w1.heap.size := Nat.ne_of_lt (blk_lt HZ)
          replace HB := below_step HB hal
          replace HG := blk_below HG hal
          replace HZ := blk_below HZ hal
          replace H5 := H5.below hal
          replace HT := HT.below hal
          replace hE5 := hE5.below hal
          clear hal
          generalize w1.alloc (.cells #[.slice none 0 0, .slice none 0 0, .slice none 0 0, .slice none 0 0, .slice none 0 0] 26) = wb at HB HG HZ HT H5 HXB hE5 ⊢
          generalize w1.heap.size = xb at HXB hxb hne hne2 ⊢
          have hS : wb.cell? ⟨g6, 0, none⟩ = some (.slice A0 D.code.length c0) ∧ wb.cell? ⟨g6, 1, none⟩ = some (.slice A1 D.origs.length c1) ∧ wb.cell? ⟨g6, 2, none⟩ = some (.slice A2 D.dests.length c2) ∧ wb.cell? ⟨g6, 3, none⟩ = some (.slice A3 D.loops.length c3) ∧ wb.cell? ⟨g6, 4, none⟩ = some (.slice A4 D.cases.length c4) ∧ wb.cell? (ad.add (kk * 3)) = some (.int .i64 x.f0) := ⟨(blk_cell HG 0).trans rfl, (blk_cell HG 1).trans rfl, (blk_cell HG 2).trans rfl, (blk_cell HG 3).trans rfl, (blk_cell HG 4).trans rfl, (HQ.out wb HB).1⟩
          obtain ⟨q0, q1, q2, q3, q4⟩ := frozen5 HXB
          obtain ⟨z0, z1, z2, z3, z4⟩ := cells5 HXB
          refine hK.out _ _ (hS) (fun hHeld => ?_)
          clear hK K
          refine norm_ (a' := ?_) ?_ ?_
          rotate_left
          · show Act.put _ (some 8) _ = _
            simp only [Act.put, List.setIfInBounds_toArray, List.set_cons_zero, List.set_cons_succ, i64_w, i32_w]
            rfl
          refine last_ (i := 11) (N := none) (bz_ 13 4095) rfl rfl (one_of HT_.out (by kernel_rfl)) (by decide) (fun K hK => ?_)
          go_simp
          refine hK.out _ _ ?_
          clear hK K
          apply pu_ 12 (some 9) (bz_ 13 8191) HT_ rfl rfl (by kernel_rfl) (fun _ _ _ h => h) (by rfl)
          · intro _; go_simp; with_reducible rfl
          · go_simp; rfl
          refine done_ (done_of HT_.out (by kernel_rfl)) ?_
          clear HT_ hHeld hS q0 q1 q2 q3 q4 z0 z1 z2 z3 z4
          replace HB := below_put5 HB hxb (.slice B0 E.code.length b0) (.slice B1 E.origs.length b1) (.slice B2 E.dests.length b2) (.slice B3 E.loops.length b3) (.slice B4 E.cases.length b4)
          replace HG := blk_far5 HG hne (.slice B0 E.code.length b0) (.slice B1 E.origs.length b1) (.slice B2 E.dests.length b2) (.slice B3 E.loops.length b3) (.slice B4 E.cases.length b4)
          replace HZ := blk_far5 HZ hne2 (.slice B0 E.code.length b0) (.slice B1 E.origs.length b1) (.slice B2 E.dests.length b2) (.slice B3 E.loops.length b3) (.slice B4 E.cases.length b4)
          replace H5 := H5.put5 HXB (.slice B0 E.code.length b0) (.slice B1 E.origs.length b1) (.slice B2 E.dests.length b2) (.slice B3 E.loops.length b3) (.slice B4 E.cases.length b4)
          replace HT := HT.put5 HXB (.slice B0 E.code.length b0) (.slice B1 E.origs.length b1) (.slice B2 E.dests.length b2) (.slice B3 E.loops.length b3) (.slice B4 E.cases.length b4)
          replace hE5 := hE5.put5 HXB (.slice B0 E.code.length b0) (.slice B1 E.origs.length b1) (.slice B2 E.dests.length b2) (.slice B3 E.loops.length b3) (.slice B4 E.cases.length b4)
          replace HXB := blk_put5 HXB (.slice B0 E.code.length b0) (.slice B1 E.origs.length b1) (.slice B2 E.dests.length b2) (.slice B3 E.loops.length b3) (.slice B4 E.cases.length b4)
          simp only [put5] at HB HG HZ HT H5 hE5 HXB
          generalize ((((wb.setCell ⟨xb, 0, none⟩ (.slice B0 E.code.length b0)).setCell ⟨xb, 1, none⟩ (.slice B1 E.origs.length b1)).setCell ⟨xb, 2, none⟩ (.slice B2 E.dests.length b2)).setCell ⟨xb, 3, none⟩ (.slice B3 E.loops.length b3)).setCell ⟨xb, 4, none⟩ (.slice B4 E.cases.length b4) = w5 at HB HG HZ HT H5 hE5 HXB ⊢
          have d0 := (HQ.out w5 HB).1
          have HB_ := Aside0.mk HB
          have HG_ := Aside0.mk HG
          have HZ_ := Aside0.mk HZ
          have H5_ := Aside0.mk H5
          have HT_0 := Aside0.mk HT
          have HE_ := Aside0.mk hE5
          have HX_ := Aside0.mk HXB
          clear HB HG HZ HT H5 hE5 HXB
          go_wp2_with fail
          have HB := HB_.out
          have HG := HG_.out
          have HZ := HZ_.out
          have H5 := H5_.out
          have HT := HT_0.out
          have HXB := HX_.out
          clear HB_ HG_ HZ_ HT_0 H5_ HE_ HX_ d0
          have hS : w5.cell? ⟨g6, 0, none⟩ = some (.slice A0 D.code.length c0) ∧ w5.cell? ⟨g6, 1, none⟩ = some (.slice A1 D.origs.length c1) ∧ w5.cell? ⟨g6, 2, none⟩ = some (.slice A2 D.dests.length c2) ∧ w5.cell? ⟨g6, 3, none⟩ = some (.slice A3 D.loops.length c3) ∧ w5.cell? ⟨g6, 4, none⟩ = some (.slice A4 D.cases.length c4) ∧ w5.cell? ⟨(ad.add (kk * 3)).block, (ad.add (kk * 3)).off + 1, none⟩ = some (.int .i64 x.f1.f0) ∧ w5.cell? ⟨(ad.add (kk * 3)).block, (ad.add (kk * 3)).off + 2, none⟩ = some (.int .u32 x.f1.f1) := ⟨(blk_cell HG 0).trans rfl, (blk_cell HG 1).trans rfl, (blk_cell HG 2).trans rfl, (blk_cell HG 3).trans rfl, (blk_cell HG 4).trans rfl, (HQ.out w5 HB).2.1, (HQ.out w5 HB).2.2⟩
          refine start_ (n := 12) (S := fun w' => w'.cell? ⟨g6, 0, none⟩ = some (.slice A0 D.code.length c0) ∧ w'.cell? ⟨g6, 1, none⟩ = some (.slice A1 D.origs.length c1) ∧ w'.cell? ⟨g6, 2, none⟩ = some (.slice A2 D.dests.length c2) ∧ w'.cell? ⟨g6, 3, none⟩ = some (.slice A3 D.loops.length c3) ∧ w'.cell? ⟨g6, 4, none⟩ = some (.slice A4 D.cases.length c4) ∧ w'.cell? ⟨(ad.add (kk * 3)).block, (ad.add (kk * 3)).off + 1, none⟩ = some (.int .i64 x.f1.f0) ∧ w'.cell? ⟨(ad.add (kk * 3)).block, (ad.add (kk * 3)).off + 2, none⟩ = some (.int .u32 x.f1.f1)) (ds := [10]) (bz_ 12 0) (by kernel_rfl) rfl rfl (hS) (fun hHeld => ?_)
          refine with_tab (rfl : rtab .any (opsOf Try.f6 10) = rtab .any (opsOf Try.f6 10)) (fun HT_ => ?_)
          replace HB := below_drew HB
          replace HG := blk_drew HG
          replace HZ := blk_drew HZ
          replace H5 := H5.below (below_drew (Below.refl _ _))
          replace HT := HT.below (below_drew (Below.refl _ _))
          replace HXB := blk_drew HXB
          clear hS
          generalize w5.drew = wc at HB HG HZ HT H5 HXB hHeld ⊢
          apply pu_ 1 (some 44) (bz_ 12 2) HT_ rfl rfl (by kernel_rfl) (fun _ _ _ h => h) (by rfl)
          · intro _; go_simp; with_reducible rfl
          · go_simp; rfl
          apply pu_ 2 (some 45) (bz_ 12 6) HT_ rfl rfl (by kernel_rfl) (fun _ _ _ h => h) (by rfl)
          · intro _; go_simp; with_reducible rfl
          · go_simp; rfl
          apply pu_ 3 (some 46) (bz_ 12 14) HT_ rfl rfl (by kernel_rfl) (fun _ _ _ h => h) (by rfl)
          · intro _; go_simp; with_reducible rfl
          · go_simp; rfl
          apply pu_ 4 (some 47) (bz_ 12 30) HT_ rfl rfl (by kernel_rfl) (fun _ _ _ h => h) (by rfl)
          · intro _; go_simp; with_reducible rfl
          · go_simp; rfl
          apply tk_ 0 (some 43) (bz_ 12 31) HT_ hHeld rfl rfl (by kernel_rfl) (fun _ _ _ h => h) (by rfl)
          · intro _ hS; go_split_ands; go_simp; with_reducible rfl
          · go_simp; rfl
          apply tk_ 5 (some 48) (bz_ 12 63) HT_ hHeld rfl rfl (by kernel_rfl) (fun _ _ _ h => h) (by rfl)
          · intro _ hS; go_split_ands; go_simp; with_reducible rfl
          · go_simp; rfl
          refine one_ (i := 6) (N := some 49) (bz_ 12 127) rfl rfl (one_of HT_.out (by kernel_rfl)) (by decide) (fun K hK => ?_)
          refine goes_ Try.func16 (by kernel_rfl) rfl #[drV A0 A1 A2 A3 A4 c0 c1 c2 c3 c4 D.code.length D.origs.length D.dests.length D.loops.length D.cases.length, .agg #[.int .i64 x.f1.f0, .int .u32 x.f1.f1]] (by rfl) rfl rfl (by simp only [List.map_toArray, List.map_cons, List.map_nil]; rfl) ?_
          with_reducible refine (rputC H5 HN.out HNN.out HXn.out HM.out).mono ?_
          rintro e w6 ⟨hb1, F0, F1, F2, F3, F4, s0, s1, s2, s3, s4, oe2, rfl, hE5⟩
          refine ⟨_, rfl, ?_⟩
          replace HXB := blk_below HXB hb1
          replace HB := below_step HB hb1
          replace HG := blk_below HG hb1
          replace HZ := blk_below HZ hb1
          replace H5 := H5.below hb1
          replace HT := HT.below hb1
          clear hb1
          have hS : w6.cell? ⟨g6, 0, none⟩ = some (.slice A0 D.code.length c0) ∧ w6.cell? ⟨g6, 1, none⟩ = some (.slice A1 D.origs.length c1) ∧ w6.cell? ⟨g6, 2, none⟩ = some (.slice A2 D.dests.length c2) ∧ w6.cell? ⟨g6, 3, none⟩ = some (.slice A3 D.loops.length c3) ∧ w6.cell? ⟨g6, 4, none⟩ = some (.slice A4 D.cases.length c4) ∧ w6.cell? ⟨(ad.add (kk * 3)).block, (ad.add (kk * 3)).off + 1, none⟩ = some (.int .i64 x.f1.f0) ∧ w6.cell? ⟨(ad.add (kk * 3)).block, (ad.add (kk * 3)).off + 2, none⟩ = some (.int .u32 x.f1.f1) := ⟨(blk_cell HG 0).trans rfl, (blk_cell HG 1).trans rfl, (blk_cell HG 2).trans rfl, (blk_cell HG 3).trans rfl, (blk_cell HG 4).trans rfl, (HQ.out w6 HB).2.1, (HQ.out w6 HB).2.2⟩
          obtain ⟨q0, q1, q2, q3, q4⟩ := frozen5 HXB
          obtain ⟨z0, z1, z2, z3, z4⟩ := cells5 HXB
          refine hK.out _ _ (hS) (fun hHeld => ?_)
          clear hK K
          refine norm_ (a' := ?_) ?_ ?_
          rotate_left
          · show Act.put _ (some 49) _ = _
            simp only [Act.put, List.setIfInBounds_toArray, List.set_cons_zero, List.set_cons_succ, i64_w, i32_w]
            rfl
          apply pu_ 7 (some 42) (bz_ 12 255) HT_ rfl rfl (by kernel_rfl) (fun _ _ _ h => h) (by rfl)
          · intro _; go_simp; with_reducible rfl
          · go_simp; rfl
          apply pu_ 8 (some 50) (bz_ 12 511) HT_ rfl rfl (by kernel_rfl) (fun _ _ _ h => h) (by rfl)
          · intro _; go_simp; with_reducible rfl
          · go_simp; rfl
          apply pu_ 9 (some 51) (bz_ 12 1023) HT_ rfl rfl (by kernel_rfl) (fun _ _ _ h => h) (by rfl)
          · intro _; go_simp; with_reducible rfl
          · go_simp; rfl
          refine last_ (i := 10) (N := none) (bz_ 12 2047) rfl rfl (one_of HT_.out (by kernel_rfl)) (by decide) (fun K hK => ?_)
          go_simp
          refine hK.out _ _ ?_
          clear hK K
          apply pu_ 11 (some 9) (bz_ 12 4095) HT_ rfl rfl (by kernel_rfl) (fun _ _ _ h => h) (by rfl)
          · intro _; go_simp; with_reducible rfl
          · go_simp; rfl
          refine done_ (done_of HT_.out (by kernel_rfl)) ?_
          clear HT_ hHeld hS q0 q1 q2 q3 q4 z0 z1 z2 z3 z4
          replace HB := below_put5 HB hxb (.slice F0 M.code.length s0) (.slice F1 M.origs.length s1) (.slice F2 M.dests.length s2) (.slice F3 M.loops.length s3) (.slice F4 M.cases.length s4)
          replace HG := blk_far5 HG hne (.slice F0 M.code.length s0) (.slice F1 M.origs.length s1) (.slice F2 M.dests.length s2) (.slice F3 M.loops.length s3) (.slice F4 M.cases.length s4)
          replace HZ := blk_far5 HZ hne2 (.slice F0 M.code.length s0) (.slice F1 M.origs.length s1) (.slice F2 M.dests.length s2) (.slice F3 M.loops.length s3) (.slice F4 M.cases.length s4)
          replace H5 := H5.put5 HXB (.slice F0 M.code.length s0) (.slice F1 M.origs.length s1) (.slice F2 M.dests.length s2) (.slice F3 M.loops.length s3) (.slice F4 M.cases.length s4)
          replace HT := HT.put5 HXB (.slice F0 M.code.length s0) (.slice F1 M.origs.length s1) (.slice F2 M.dests.length s2) (.slice F3 M.loops.length s3) (.slice F4 M.cases.length s4)
          replace hE5 := hE5.put5 HXB (.slice F0 M.code.length s0) (.slice F1 M.origs.length s1) (.slice F2 M.dests.length s2) (.slice F3 M.loops.length s3) (.slice F4 M.cases.length s4)
          replace HXB := blk_put5 HXB (.slice F0 M.code.length s0) (.slice F1 M.origs.length s1) (.slice F2 M.dests.length s2) (.slice F3 M.loops.length s3) (.slice F4 M.cases.length s4)
          simp only [put5] at HB HG HZ HT H5 hE5 HXB
          generalize ((((w6.setCell ⟨xb, 0, none⟩ (.slice F0 M.code.length s0)).setCell ⟨xb, 1, none⟩ (.slice F1 M.origs.length s1)).setCell ⟨xb, 2, none⟩ (.slice F2 M.dests.length s2)).setCell ⟨xb, 3, none⟩ (.slice F3 M.loops.length s3)).setCell ⟨xb, 4, none⟩ (.slice F4 M.cases.length s4) = w7 at HB HG HZ HT H5 hE5 HXB ⊢
          have HB_ := Aside0.mk HB
          have HG_ := Aside0.mk HG
          have HZ_ := Aside0.mk HZ
          have H5_ := Aside0.mk H5
          have HT_0 := Aside0.mk HT
          have HE_ := Aside0.mk hE5
          have HX_ := Aside0.mk HXB
          clear HB HG HZ HT H5 hE5 HXB
          rcases HO.out with ⟨hc, hs⟩ | ⟨hc, hs⟩
          · have HNX := Aside0.mk (HN.out.step (HS.out.trans hs))
            have HRX := Aside0.mk (show buildP M (l.drop (kk + 1)) (kk + 1) = (T, n, c) by have := HR.out; rw [HX.out, build_inl (HS.out.trans hs)] at this; exact this)
            subst hc
            clear hs HO HS HM HE
            obtain ⟨x0, x1, x2, x3, x4⟩ := cells5 HX_.out
            obtain ⟨k0, k1, k2, k3, k4⟩ := cells5 HG_.out
            obtain ⟨f0, f1, f2, f3, f4⟩ := frozen5 HG_.out
            have HBn := Aside0.mk (below_put5 HB_.out hg6 (.slice F0 M.code.length s0) (.slice F1 M.origs.length s1) (.slice F2 M.dests.length s2) (.slice F3 M.loops.length s3) (.slice F4 M.cases.length s4))
            have HGn := Aside0.mk (blk_put5 HG_.out (.slice F0 M.code.length s0) (.slice F1 M.origs.length s1) (.slice F2 M.dests.length s2) (.slice F3 M.loops.length s3) (.slice F4 M.cases.length s4))
            have HZn := Aside0.mk (blk_far5 (g := g6) HZ_.out h36 (.slice F0 M.code.length s0) (.slice F1 M.origs.length s1) (.slice F2 M.dests.length s2) (.slice F3 M.loops.length s3) (.slice F4 M.cases.length s4))
            have HEn := Aside0.mk (HE_.out.put5 HG_.out (.slice F0 M.code.length s0) (.slice F1 M.origs.length s1) (.slice F2 M.dests.length s2) (.slice F3 M.loops.length s3) (.slice F4 M.cases.length s4))
            have HTn := Aside0.mk (HT_0.out.put5 HG_.out (.slice F0 M.code.length s0) (.slice F1 M.origs.length s1) (.slice F2 M.dests.length s2) (.slice F3 M.loops.length s3) (.slice F4 M.cases.length s4))
            clear HB_ HG_ HZ_ HT_0 H5_ HE_ HX_
            go_wp2_with fail
            go_roundg (l.length - (kk + 1))
            case measure => omega
            case rel => exact ⟨kk + 1, M, F0, F1, F2, F3, F4, s0, s1, s2, s3, s4, _, by omega, by omega, by go_num, HBn, HGn, HZn, HTn, HEn, HNX, HRX⟩
          · have hq : (T, n, c) = (D, kk, f2) := by have := HR.out; rw [HX.out, build_inr (HS.out.trans hs)] at this; exact this.symm
            simp only [Prod.mk.injEq] at hq
            obtain ⟨rfl, rfl, rfl⟩ := hq
            have hc1 : (c == 0) = false := by simpa using hc
            have hc2 : (c != 0) = true := by simpa using hc
            have hc3 : (c == c) = true := by simp
            have hc4 : ((n : Int) == (n : Int)) = true := by simp
            clear hc hs HO HS HE
            obtain ⟨k0, k1, k2, k3, k4⟩ := cells5 HG_.out
            obtain ⟨z0, z1, z2, z3, z4⟩ := cells5 HZ_.out
            go_wp2_with fail
            clear k0 k1 k2 k3 k4 z0 z1 z2 z3 z4
            refine (same_calls HT_0.out.drc H5_.out.drc HNT.out (by omega)).mono ?_
            rintro e we ⟨rfl, hb⟩
            have HBe := Aside0.mk (below_step HB_.out hb)
            clear hb
            go_wp2_with fail
            go_ret
            exact ⟨rfl, HBe.out⟩
        · refine value_ (w1 := ?_) (v := ?_) (by rfl) rfl ?_ ?_
          rotate_left 2
          · go_simp
            constructor
            · rfl
            · rfl
          have hal := below_alloc (Below.refl wa.heap.size wa) (.cells #[.slice none 0 0, .slice none 0 0, .slice none 0 0, .slice none 0 0, .slice none 0 0] 26)
          have HXB := blk_new wa (.cells #[.slice none 0 0, .slice none 0 0, .slice none 0 0, .slice none 0 0, .slice none 0 0] 26)
          have hxb : w.heap.size ≤ wa.heap.size := HB.size
          have hne : g6 ≠ wa.heap.size := Nat.ne_of_lt (blk_lt HG)
          have hne2 : g3 ≠ wa.heap.size := Nat.ne_of_lt (blk_lt HZ)
          replace HB := below_step HB hal
          replace HG := blk_below HG hal
          replace HZ := blk_below HZ hal
          replace H5 := H5.below hal
          replace HT := HT.below hal
          clear hal
          generalize wa.alloc (.cells #[.slice none 0 0, .slice none 0 0, .slice none 0 0, .slice none 0 0, .slice none 0 0] 26) = wb at HB HG HZ HT H5 HXB ⊢
          generalize wa.heap.size = xb at HXB hxb hne hne2 ⊢
          have hS : wb.cell? ⟨g6, 0, none⟩ = some (.slice A0 D.code.length c0) ∧ wb.cell? ⟨g6, 1, none⟩ = some (.slice A1 D.origs.length c1) ∧ wb.cell? ⟨g6, 2, none⟩ = some (.slice A2 D.dests.length c2) ∧ wb.cell? ⟨g6, 3, none⟩ = some (.slice A3 D.loops.length c3) ∧ wb.cell? ⟨g6, 4, none⟩ = some (.slice A4 D.cases.length c4) ∧ wb.cell? (ad.add (kk * 3)) = some (.int .i64 x.f0) := ⟨(blk_cell HG 0).trans rfl, (blk_cell HG 1).trans rfl, (blk_cell HG 2).trans rfl, (blk_cell HG 3).trans rfl, (blk_cell HG 4).trans rfl, (HQ.out wb HB).1⟩
          refine hK.out _ _ (hS) (fun hHeld => ?_)
          clear hK K
          refine norm_ (a' := ?_) ?_ ?_
          rotate_left
          · show Act.put _ (some 8) _ = _
            simp only [Act.put, List.setIfInBounds_toArray, List.set_cons_zero, List.set_cons_succ, i64_w, i32_w]
            rfl
          refine one_ (i := 6) (N := some 33) (bz_ 13 1151) rfl rfl (one_of HT_.out (by kernel_rfl)) (by decide) (fun K hK => ?_)
          refine goes_ Try.func11 (by kernel_rfl) rfl #[drV A0 A1 A2 A3 A4 c0 c1 c2 c3 c4 D.code.length D.origs.length D.dests.length D.loops.length D.cases.length, .int .i64 x.f0] (by rfl) rfl rfl (by simp only [List.map_toArray, List.map_cons, List.map_nil]; rfl) ?_
          with_reducible refine (ractC H5 HN.out HNN.out HE.out).mono ?_
          rintro e w1 ⟨hb1, B0, B1, B2, B3, B4, b0, b1, b2, b3, b4, oe, rfl, hE5⟩
          refine ⟨_, rfl, ?_⟩
          replace HB := below_step HB hb1
          replace HG := blk_below HG hb1
          replace HZ := blk_below HZ hb1
          replace H5 := H5.below hb1
          replace HT := HT.below hb1
          replace HXB := blk_below HXB hb1
          replace hxb := hxb
          clear hb1
          have hS : w1.cell? ⟨g6, 0, none⟩ = some (.slice A0 D.code.length c0) ∧ w1.cell? ⟨g6, 1, none⟩ = some (.slice A1 D.origs.length c1) ∧ w1.cell? ⟨g6, 2, none⟩ = some (.slice A2 D.dests.length c2) ∧ w1.cell? ⟨g6, 3, none⟩ = some (.slice A3 D.loops.length c3) ∧ w1.cell? ⟨g6, 4, none⟩ = some (.slice A4 D.cases.length c4) ∧ w1.cell? (ad.add (kk * 3)) = some (.int .i64 x.f0) := ⟨(blk_cell HG 0).trans rfl, (blk_cell HG 1).trans rfl, (blk_cell HG 2).trans rfl, (blk_cell HG 3).trans rfl, (blk_cell HG 4).trans rfl, (HQ.out w1 HB).1⟩
          obtain ⟨q0, q1, q2, q3, q4⟩ := frozen5 HXB
          obtain ⟨z0, z1, z2, z3, z4⟩ := cells5 HXB
          refine hK.out _ _ (hS) (fun hHeld => ?_)
          clear hK K
          refine norm_ (a' := ?_) ?_ ?_
          rotate_left
          · show Act.put _ (some 33) _ = _
            simp only [Act.put, List.setIfInBounds_toArray, List.set_cons_zero, List.set_cons_succ, i64_w, i32_w]
            rfl
          apply pu_ 7 (some 26) (bz_ 13 1279) HT_ rfl rfl (by kernel_rfl) (fun _ _ _ h => h) (by rfl)
          · intro _; go_simp; with_reducible rfl
          · go_simp; rfl
          apply pu_ 8 (some 34) (bz_ 13 1535) HT_ rfl rfl (by kernel_rfl) (fun _ _ _ h => h) (by rfl)
          · intro _; go_simp; with_reducible rfl
          · go_simp; rfl
          apply pu_ 9 (some 35) (bz_ 13 2047) HT_ rfl rfl (by kernel_rfl) (fun _ _ _ h => h) (by rfl)
          · intro _; go_simp; with_reducible rfl
          · go_simp; rfl
          refine last_ (i := 11) (N := none) (bz_ 13 4095) rfl rfl (one_of HT_.out (by kernel_rfl)) (by decide) (fun K hK => ?_)
          go_simp
          refine hK.out _ _ ?_
          clear hK K
          apply pu_ 12 (some 9) (bz_ 13 8191) HT_ rfl rfl (by kernel_rfl) (fun _ _ _ h => h) (by rfl)
          · intro _; go_simp; with_reducible rfl
          · go_simp; rfl
          refine done_ (done_of HT_.out (by kernel_rfl)) ?_
          clear HT_ hHeld hS q0 q1 q2 q3 q4 z0 z1 z2 z3 z4
          replace HB := below_put5 HB hxb (.slice B0 E.code.length b0) (.slice B1 E.origs.length b1) (.slice B2 E.dests.length b2) (.slice B3 E.loops.length b3) (.slice B4 E.cases.length b4)
          replace HG := blk_far5 HG hne (.slice B0 E.code.length b0) (.slice B1 E.origs.length b1) (.slice B2 E.dests.length b2) (.slice B3 E.loops.length b3) (.slice B4 E.cases.length b4)
          replace HZ := blk_far5 HZ hne2 (.slice B0 E.code.length b0) (.slice B1 E.origs.length b1) (.slice B2 E.dests.length b2) (.slice B3 E.loops.length b3) (.slice B4 E.cases.length b4)
          replace H5 := H5.put5 HXB (.slice B0 E.code.length b0) (.slice B1 E.origs.length b1) (.slice B2 E.dests.length b2) (.slice B3 E.loops.length b3) (.slice B4 E.cases.length b4)
          replace HT := HT.put5 HXB (.slice B0 E.code.length b0) (.slice B1 E.origs.length b1) (.slice B2 E.dests.length b2) (.slice B3 E.loops.length b3) (.slice B4 E.cases.length b4)
          replace hE5 := hE5.put5 HXB (.slice B0 E.code.length b0) (.slice B1 E.origs.length b1) (.slice B2 E.dests.length b2) (.slice B3 E.loops.length b3) (.slice B4 E.cases.length b4)
          replace HXB := blk_put5 HXB (.slice B0 E.code.length b0) (.slice B1 E.origs.length b1) (.slice B2 E.dests.length b2) (.slice B3 E.loops.length b3) (.slice B4 E.cases.length b4)
          simp only [put5] at HB HG HZ HT H5 hE5 HXB
          generalize ((((w1.setCell ⟨xb, 0, none⟩ (.slice B0 E.code.length b0)).setCell ⟨xb, 1, none⟩ (.slice B1 E.origs.length b1)).setCell ⟨xb, 2, none⟩ (.slice B2 E.dests.length b2)).setCell ⟨xb, 3, none⟩ (.slice B3 E.loops.length b3)).setCell ⟨xb, 4, none⟩ (.slice B4 E.cases.length b4) = w5 at HB HG HZ HT H5 hE5 HXB ⊢
          have d0 := (HQ.out w5 HB).1
          have HB_ := Aside0.mk HB
          have HG_ := Aside0.mk HG
          have HZ_ := Aside0.mk HZ
          have H5_ := Aside0.mk H5
          have HT_0 := Aside0.mk HT
          have HE_ := Aside0.mk hE5
          have HX_ := Aside0.mk HXB
          clear HB HG HZ HT H5 hE5 HXB
          go_wp2_with fail
          have HB := HB_.out
          have HG := HG_.out
          have HZ := HZ_.out
          have H5 := H5_.out
          have HT := HT_0.out
          have HXB := HX_.out
          clear HB_ HG_ HZ_ HT_0 H5_ HE_ HX_ d0
          have hS : w5.cell? ⟨g6, 0, none⟩ = some (.slice A0 D.code.length c0) ∧ w5.cell? ⟨g6, 1, none⟩ = some (.slice A1 D.origs.length c1) ∧ w5.cell? ⟨g6, 2, none⟩ = some (.slice A2 D.dests.length c2) ∧ w5.cell? ⟨g6, 3, none⟩ = some (.slice A3 D.loops.length c3) ∧ w5.cell? ⟨g6, 4, none⟩ = some (.slice A4 D.cases.length c4) ∧ w5.cell? ⟨(ad.add (kk * 3)).block, (ad.add (kk * 3)).off + 1, none⟩ = some (.int .i64 x.f1.f0) ∧ w5.cell? ⟨(ad.add (kk * 3)).block, (ad.add (kk * 3)).off + 2, none⟩ = some (.int .u32 x.f1.f1) := ⟨(blk_cell HG 0).trans rfl, (blk_cell HG 1).trans rfl, (blk_cell HG 2).trans rfl, (blk_cell HG 3).trans rfl, (blk_cell HG 4).trans rfl, (HQ.out w5 HB).2.1, (HQ.out w5 HB).2.2⟩
          refine start_ (n := 12) (S := fun w' => w'.cell? ⟨g6, 0, none⟩ = some (.slice A0 D.code.length c0) ∧ w'.cell? ⟨g6, 1, none⟩ = some (.slice A1 D.origs.length c1) ∧ w'.cell? ⟨g6, 2, none⟩ = some (.slice A2 D.dests.length c2) ∧ w'.cell? ⟨g6, 3, none⟩ = some (.slice A3 D.loops.length c3) ∧ w'.cell? ⟨g6, 4, none⟩ = some (.slice A4 D.cases.length c4) ∧ w'.cell? ⟨(ad.add (kk * 3)).block, (ad.add (kk * 3)).off + 1, none⟩ = some (.int .i64 x.f1.f0) ∧ w'.cell? ⟨(ad.add (kk * 3)).block, (ad.add (kk * 3)).off + 2, none⟩ = some (.int .u32 x.f1.f1)) (ds := [10]) (bz_ 12 0) (by kernel_rfl) rfl rfl (hS) (fun hHeld => ?_)
          refine with_tab (rfl : rtab .any (opsOf Try.f6 10) = rtab .any (opsOf Try.f6 10)) (fun HT_ => ?_)
          replace HB := below_drew HB
          replace HG := blk_drew HG
          replace HZ := blk_drew HZ
          replace H5 := H5.below (below_drew (Below.refl _ _))
          replace HT := HT.below (below_drew (Below.refl _ _))
          replace HXB := blk_drew HXB
          clear hS
          generalize w5.drew = wc at HB HG HZ HT H5 HXB hHeld ⊢
          apply pu_ 1 (some 44) (bz_ 12 2) HT_ rfl rfl (by kernel_rfl) (fun _ _ _ h => h) (by rfl)
          · intro _; go_simp; with_reducible rfl
          · go_simp; rfl
          apply pu_ 2 (some 45) (bz_ 12 6) HT_ rfl rfl (by kernel_rfl) (fun _ _ _ h => h) (by rfl)
          · intro _; go_simp; with_reducible rfl
          · go_simp; rfl
          apply pu_ 3 (some 46) (bz_ 12 14) HT_ rfl rfl (by kernel_rfl) (fun _ _ _ h => h) (by rfl)
          · intro _; go_simp; with_reducible rfl
          · go_simp; rfl
          apply pu_ 4 (some 47) (bz_ 12 30) HT_ rfl rfl (by kernel_rfl) (fun _ _ _ h => h) (by rfl)
          · intro _; go_simp; with_reducible rfl
          · go_simp; rfl
          apply tk_ 0 (some 43) (bz_ 12 31) HT_ hHeld rfl rfl (by kernel_rfl) (fun _ _ _ h => h) (by rfl)
          · intro _ hS; go_split_ands; go_simp; with_reducible rfl
          · go_simp; rfl
          apply tk_ 5 (some 48) (bz_ 12 63) HT_ hHeld rfl rfl (by kernel_rfl) (fun _ _ _ h => h) (by rfl)
          · intro _ hS; go_split_ands; go_simp; with_reducible rfl
          · go_simp; rfl
          refine one_ (i := 6) (N := some 49) (bz_ 12 127) rfl rfl (one_of HT_.out (by kernel_rfl)) (by decide) (fun K hK => ?_)
          refine goes_ Try.func16 (by kernel_rfl) rfl #[drV A0 A1 A2 A3 A4 c0 c1 c2 c3 c4 D.code.length D.origs.length D.dests.length D.loops.length D.cases.length, .agg #[.int .i64 x.f1.f0, .int .u32 x.f1.f1]] (by rfl) rfl rfl (by simp only [List.map_toArray, List.map_cons, List.map_nil]; rfl) ?_
          with_reducible refine (rputC H5 HN.out HNN.out HXn.out HM.out).mono ?_
          rintro e w6 ⟨hb1, F0, F1, F2, F3, F4, s0, s1, s2, s3, s4, oe2, rfl, hE5⟩
          refine ⟨_, rfl, ?_⟩
          replace HXB := blk_below HXB hb1
          replace HB := below_step HB hb1
          replace HG := blk_below HG hb1
          replace HZ := blk_below HZ hb1
          replace H5 := H5.below hb1
          replace HT := HT.below hb1
          clear hb1
          have hS : w6.cell? ⟨g6, 0, none⟩ = some (.slice A0 D.code.length c0) ∧ w6.cell? ⟨g6, 1, none⟩ = some (.slice A1 D.origs.length c1) ∧ w6.cell? ⟨g6, 2, none⟩ = some (.slice A2 D.dests.length c2) ∧ w6.cell? ⟨g6, 3, none⟩ = some (.slice A3 D.loops.length c3) ∧ w6.cell? ⟨g6, 4, none⟩ = some (.slice A4 D.cases.length c4) ∧ w6.cell? ⟨(ad.add (kk * 3)).block, (ad.add (kk * 3)).off + 1, none⟩ = some (.int .i64 x.f1.f0) ∧ w6.cell? ⟨(ad.add (kk * 3)).block, (ad.add (kk * 3)).off + 2, none⟩ = some (.int .u32 x.f1.f1) := ⟨(blk_cell HG 0).trans rfl, (blk_cell HG 1).trans rfl, (blk_cell HG 2).trans rfl, (blk_cell HG 3).trans rfl, (blk_cell HG 4).trans rfl, (HQ.out w6 HB).2.1, (HQ.out w6 HB).2.2⟩
          obtain ⟨q0, q1, q2, q3, q4⟩ := frozen5 HXB
          obtain ⟨z0, z1, z2, z3, z4⟩ := cells5 HXB
          refine hK.out _ _ (hS) (fun hHeld => ?_)
          clear hK K
          refine norm_ (a' := ?_) ?_ ?_
          rotate_left
          · show Act.put _ (some 49) _ = _
            simp only [Act.put, List.setIfInBounds_toArray, List.set_cons_zero, List.set_cons_succ, i64_w, i32_w]
            rfl
          apply pu_ 7 (some 42) (bz_ 12 255) HT_ rfl rfl (by kernel_rfl) (fun _ _ _ h => h) (by rfl)
          · intro _; go_simp; with_reducible rfl
          · go_simp; rfl
          apply pu_ 8 (some 50) (bz_ 12 511) HT_ rfl rfl (by kernel_rfl) (fun _ _ _ h => h) (by rfl)
          · intro _; go_simp; with_reducible rfl
          · go_simp; rfl
          apply pu_ 9 (some 51) (bz_ 12 1023) HT_ rfl rfl (by kernel_rfl) (fun _ _ _ h => h) (by rfl)
          · intro _; go_simp; with_reducible rfl
          · go_simp; rfl
          refine last_ (i := 10) (N := none) (bz_ 12 2047) rfl rfl (one_of HT_.out (by kernel_rfl)) (by decide) (fun K hK => ?_)
          go_simp
          refine hK.out _ _ ?_
          clear hK K
          apply pu_ 11 (some 9) (bz_ 12 4095) HT_ rfl rfl (by kernel_rfl) (fun _ _ _ h => h) (by rfl)
          · intro _; go_simp; with_reducible rfl
          · go_simp; rfl
          refine done_ (done_of HT_.out (by kernel_rfl)) ?_
          clear HT_ hHeld hS q0 q1 q2 q3 q4 z0 z1 z2 z3 z4
          replace HB := below_put5 HB hxb (.slice F0 M.code.length s0) (.slice F1 M.origs.length s1) (.slice F2 M.dests.length s2) (.slice F3 M.loops.length s3) (.slice F4 M.cases.length s4)
          replace HG := blk_far5 HG hne (.slice F0 M.code.length s0) (.slice F1 M.origs.length s1) (.slice F2 M.dests.length s2) (.slice F3 M.loops.length s3) (.slice F4 M.cases.length s4)
          replace HZ := blk_far5 HZ hne2 (.slice F0 M.code.length s0) (.slice F1 M.origs.length s1) (.slice F2 M.dests.length s2) (.slice F3 M.loops.length s3) (.slice F4 M.cases.length s4)
          replace H5 := H5.put5 HXB (.slice F0 M.code.length s0) (.slice F1 M.origs.length s1) (.slice F2 M.dests.length s2) (.slice F3 M.loops.length s3) (.slice F4 M.cases.length s4)
          replace HT := HT.put5 HXB (.slice F0 M.code.length s0) (.slice F1 M.origs.length s1) (.slice F2 M.dests.length s2) (.slice F3 M.loops.length s3) (.slice F4 M.cases.length s4)
          replace hE5 := hE5.put5 HXB (.slice F0 M.code.length s0) (.slice F1 M.origs.length s1) (.slice F2 M.dests.length s2) (.slice F3 M.loops.length s3) (.slice F4 M.cases.length s4)
          replace HXB := blk_put5 HXB (.slice F0 M.code.length s0) (.slice F1 M.origs.length s1) (.slice F2 M.dests.length s2) (.slice F3 M.loops.length s3) (.slice F4 M.cases.length s4)
          simp only [put5] at HB HG HZ HT H5 hE5 HXB
          generalize ((((w6.setCell ⟨xb, 0, none⟩ (.slice F0 M.code.length s0)).setCell ⟨xb, 1, none⟩ (.slice F1 M.origs.length s1)).setCell ⟨xb, 2, none⟩ (.slice F2 M.dests.length s2)).setCell ⟨xb, 3, none⟩ (.slice F3 M.loops.length s3)).setCell ⟨xb, 4, none⟩ (.slice F4 M.cases.length s4) = w7 at HB HG HZ HT H5 hE5 HXB ⊢
          have HB_ := Aside0.mk HB
          have HG_ := Aside0.mk HG
          have HZ_ := Aside0.mk HZ
          have H5_ := Aside0.mk H5
          have HT_0 := Aside0.mk HT
          have HE_ := Aside0.mk hE5
          have HX_ := Aside0.mk HXB
          clear HB HG HZ HT H5 hE5 HXB
          rcases HO.out with ⟨hc, hs⟩ | ⟨hc, hs⟩
          · have HNX := Aside0.mk (HN.out.step (HS.out.trans hs))
            have HRX := Aside0.mk (show buildP M (l.drop (kk + 1)) (kk + 1) = (T, n, c) by have := HR.out; rw [HX.out, build_inl (HS.out.trans hs)] at this; exact this)
            subst hc
            clear hs HO HS HM HE
            obtain ⟨x0, x1, x2, x3, x4⟩ := cells5 HX_.out
            obtain ⟨k0, k1, k2, k3, k4⟩ := cells5 HG_.out
            obtain ⟨f0, f1, f2, f3, f4⟩ := frozen5 HG_.out
            have HBn := Aside0.mk (below_put5 HB_.out hg6 (.slice F0 M.code.length s0) (.slice F1 M.origs.length s1) (.slice F2 M.dests.length s2) (.slice F3 M.loops.length s3) (.slice F4 M.cases.length s4))
            have HGn := Aside0.mk (blk_put5 HG_.out (.slice F0 M.code.length s0) (.slice F1 M.origs.length s1) (.slice F2 M.dests.length s2) (.slice F3 M.loops.length s3) (.slice F4 M.cases.length s4))
            have HZn := Aside0.mk (blk_far5 (g := g6) HZ_.out h36 (.slice F0 M.code.length s0) (.slice F1 M.origs.length s1) (.slice F2 M.dests.length s2) (.slice F3 M.loops.length s3) (.slice F4 M.cases.length s4))
            have HEn := Aside0.mk (HE_.out.put5 HG_.out (.slice F0 M.code.length s0) (.slice F1 M.origs.length s1) (.slice F2 M.dests.length s2) (.slice F3 M.loops.length s3) (.slice F4 M.cases.length s4))
            have HTn := Aside0.mk (HT_0.out.put5 HG_.out (.slice F0 M.code.length s0) (.slice F1 M.origs.length s1) (.slice F2 M.dests.length s2) (.slice F3 M.loops.length s3) (.slice F4 M.cases.length s4))
            clear HB_ HG_ HZ_ HT_0 H5_ HE_ HX_
            go_wp2_with fail
            go_roundg (l.length - (kk + 1))
            case measure => omega
            case rel => exact ⟨kk + 1, M, F0, F1, F2, F3, F4, s0, s1, s2, s3, s4, _, by omega, by omega, by go_num, HBn, HGn, HZn, HTn, HEn, HNX, HRX⟩
          · have hq : (T, n, c) = (D, kk, f2) := by have := HR.out; rw [HX.out, build_inr (HS.out.trans hs)] at this; exact this.symm
            simp only [Prod.mk.injEq] at hq
            obtain ⟨rfl, rfl, rfl⟩ := hq
            have hc1 : (c == 0) = false := by simpa using hc
            have hc2 : (c != 0) = true := by simpa using hc
            have hc3 : (c == c) = true := by simp
            have hc4 : ((n : Int) == (n : Int)) = true := by simp
            clear hc hs HO HS HE
            obtain ⟨k0, k1, k2, k3, k4⟩ := cells5 HG_.out
            obtain ⟨z0, z1, z2, z3, z4⟩ := cells5 HZ_.out
            go_wp2_with fail
            clear k0 k1 k2 k3 k4 z0 z1 z2 z3 z4
            refine (same_calls HT_0.out.drc H5_.out.drc HNT.out (by omega)).mono ?_
            rintro e we ⟨rfl, hb⟩
            have HBe := Aside0.mk (below_step HB_.out hb)
            clear hb
            go_wp2_with fail
            go_ret
            exact ⟨rfl, HBe.out⟩
      · have ha1 : (x.f0 == 0) = false := by simpa using ha
        have HO := Aside0.mk (out_split (d := D) (fun k hk => stepP_err (x := x) (d := D) (by unfold stepP; rw [if_neg ha]; exact hk)) HE.out)
        have HS := Aside0.mk (show stepP D x = actR D x.f0 by unfold stepP; rw [if_neg ha])
        clear ha
        have HB := HB0.out
        have HG := HG0.out
        have HZ := HZ0.out
        have HT := HT0.out
        have H5 := H50.out
        have hS : wr.cell? ⟨g6, 0, none⟩ = some (.slice A0 D.code.length c0) ∧ wr.cell? ⟨g6, 1, none⟩ = some (.slice A1 D.origs.length c1) ∧ wr.cell? ⟨g6, 2, none⟩ = some (.slice A2 D.dests.length c2) ∧ wr.cell? ⟨g6, 3, none⟩ = some (.slice A3 D.loops.length c3) ∧ wr.cell? ⟨g6, 4, none⟩ = some (.slice A4 D.cases.length c4) ∧ wr.cell? (ad.add (kk * 3)) = some (.int .i64 x.f0) := ⟨(blk_cell HG 0).trans rfl, (blk_cell HG 1).trans rfl, (blk_cell HG 2).trans rfl, (blk_cell HG 3).trans rfl, (blk_cell HG 4).trans rfl, (HQ.out wr HB).1⟩
        clear HB0 HG0 HZ0 HT0 H50
        go_wp2_with fail
        refine start_ (n := 13) (S := fun w' => w'.cell? ⟨g6, 0, none⟩ = some (.slice A0 D.code.length c0) ∧ w'.cell? ⟨g6, 1, none⟩ = some (.slice A1 D.origs.length c1) ∧ w'.cell? ⟨g6, 2, none⟩ = some (.slice A2 D.dests.length c2) ∧ w'.cell? ⟨g6, 3, none⟩ = some (.slice A3 D.loops.length c3) ∧ w'.cell? ⟨g6, 4, none⟩ = some (.slice A4 D.cases.length c4) ∧ w'.cell? (ad.add (kk * 3)) = some (.int .i64 x.f0)) (ds := [11]) (bz_ 13 0) (by kernel_rfl) rfl rfl (hS) (fun hHeld => ?_)
        refine with_tab (rfl : rtab .any (opsOf Try.f6 8) = rtab .any (opsOf Try.f6 8)) (fun HT_ => ?_)
        replace HB := below_drew HB
        replace HG := blk_drew HG
        replace HZ := blk_drew HZ
        replace H5 := H5.below (below_drew (Below.refl _ _))
        replace HT := HT.below (below_drew (Below.refl _ _))
        clear hS
        generalize wr.drew = wa at HB HG HZ HT H5 hHeld ⊢
        apply pu_ 1 (some 28) (bz_ 13 2) HT_ rfl rfl (by kernel_rfl) (fun _ _ _ h => h) (by rfl)
        · intro _; go_simp; with_reducible rfl
        · go_simp; rfl
        apply pu_ 2 (some 29) (bz_ 13 6) HT_ rfl rfl (by kernel_rfl) (fun _ _ _ h => h) (by rfl)
        · intro _; go_simp; with_reducible rfl
        · go_simp; rfl
        apply pu_ 3 (some 30) (bz_ 13 14) HT_ rfl rfl (by kernel_rfl) (fun _ _ _ h => h) (by rfl)
        · intro _; go_simp; with_reducible rfl
        · go_simp; rfl
        apply pu_ 4 (some 31) (bz_ 13 30) HT_ rfl rfl (by kernel_rfl) (fun _ _ _ h => h) (by rfl)
        · intro _; go_simp; with_reducible rfl
        · go_simp; rfl
        apply tk_ 0 (some 27) (bz_ 13 31) HT_ hHeld rfl rfl (by kernel_rfl) (fun _ _ _ h => h) (by rfl)
        · intro _ hS; go_split_ands; go_simp; with_reducible rfl
        · go_simp; rfl
        apply tk_ 5 (some 32) (bz_ 13 63) HT_ hHeld rfl rfl (by kernel_rfl) (fun _ _ _ h => h) (by rfl)
        · intro _ hS; go_split_ands; go_simp; with_reducible rfl
        · go_simp; rfl
        refine two_ (i := 6) (j := 10) (Ni := some 33) (Nj := some 8) (bz_ 13 127) (bz_ 13 1087) rfl rfl rfl rfl (two_of HT_.out (by kernel_rfl)) (by decide) (by decide) (fun K hK => ?_) (fun K hK => ?_)
        · refine goes_ Try.func11 (by kernel_rfl) rfl #[drV A0 A1 A2 A3 A4 c0 c1 c2 c3 c4 D.code.length D.origs.length D.dests.length D.loops.length D.cases.length, .int .i64 x.f0] (by rfl) rfl rfl (by simp only [List.map_toArray, List.map_cons, List.map_nil]; rfl) ?_
          with_reducible refine (ractC H5 HN.out HNN.out HE.out).mono ?_
          rintro e w1 ⟨hb1, B0, B1, B2, B3, B4, b0, b1, b2, b3, b4, oe, rfl, hE5⟩
          refine ⟨_, rfl, ?_⟩
          replace HB := below_step HB hb1
          replace HG := blk_below HG hb1
          replace HZ := blk_below HZ hb1
          replace H5 := H5.below hb1
          replace HT := HT.below hb1
          clear hb1
          have hS : w1.cell? ⟨g6, 0, none⟩ = some (.slice A0 D.code.length c0) ∧ w1.cell? ⟨g6, 1, none⟩ = some (.slice A1 D.origs.length c1) ∧ w1.cell? ⟨g6, 2, none⟩ = some (.slice A2 D.dests.length c2) ∧ w1.cell? ⟨g6, 3, none⟩ = some (.slice A3 D.loops.length c3) ∧ w1.cell? ⟨g6, 4, none⟩ = some (.slice A4 D.cases.length c4) ∧ w1.cell? (ad.add (kk * 3)) = some (.int .i64 x.f0) := ⟨(blk_cell HG 0).trans rfl, (blk_cell HG 1).trans rfl, (blk_cell HG 2).trans rfl, (blk_cell HG 3).trans rfl, (blk_cell HG 4).trans rfl, (HQ.out w1 HB).1⟩
          refine hK.out _ _ (hS) (fun hHeld => ?_)
          clear hK K
          refine norm_ (a' := ?_) ?_ ?_
          rotate_left
          · show Act.put _ (some 33) _ = _
            simp only [Act.put, List.setIfInBounds_toArray, List.set_cons_zero, List.set_cons_succ, i64_w, i32_w]
            rfl
          apply pu_ 7 (some 26) (bz_ 13 255) HT_ rfl rfl (by kernel_rfl) (fun _ _ _ h => h) (by rfl)
          · intro _; go_simp; with_reducible rfl
          · go_simp; rfl
          apply pu_ 8 (some 34) (bz_ 13 511) HT_ rfl rfl (by kernel_rfl) (fun _ _ _ h => h) (by rfl)
          · intro _; go_simp; with_reducible rfl
          · go_simp; rfl
          apply pu_ 9 (some 35) (bz_ 13 1023) HT_ rfl rfl (by kernel_rfl) (fun _ _ _ h => h) (by rfl)
          · intro _; go_simp; with_reducible rfl
          · go_simp; rfl
          refine one_ (i := 10) (N := some 8) (bz_ 13 2047) rfl rfl (one_of HT_.out (by kernel_rfl)) (by decide) (fun K hK => ?_)
          refine value_ (w1 := ?_) (v := ?_) (by rfl) rfl ?_ ?_
          rotate_left 2
          · go_simp
            constructor
            · rfl
            · rfl
          have hal := below_alloc (Below.refl w1.heap.size w1) (.cells #[.slice none 0 0, .slice none 0 0, .slice none 0 0, .slice none 0 0, .slice none 0 0] 26)
          have HXB := blk_new w1 (.cells #[.slice none 0 0, .slice none 0 0, .slice none 0 0, .slice none 0 0, .slice none 0 0] 26)
          have hxb : w.heap.size ≤ w1.heap.size := HB.size
          have hne : g6 ≠ w1.heap.size := Nat.ne_of_lt (blk_lt HG)
          have hne2 : g3 ≠ w1.heap.size := Nat.ne_of_lt (blk_lt HZ)
          replace HB := below_step HB hal
          replace HG := blk_below HG hal
          replace HZ := blk_below HZ hal
          replace H5 := H5.below hal
          replace HT := HT.below hal
          replace hE5 := hE5.below hal
          clear hal
          generalize w1.alloc (.cells #[.slice none 0 0, .slice none 0 0, .slice none 0 0, .slice none 0 0, .slice none 0 0] 26) = wb at HB HG HZ HT H5 HXB hE5 ⊢
          generalize w1.heap.size = xb at HXB hxb hne hne2 ⊢
          have hS : wb.cell? ⟨g6, 0, none⟩ = some (.slice A0 D.code.length c0) ∧ wb.cell? ⟨g6, 1, none⟩ = some (.slice A1 D.origs.length c1) ∧ wb.cell? ⟨g6, 2, none⟩ = some (.slice A2 D.dests.length c2) ∧ wb.cell? ⟨g6, 3, none⟩ = some (.slice A3 D.loops.length c3) ∧ wb.cell? ⟨g6, 4, none⟩ = some (.slice A4 D.cases.length c4) ∧ wb.cell? (ad.add (kk * 3)) = some (.int .i64 x.f0) := ⟨(blk_cell HG 0).trans rfl, (blk_cell HG 1).trans rfl, (blk_cell HG 2).trans rfl, (blk_cell HG 3).trans rfl, (blk_cell HG 4).trans rfl, (HQ.out wb HB).1⟩
          obtain ⟨q0, q1, q2, q3, q4⟩ := frozen5 HXB
          obtain ⟨z0, z1, z2, z3, z4⟩ := cells5 HXB
          refine hK.out _ _ (hS) (fun hHeld => ?_)
          clear hK K
          refine norm_ (a' := ?_) ?_ ?_
          rotate_left
          · show Act.put _ (some 8) _ = _
            simp only [Act.put, List.setIfInBounds_toArray, List.set_cons_zero, List.set_cons_succ, i64_w, i32_w]
            rfl
          refine last_ (i := 11) (N := none) (bz_ 13 4095) rfl rfl (one_of HT_.out (by kernel_rfl)) (by decide) (fun K hK => ?_)
          go_simp
          refine hK.out _ _ ?_
          clear hK K
          apply pu_ 12 (some 9) (bz_ 13 8191) HT_ rfl rfl (by kernel_rfl) (fun _ _ _ h => h) (by rfl)
          · intro _; go_simp; with_reducible rfl
          · go_simp; rfl
          refine done_ (done_of HT_.out (by kernel_rfl)) ?_
          clear HT_ hHeld hS q0 q1 q2 q3 q4 z0 z1 z2 z3 z4
          replace HB := below_put5 HB hxb (.slice B0 E.code.length b0) (.slice B1 E.origs.length b1) (.slice B2 E.dests.length b2) (.slice B3 E.loops.length b3) (.slice B4 E.cases.length b4)
          replace HG := blk_far5 HG hne (.slice B0 E.code.length b0) (.slice B1 E.origs.length b1) (.slice B2 E.dests.length b2) (.slice B3 E.loops.length b3) (.slice B4 E.cases.length b4)
          replace HZ := blk_far5 HZ hne2 (.slice B0 E.code.length b0) (.slice B1 E.origs.length b1) (.slice B2 E.dests.length b2) (.slice B3 E.loops.length b3) (.slice B4 E.cases.length b4)
          replace H5 := H5.put5 HXB (.slice B0 E.code.length b0) (.slice B1 E.origs.length b1) (.slice B2 E.dests.length b2) (.slice B3 E.loops.length b3) (.slice B4 E.cases.length b4)
          replace HT := HT.put5 HXB (.slice B0 E.code.length b0) (.slice B1 E.origs.length b1) (.slice B2 E.dests.length b2) (.slice B3 E.loops.length b3) (.slice B4 E.cases.length b4)
          replace hE5 := hE5.put5 HXB (.slice B0 E.code.length b0) (.slice B1 E.origs.length b1) (.slice B2 E.dests.length b2) (.slice B3 E.loops.length b3) (.slice B4 E.cases.length b4)
          replace HXB := blk_put5 HXB (.slice B0 E.code.length b0) (.slice B1 E.origs.length b1) (.slice B2 E.dests.length b2) (.slice B3 E.loops.length b3) (.slice B4 E.cases.length b4)
          simp only [put5] at HB HG HZ HT H5 hE5 HXB
          generalize ((((wb.setCell ⟨xb, 0, none⟩ (.slice B0 E.code.length b0)).setCell ⟨xb, 1, none⟩ (.slice B1 E.origs.length b1)).setCell ⟨xb, 2, none⟩ (.slice B2 E.dests.length b2)).setCell ⟨xb, 3, none⟩ (.slice B3 E.loops.length b3)).setCell ⟨xb, 4, none⟩ (.slice B4 E.cases.length b4) = w5 at HB HG HZ HT H5 hE5 HXB ⊢
          have d0 := (HQ.out w5 HB).1
          have HB_ := Aside0.mk HB
          have HG_ := Aside0.mk HG
          have HZ_ := Aside0.mk HZ
          have H5_ := Aside0.mk H5
          have HT_0 := Aside0.mk HT
          have HE_ := Aside0.mk hE5
          have HX_ := Aside0.mk HXB
          clear HB HG HZ HT H5 hE5 HXB
          rcases HO.out with ⟨hc, hs⟩ | ⟨hc, hs⟩
          · have HNX := Aside0.mk (HN.out.step (HS.out.trans hs))
            have HRX := Aside0.mk (show buildP E (l.drop (kk + 1)) (kk + 1) = (T, n, c) by have := HR.out; rw [HX.out, build_inl (HS.out.trans hs)] at this; exact this)
            subst hc
            clear hs HO HS HE
            obtain ⟨x0, x1, x2, x3, x4⟩ := cells5 HX_.out
            obtain ⟨k0, k1, k2, k3, k4⟩ := cells5 HG_.out
            obtain ⟨f0, f1, f2, f3, f4⟩ := frozen5 HG_.out
            have HBn := Aside0.mk (below_put5 HB_.out hg6 (.slice B0 E.code.length b0) (.slice B1 E.origs.length b1) (.slice B2 E.dests.length b2) (.slice B3 E.loops.length b3) (.slice B4 E.cases.length b4))
            have HGn := Aside0.mk (blk_put5 HG_.out (.slice B0 E.code.length b0) (.slice B1 E.origs.length b1) (.slice B2 E.dests.length b2) (.slice B3 E.loops.length b3) (.slice B4 E.cases.length b4))
            have HZn := Aside0.mk (blk_far5 (g := g6) HZ_.out h36 (.slice B0 E.code.length b0) (.slice B1 E.origs.length b1) (.slice B2 E.dests.length b2) (.slice B3 E.loops.length b3) (.slice B4 E.cases.length b4))
            have HEn := Aside0.mk (HE_.out.put5 HG_.out (.slice B0 E.code.length b0) (.slice B1 E.origs.length b1) (.slice B2 E.dests.length b2) (.slice B3 E.loops.length b3) (.slice B4 E.cases.length b4))
            have HTn := Aside0.mk (HT_0.out.put5 HG_.out (.slice B0 E.code.length b0) (.slice B1 E.origs.length b1) (.slice B2 E.dests.length b2) (.slice B3 E.loops.length b3) (.slice B4 E.cases.length b4))
            clear HB_ HG_ HZ_ HT_0 H5_ HE_ HX_
            go_wp2_with fail
            go_roundg (l.length - (kk + 1))
            case measure => omega
            case rel => exact ⟨kk + 1, E, B0, B1, B2, B3, B4, b0, b1, b2, b3, b4, _, by omega, by omega, by go_num, HBn, HGn, HZn, HTn, HEn, HNX, HRX⟩
          · have hq : (T, n, c) = (D, kk, f) := by have := HR.out; rw [HX.out, build_inr (HS.out.trans hs)] at this; exact this.symm
            simp only [Prod.mk.injEq] at hq
            obtain ⟨rfl, rfl, rfl⟩ := hq
            have hc1 : (c == 0) = false := by simpa using hc
            have hc2 : (c != 0) = true := by simpa using hc
            have hc3 : (c == c) = true := by simp
            have hc4 : ((n : Int) == (n : Int)) = true := by simp
            clear hc hs HO HS HE
            obtain ⟨k0, k1, k2, k3, k4⟩ := cells5 HG_.out
            obtain ⟨z0, z1, z2, z3, z4⟩ := cells5 HZ_.out
            go_wp2_with fail
            clear k0 k1 k2 k3 k4 z0 z1 z2 z3 z4
            refine (same_calls HT_0.out.drc H5_.out.drc HNT.out (by omega)).mono ?_
            rintro e we ⟨rfl, hb⟩
            have HBe := Aside0.mk (below_step HB_.out hb)
            clear hb
            go_wp2_with fail
            go_ret
            exact ⟨rfl, HBe.out⟩
        · refine value_ (w1 := ?_) (v := ?_) (by rfl) rfl ?_ ?_
          rotate_left 2
          · go_simp
            constructor
            · rfl
            · rfl
          have hal := below_alloc (Below.refl wa.heap.size wa) (.cells #[.slice none 0 0, .slice none 0 0, .slice none 0 0, .slice none 0 0, .slice none 0 0] 26)
          have HXB := blk_new wa (.cells #[.slice none 0 0, .slice none 0 0, .slice none 0 0, .slice none 0 0, .slice none 0 0] 26)
          have hxb : w.heap.size ≤ wa.heap.size := HB.size
          have hne : g6 ≠ wa.heap.size := Nat.ne_of_lt (blk_lt HG)
          have hne2 : g3 ≠ wa.heap.size := Nat.ne_of_lt (blk_lt HZ)
          replace HB := below_step HB hal
          replace HG := blk_below HG hal
          replace HZ := blk_below HZ hal
          replace H5 := H5.below hal
          replace HT := HT.below hal
          clear hal
          generalize wa.alloc (.cells #[.slice none 0 0, .slice none 0 0, .slice none 0 0, .slice none 0 0, .slice none 0 0] 26) = wb at HB HG HZ HT H5 HXB ⊢
          generalize wa.heap.size = xb at HXB hxb hne hne2 ⊢
          have hS : wb.cell? ⟨g6, 0, none⟩ = some (.slice A0 D.code.length c0) ∧ wb.cell? ⟨g6, 1, none⟩ = some (.slice A1 D.origs.length c1) ∧ wb.cell? ⟨g6, 2, none⟩ = some (.slice A2 D.dests.length c2) ∧ wb.cell? ⟨g6, 3, none⟩ = some (.slice A3 D.loops.length c3) ∧ wb.cell? ⟨g6, 4, none⟩ = some (.slice A4 D.cases.length c4) ∧ wb.cell? (ad.add (kk * 3)) = some (.int .i64 x.f0) := ⟨(blk_cell HG 0).trans rfl, (blk_cell HG 1).trans rfl, (blk_cell HG 2).trans rfl, (blk_cell HG 3).trans rfl, (blk_cell HG 4).trans rfl, (HQ.out wb HB).1⟩
          refine hK.out _ _ (hS) (fun hHeld => ?_)
          clear hK K
          refine norm_ (a' := ?_) ?_ ?_
          rotate_left
          · show Act.put _ (some 8) _ = _
            simp only [Act.put, List.setIfInBounds_toArray, List.set_cons_zero, List.set_cons_succ, i64_w, i32_w]
            rfl
          refine one_ (i := 6) (N := some 33) (bz_ 13 1151) rfl rfl (one_of HT_.out (by kernel_rfl)) (by decide) (fun K hK => ?_)
          refine goes_ Try.func11 (by kernel_rfl) rfl #[drV A0 A1 A2 A3 A4 c0 c1 c2 c3 c4 D.code.length D.origs.length D.dests.length D.loops.length D.cases.length, .int .i64 x.f0] (by rfl) rfl rfl (by simp only [List.map_toArray, List.map_cons, List.map_nil]; rfl) ?_
          with_reducible refine (ractC H5 HN.out HNN.out HE.out).mono ?_
          rintro e w1 ⟨hb1, B0, B1, B2, B3, B4, b0, b1, b2, b3, b4, oe, rfl, hE5⟩
          refine ⟨_, rfl, ?_⟩
          replace HB := below_step HB hb1
          replace HG := blk_below HG hb1
          replace HZ := blk_below HZ hb1
          replace H5 := H5.below hb1
          replace HT := HT.below hb1
          replace HXB := blk_below HXB hb1
          replace hxb := hxb
          clear hb1
          have hS : w1.cell? ⟨g6, 0, none⟩ = some (.slice A0 D.code.length c0) ∧ w1.cell? ⟨g6, 1, none⟩ = some (.slice A1 D.origs.length c1) ∧ w1.cell? ⟨g6, 2, none⟩ = some (.slice A2 D.dests.length c2) ∧ w1.cell? ⟨g6, 3, none⟩ = some (.slice A3 D.loops.length c3) ∧ w1.cell? ⟨g6, 4, none⟩ = some (.slice A4 D.cases.length c4) ∧ w1.cell? (ad.add (kk * 3)) = some (.int .i64 x.f0) := ⟨(blk_cell HG 0).trans rfl, (blk_cell HG 1).trans rfl, (blk_cell HG 2).trans rfl, (blk_cell HG 3).trans rfl, (blk_cell HG 4).trans rfl, (HQ.out w1 HB).1⟩
          obtain ⟨q0, q1, q2, q3, q4⟩ := frozen5 HXB
          obtain ⟨z0, z1, z2, z3, z4⟩ := cells5 HXB
          refine hK.out _ _ (hS) (fun hHeld => ?_)
          clear hK K
          refine norm_ (a' := ?_) ?_ ?_
          rotate_left
          · show Act.put _ (some 33) _ = _
            simp only [Act.put, List.setIfInBounds_toArray, List.set_cons_zero, List.set_cons_succ, i64_w, i32_w]
            rfl
          apply pu_ 7 (some 26) (bz_ 13 1279) HT_ rfl rfl (by kernel_rfl) (fun _ _ _ h => h) (by rfl)
          · intro _; go_simp; with_reducible rfl
          · go_simp; rfl
          apply pu_ 8 (some 34) (bz_ 13 1535) HT_ rfl rfl (by kernel_rfl) (fun _ _ _ h => h) (by rfl)
          · intro _; go_simp; with_reducible rfl
          · go_simp; rfl
          apply pu_ 9 (some 35) (bz_ 13 2047) HT_ rfl rfl (by kernel_rfl) (fun _ _ _ h => h) (by rfl)
          · intro _; go_simp; with_reducible rfl
          · go_simp; rfl
          refine last_ (i := 11) (N := none) (bz_ 13 4095) rfl rfl (one_of HT_.out (by kernel_rfl)) (by decide) (fun K hK => ?_)
          go_simp
          refine hK.out _ _ ?_
          clear hK K
          apply pu_ 12 (some 9) (bz_ 13 8191) HT_ rfl rfl (by kernel_rfl) (fun _ _ _ h => h) (by rfl)
          · intro _; go_simp; with_reducible rfl
          · go_simp; rfl
          refine done_ (done_of HT_.out (by kernel_rfl)) ?_
          clear HT_ hHeld hS q0 q1 q2 q3 q4 z0 z1 z2 z3 z4
          replace HB := below_put5 HB hxb (.slice B0 E.code.length b0) (.slice B1 E.origs.length b1) (.slice B2 E.dests.length b2) (.slice B3 E.loops.length b3) (.slice B4 E.cases.length b4)
          replace HG := blk_far5 HG hne (.slice B0 E.code.length b0) (.slice B1 E.origs.length b1) (.slice B2 E.dests.length b2) (.slice B3 E.loops.length b3) (.slice B4 E.cases.length b4)
          replace HZ := blk_far5 HZ hne2 (.slice B0 E.code.length b0) (.slice B1 E.origs.length b1) (.slice B2 E.dests.length b2) (.slice B3 E.loops.length b3) (.slice B4 E.cases.length b4)
          replace H5 := H5.put5 HXB (.slice B0 E.code.length b0) (.slice B1 E.origs.length b1) (.slice B2 E.dests.length b2) (.slice B3 E.loops.length b3) (.slice B4 E.cases.length b4)
          replace HT := HT.put5 HXB (.slice B0 E.code.length b0) (.slice B1 E.origs.length b1) (.slice B2 E.dests.length b2) (.slice B3 E.loops.length b3) (.slice B4 E.cases.length b4)
          replace hE5 := hE5.put5 HXB (.slice B0 E.code.length b0) (.slice B1 E.origs.length b1) (.slice B2 E.dests.length b2) (.slice B3 E.loops.length b3) (.slice B4 E.cases.length b4)
          replace HXB := blk_put5 HXB (.slice B0 E.code.length b0) (.slice B1 E.origs.length b1) (.slice B2 E.dests.length b2) (.slice B3 E.loops.length b3) (.slice B4 E.cases.length b4)
          simp only [put5] at HB HG HZ HT H5 hE5 HXB
          generalize ((((w1.setCell ⟨xb, 0, none⟩ (.slice B0 E.code.length b0)).setCell ⟨xb, 1, none⟩ (.slice B1 E.origs.length b1)).setCell ⟨xb, 2, none⟩ (.slice B2 E.dests.length b2)).setCell ⟨xb, 3, none⟩ (.slice B3 E.loops.length b3)).setCell ⟨xb, 4, none⟩ (.slice B4 E.cases.length b4) = w5 at HB HG HZ HT H5 hE5 HXB ⊢
          have d0 := (HQ.out w5 HB).1
          have HB_ := Aside0.mk HB
          have HG_ := Aside0.mk HG
          have HZ_ := Aside0.mk HZ
          have H5_ := Aside0.mk H5
          have HT_0 := Aside0.mk HT
          have HE_ := Aside0.mk hE5
          have HX_ := Aside0.mk HXB
          clear HB HG HZ HT H5 hE5 HXB
          rcases HO.out with ⟨hc, hs⟩ | ⟨hc, hs⟩
          · have HNX := Aside0.mk (HN.out.step (HS.out.trans hs))
            have HRX := Aside0.mk (show buildP E (l.drop (kk + 1)) (kk + 1) = (T, n, c) by have := HR.out; rw [HX.out, build_inl (HS.out.trans hs)] at this; exact this)
            subst hc
            clear hs HO HS HE
            obtain ⟨x0, x1, x2, x3, x4⟩ := cells5 HX_.out
            obtain ⟨k0, k1, k2, k3, k4⟩ := cells5 HG_.out
            obtain ⟨f0, f1, f2, f3, f4⟩ := frozen5 HG_.out
            have HBn := Aside0.mk (below_put5 HB_.out hg6 (.slice B0 E.code.length b0) (.slice B1 E.origs.length b1) (.slice B2 E.dests.length b2) (.slice B3 E.loops.length b3) (.slice B4 E.cases.length b4))
            have HGn := Aside0.mk (blk_put5 HG_.out (.slice B0 E.code.length b0) (.slice B1 E.origs.length b1) (.slice B2 E.dests.length b2) (.slice B3 E.loops.length b3) (.slice B4 E.cases.length b4))
            have HZn := Aside0.mk (blk_far5 (g := g6) HZ_.out h36 (.slice B0 E.code.length b0) (.slice B1 E.origs.length b1) (.slice B2 E.dests.length b2) (.slice B3 E.loops.length b3) (.slice B4 E.cases.length b4))
            have HEn := Aside0.mk (HE_.out.put5 HG_.out (.slice B0 E.code.length b0) (.slice B1 E.origs.length b1) (.slice B2 E.dests.length b2) (.slice B3 E.loops.length b3) (.slice B4 E.cases.length b4))
            have HTn := Aside0.mk (HT_0.out.put5 HG_.out (.slice B0 E.code.length b0) (.slice B1 E.origs.length b1) (.slice B2 E.dests.length b2) (.slice B3 E.loops.length b3) (.slice B4 E.cases.length b4))
            clear HB_ HG_ HZ_ HT_0 H5_ HE_ HX_
            go_wp2_with fail
            go_roundg (l.length - (kk + 1))
            case measure => omega
            case rel => exact ⟨kk + 1, E, B0, B1, B2, B3, B4, b0, b1, b2, b3, b4, _, by omega, by omega, by go_num, HBn, HGn, HZn, HTn, HEn, HNX, HRX⟩
          · have hq : (T, n, c) = (D, kk, f) := by have := HR.out; rw [HX.out, build_inr (HS.out.trans hs)] at this; exact this.symm
            simp only [Prod.mk.injEq] at hq
            obtain ⟨rfl, rfl, rfl⟩ := hq
            have hc1 : (c == 0) = false := by simpa using hc
            have hc2 : (c != 0) = true := by simpa using hc
            have hc3 : (c == c) = true := by simp
            have hc4 : ((n : Int) == (n : Int)) = true := by simp
            clear hc hs HO HS HE
            obtain ⟨k0, k1, k2, k3, k4⟩ := cells5 HG_.out
            obtain ⟨z0, z1, z2, z3, z4⟩ := cells5 HZ_.out
            go_wp2_with fail
            clear k0 k1 k2 k3 k4 z0 z1 z2 z3 z4
            refine (same_calls HT_0.out.drc H5_.out.drc HNT.out (by omega)).mono ?_
            rintro e we ⟨rfl, hb⟩
            have HBe := Aside0.mk (below_step HB_.out hb)
            clear hb
            go_wp2_with fail
            go_ret
            exact ⟨rfl, HBe.out⟩
    · have hltz : ¬ (kk : Int) < (l.length : Int) := by omega
      have : kk = l.length := by omega
      subst this
      have hq : (T, n, c) = (D, l.length, 0) := by have := HR.out; rw [List.drop_length, build_end] at this; exact this.symm
      simp only [Prod.mk.injEq] at hq
      obtain ⟨rfl, rfl, rfl⟩ := hq
      have hc4 : ((l.length : Int) == (l.length : Int)) = true := by simp
      obtain ⟨k0, k1, k2, k3, k4⟩ := cells5 HG0.out
      obtain ⟨z0, z1, z2, z3, z4⟩ := cells5 HZ0.out
      go_wp2_with fail
      clear k0 k1 k2 k3 k4 z0 z1 z2 z3 z4
      refine (same_calls HT0.out.drc H50.out.drc HNT.out (by omega)).mono ?_
      rintro e we ⟨rfl, hb⟩
      have HBe := Aside0.mk (below_step HB0.out hb)
      clear hb
      go_wp2_with fail
      go_ret
      exact ⟨rfl, HBe.out⟩
end Go.Proofs.Ytmglkgjnhoojaaa.PCodeRows
