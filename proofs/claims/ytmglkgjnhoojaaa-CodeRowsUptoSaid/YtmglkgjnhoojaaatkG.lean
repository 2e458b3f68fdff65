/- build (20) walked. -/
import Derived.Test.YtmglkgjnhoojaaatkA
import Derived.Test.YtmglkgjnhoojaaatkP
namespace Go.Proofs.Ytmglkgjnhoojaaa.PCodeRows
open Go.RowKit Go.Proofs.YtmglkgjnhoojaaaW.PrintWords Go.Proofs.YtmglkgjnhoojaaaW.PrintLast Go.Proofs.YtmglkgjnhoojaaaW.PrintMore
set_option linter.unusedVariables false
set_option linter.unusedSimpArgs false
/-- What build leaves. -/
def LPost (w : World) (r : Dr × Nat × Int) (e : Ending) (w' : World) : Prop :=
  Below w.heap.size w w' ∧ ∃ A0 A1 A2 A3 A4 c0 c1 c2 c3 c4 o, e = .returned (.tuple #[drV A0 A1 A2 A3 A4 c0 c1 c2 c3 c4 r.1.code.length r.1.origs.length r.1.dests.length r.1.loops.length r.1.cases.length, .int .i64 r.2.1, .int .i64 r.2.2]) ∧ C5 w' 0 (.slice A0 r.1.code.length c0) (.slice A1 r.1.origs.length c1) (.slice A2 r.1.dests.length c2) (.slice A3 r.1.loops.length c3) (.slice A4 r.1.cases.length c4) o r.1.code r.1.origs r.1.dests r.1.loops r.1.cases
theorem build_end (d : Dr) (i : Nat) : buildP d [] i = (d, i, 0) := rfl
theorem build_inl {d E : Dr} {x : S48} {r : List S48} {i : Nat} (h : stepP d x = .inl E) : buildP d (x :: r) i = buildP E r (i + 1) := by
  show (match stepP d x with | .inl d' => buildP d' r (i + 1) | .inr c => (d, i, c)) = _
  rw [h]
theorem build_inr {d : Dr} {x : S48} {r : List S48} {i : Nat} {c : Int} (h : stepP d x = .inr c) : buildP d (x :: r) i = (d, i, c) := by
  show (match stepP d x with | .inl d' => buildP d' r (i + 1) | .inr c => (d, i, c)) = _
  rw [h]

set_option maxHeartbeats 8000000 in
theorem build_calls (D0 : Dr) (I0 I1 I2 I3 I4 : Option Addr) (i0 i1 i2 i3 i4 : Nat) (ow : Nat → Nat) (L : Option Addr) (cl N : Nat) (l : List S48) (w : World)
    (h : C5 w 0 (.slice I0 D0.code.length i0) (.slice I1 D0.origs.length i1) (.slice I2 D0.dests.length i2) (.slice I3 D0.loops.length i3) (.slice I4 D0.cases.length i4) ow D0.code D0.origs D0.dests D0.loops D0.cases) (hL : Kd.C k48 w L l.length l) (hn : ∀ x ∈ l, 0 ≤ x.f1.f1 ∧ x.f1.f1 < 4294967296) (hN : Bnd D0 N) (hN2 : N + l.length ≤ 1099511627776) :
    Calls Try.prog 20 #[drV I0 I1 I2 I3 I4 i0 i1 i2 i3 i4 D0.code.length D0.origs.length D0.dests.length D0.loops.length D0.cases.length, .slice L l.length cl] w (LPost w (buildP D0 l 0)) := by
  obtain ⟨r, hr⟩ : ∃ r, buildP D0 l 0 = r := ⟨_, rfl⟩
  rw [hr]
  have HR := Aside0.mk hr
  clear hr
  have hsz : (w.alloc (.cells #[.slice I0 D0.code.length i0, .slice I1 D0.origs.length i1, .slice I2 D0.dests.length i2, .slice I3 D0.loops.length i3, .slice I4 D0.cases.length i4] 26)).heap.size = w.heap.size + 1 := by simp
  have HG := Aside0.mk (blk_alloc (blk_new w (.cells #[.slice I0 D0.code.length i0, .slice I1 D0.origs.length i1, .slice I2 D0.dests.length i2, .slice I3 D0.loops.length i3, .slice I4 D0.cases.length i4] 26)) (.cells #[.slice none 0 0, .slice none 0 0, .slice none 0 0, .slice none 0 0, .slice none 0 0] 26))
  have HZ0 := blk_new (w.alloc (.cells #[.slice I0 D0.code.length i0, .slice I1 D0.origs.length i1, .slice I2 D0.dests.length i2, .slice I3 D0.loops.length i3, .slice I4 D0.cases.length i4] 26)) (.cells #[.slice none 0 0, .slice none 0 0, .slice none 0 0, .slice none 0 0, .slice none 0 0] 26)
  rw [hsz] at HZ0
  have HZ := Aside0.mk HZ0
  clear HZ0 hsz
  have HB := Aside0.mk (below_alloc (below_alloc (Below.refl w.heap.size w) (.cells #[.slice I0 D0.code.length i0, .slice I1 D0.origs.length i1, .slice I2 D0.dests.length i2, .slice I3 D0.loops.length i3, .slice I4 D0.cases.length i4] 26)) (.cells #[.slice none 0 0, .slice none 0 0, .slice none 0 0, .slice none 0 0, .slice none 0 0] 26))
  have H5 := Aside0.mk (h.below HB.out)
  have HL := Aside0.mk hL
  have HN := Aside0.mk hN
  have HN2 := Aside0.mk hN2
  have Hn := Aside0.mk hn
  have hlen := hL.2.1
  clear h hL hN hN2 hn
  go_enter Try.func20, Try.ntmps20
  go_wp2_with fail
  go_loopg [7] l.length (fun gg s7 wr => ∃ (kk : Nat) (D : Dr) (A0 A1 A2 A3 A4 : Option Addr) (c0 c1 c2 c3 c4 : Nat) (o : Nat → Nat), kk ≤ l.length ∧ l.length - kk ≤ gg ∧ s7 = .int .i64 kk ∧ Aside0 (Below w.heap.size w wr) ∧ Aside0 (wr.heap[w.heap.size]? = some (.cells #[.slice A0 D.code.length c0, .slice A1 D.origs.length c1, .slice A2 D.dests.length c2, .slice A3 D.loops.length c3, .slice A4 D.cases.length c4] 26)) ∧ Aside0 (wr.heap[w.heap.size + 1]? = some (.cells #[.slice none 0 0, .slice none 0 0, .slice none 0 0, .slice none 0 0, .slice none 0 0] 26)) ∧ Aside0 (C5 wr 0 (.slice A0 D.code.length c0) (.slice A1 D.origs.length c1) (.slice A2 D.dests.length c2) (.slice A3 D.loops.length c3) (.slice A4 D.cases.length c4) o D.code D.origs D.dests D.loops D.cases) ∧ Aside0 (Bnd D (N + kk)) ∧ Aside0 (buildP D (l.drop kk) kk = r))
  case atStart => exact ⟨0, D0, I0, I1, I2, I3, I4, i0, i1, i2, i3, i4, ow, Nat.zero_le _, by omega, rfl, HB, HG, HZ, H5, HN, HR⟩
  case round =>
    clear HB HG HZ H5 HN HR
    obtain ⟨kk, D, A0, A1, A2, A3, A4, c0, c1, c2, c3, c4, o, hkk, hg, rfl, HB0, HG0, HZ0, H50, HN, HR⟩ := hrel
    by_cases hlt : kk < l.length
    · have hltz : (kk : Int) < (l.length : Int) := by omega
      have p2 : (0 ≤ (kk : Int)) = True := eq_true (by omega)
      have p3 : ((kk : Int) < (l.length : Int)) = True := eq_true hltz
      obtain ⟨ad, e, g0, g1, g2⟩ := at_T48 HL.out (kk : Int) (by omega) hltz
      cases e
      rw [Int.toNat_natCast] at g0 g1 g2
      have hrd : rd_T48 l (kk : Int) = l[kk]'hlt := by simp [rd_T48, List.getD_eq_getElem?_getD, hlt]
      rw [hrd] at g0 g1 g2
      have HX : Aside0 (l.drop kk = l[kk]'hlt :: l.drop (kk + 1)) := ⟨List.drop_eq_getElem_cons hlt⟩
      have hxn := Hn.out _ (List.getElem_mem hlt)
      clear hrd
      generalize l[kk]'hlt = x at g0 g1 g2 HX hxn
      have HXn := Aside0.mk hxn
      have HQ : Aside0 (∀ W, Below w.heap.size w W → W.cell? (ad.add (kk * 3)) = some (.int .i64 x.f0) ∧ W.cell? ⟨(ad.add (kk * 3)).block, (ad.add (kk * 3)).off + 1, none⟩ = some (.int .i64 x.f1.f0) ∧ W.cell? ⟨(ad.add (kk * 3)).block, (ad.add (kk * 3)).off + 2, none⟩ = some (.int .u32 x.f1.f1)) := ⟨fun W hb => ⟨(hb.cell (World.block_lt_of_cell? w _ g0)).trans g0, (hb.cell (World.block_lt_of_cell? w _ g1)).trans g1, (hb.cell (World.block_lt_of_cell? w _ g2)).trans g2⟩⟩
      clear g0 g1 g2 hxn
      have HNN : Aside0 (N + kk ≤ 1099511627776) := ⟨by have := HN2.out; omega⟩
      obtain ⟨⟨E, c⟩, hE⟩ : ∃ p, outP (actR D x.f0) = p := ⟨_, rfl⟩
      have HE := Aside0.mk hE
      clear hE
      skip
      by_cases ha : x.f0 = 0
      · have ha1 : (x.f0 == 0) = true := by simpa using ha
        obtain ⟨⟨M, m⟩, hM⟩ : ∃ p, outP (putR D x.f1.f0 x.f1.f1) = p := ⟨_, rfl⟩
        have HM := Aside0.mk hM
        have HO := Aside0.mk (out_split (d := D) (fun k hk => stepP_err (x := x) (d := D) (by unfold stepP; rw [if_pos ha]; exact hk)) hM)
        have HS := Aside0.mk (show stepP D x = putR D x.f1.f0 x.f1.f1 by unfold stepP; rw [if_pos ha])
        clear hM ha
        have HB := HB0.out
        have HG := HG0.out
        have HZ := HZ0.out
        have H5 := H50.out
        have hS : wr.cell? ⟨w.heap.size, 0, none⟩ = some (.slice A0 D.code.length c0) ∧ wr.cell? ⟨w.heap.size, 1, none⟩ = some (.slice A1 D.origs.length c1) ∧ wr.cell? ⟨w.heap.size, 2, none⟩ = some (.slice A2 D.dests.length c2) ∧ wr.cell? ⟨w.heap.size, 3, none⟩ = some (.slice A3 D.loops.length c3) ∧ wr.cell? ⟨w.heap.size, 4, none⟩ = some (.slice A4 D.cases.length c4) ∧ wr.cell? (ad.add (kk * 3)) = some (.int .i64 x.f0) := ⟨(blk_cell HG 0).trans rfl, (blk_cell HG 1).trans rfl, (blk_cell HG 2).trans rfl, (blk_cell HG 3).trans rfl, (blk_cell HG 4).trans rfl, (HQ.out wr HB).1⟩
        clear HB0 HG0 HZ0 H50
        go_wp2_with fail
        refine start_ (n := 13) (S := fun w' => w'.cell? ⟨w.heap.size, 0, none⟩ = some (.slice A0 D.code.length c0) ∧ w'.cell? ⟨w.heap.size, 1, none⟩ = some (.slice A1 D.origs.length c1) ∧ w'.cell? ⟨w.heap.size, 2, none⟩ = some (.slice A2 D.dests.length c2) ∧ w'.cell? ⟨w.heap.size, 3, none⟩ = some (.slice A3 D.loops.length c3) ∧ w'.cell? ⟨w.heap.size, 4, none⟩ = some (.slice A4 D.cases.length c4) ∧ w'.cell? (ad.add (kk * 3)) = some (.int .i64 x.f0)) (ds := [11]) (bz_ 13 0) (by kernel_rfl) rfl rfl (hS) (fun hHeld => ?_)
        refine with_tab (rfl : rtab .any (opsOf Try.f20 4) = rtab .any (opsOf Try.f20 4)) (fun HT_ => ?_)
        replace HB := below_drew HB
        replace HG := blk_drew HG
        replace HZ := blk_drew HZ
        replace H5 := H5.below (below_drew (Below.refl _ _))
        clear hS
        generalize wr.drew = wa at HB HG HZ H5 hHeld ⊢
        apply pu_ 1 (some 18) (bz_ 13 2) HT_ rfl rfl (by kernel_rfl) (fun _ _ _ h => h) (by rfl)
        · intro _; go_simp; with_reducible rfl
        · go_simp; rfl
        apply pu_ 2 (some 19) (bz_ 13 6) HT_ rfl rfl (by kernel_rfl) (fun _ _ _ h => h) (by rfl)
        · intro _; go_simp; with_reducible rfl
        · go_simp; rfl
        apply pu_ 3 (some 20) (bz_ 13 14) HT_ rfl rfl (by kernel_rfl) (fun _ _ _ h => h) (by rfl)
        · intro _; go_simp; with_reducible rfl
        · go_simp; rfl
        apply pu_ 4 (some 21) (bz_ 13 30) HT_ rfl rfl (by kernel_rfl) (fun _ _ _ h => h) (by rfl)
        · intro _; go_simp; with_reducible rfl
        · go_simp; rfl
        apply tk_ 0 (some 17) (bz_ 13 31) HT_ hHeld rfl rfl (by kernel_rfl) (fun _ _ _ h => h) (by rfl)
        · intro _ hS; go_split_ands; go_simp; with_reducible rfl
        · go_simp; rfl
        apply tk_ 5 (some 22) (bz_ 13 63) HT_ hHeld rfl rfl (by kernel_rfl) (fun _ _ _ h => h) (by rfl)
        · intro _ hS; go_split_ands; go_simp; with_reducible rfl
        · go_simp; rfl
        refine two_ (i := 6) (j := 10) (Ni := some 23) (Nj := some 8) (bz_ 13 127) (bz_ 13 1087) rfl rfl rfl rfl (two_of HT_.out (by kernel_rfl)) (by decide) (by decide) (fun K hK => ?_) (fun K hK => ?_)
        · refine goes_ Try.func10 (by kernel_rfl) rfl #[drV A0 A1 A2 A3 A4 c0 c1 c2 c3 c4 D.code.length D.origs.length D.dests.length D.loops.length D.cases.length, .int .i64 x.f0] (by rfl) rfl rfl (by simp only [List.map_toArray, List.map_cons, List.map_nil]; rfl) ?_
          with_reducible refine (actU H5 HN.out HNN.out HE.out).mono ?_
          rintro e w1 ⟨hb1, B0, B1, B2, B3, B4, b0, b1, b2, b3, b4, oe, rfl, hE5⟩
          refine ⟨_, rfl, ?_⟩
          replace HB := below_step HB hb1
          replace HG := blk_below HG hb1
          replace HZ := blk_below HZ hb1
          replace H5 := H5.below hb1
          clear hb1
          have hS : w1.cell? ⟨w.heap.size, 0, none⟩ = some (.slice A0 D.code.length c0) ∧ w1.cell? ⟨w.heap.size, 1, none⟩ = some (.slice A1 D.origs.length c1) ∧ w1.cell? ⟨w.heap.size, 2, none⟩ = some (.slice A2 D.dests.length c2) ∧ w1.cell? ⟨w.heap.size, 3, none⟩ = some (.slice A3 D.loops.length c3) ∧ w1.cell? ⟨w.heap.size, 4, none⟩ = some (.slice A4 D.cases.length c4) ∧ w1.cell? (ad.add (kk * 3)) = some (.int .i64 x.f0) := ⟨(blk_cell HG 0).trans rfl, (blk_cell HG 1).trans rfl, (blk_cell HG 2).trans rfl, (blk_cell HG 3).trans rfl, (blk_cell HG 4).trans rfl, (HQ.out w1 HB).1⟩
          refine hK.out _ _ (hS) (fun hHeld => ?_)
          clear hK K
          refine norm_ (a' := ?_) ?_ ?_
          rotate_left
          · show Act.put _ (some 23) _ = _
            simp only [Act.put, List.setIfInBounds_toArray, List.set_cons_zero, List.set_cons_succ, i64_w, i32_w]
            rfl
          apply pu_ 7 (some 16) (bz_ 13 255) HT_ rfl rfl (by kernel_rfl) (fun _ _ _ h => h) (by rfl)
          · intro _; go_simp; with_reducible rfl
          · go_simp; rfl
          apply pu_ 8 (some 24) (bz_ 13 511) HT_ rfl rfl (by kernel_rfl) (fun _ _ _ h => h) (by rfl)
          · intro _; go_simp; with_reducible rfl
          · go_simp; rfl
          apply pu_ 9 (some 25) (bz_ 13 1023) HT_ rfl rfl (by kernel_rfl) (fun _ _ _ h => h) (by rfl)
          · intro _; go_simp; with_reducible rfl
          · go_simp; rfl
          refine one_ (i := 10) (N := some 8) (bz_ 13 2047) rfl rfl (one_of HT_.out (by kernel_rfl)) (by decide) (fun K hK => ?_)
          refine value_ (w1 := ?_) (v := ?_) (by rfl) rfl ?_ ?_
          rotate_left 2
          · go_simp
            constructor
            · rfl
            · rfl
          have hal := below_alloc (Below.refl w1.heap.size w1) (.cells #[.slice none 0 0, .slice none 0 0, .slice none 0 0, .slice none 0 0, .slice none 0 0] 26)
          have HXB := blk_new w1 (.cells #[.slice none 0 0, .slice none 0 0, .slice none 0 0, .slice none 0 0, .slice none 0 0] 26)
          have hxb : w.heap.size ≤ w1.heap.size := HB.size
          have hne : w.heap.size ≠ w1.heap.size := Nat.ne_of_lt (blk_lt HG)
          have hne2 : w.heap.size + 1 ≠ w1.heap.size := Nat.ne_of_lt (blk_lt HZ)
          replace HB := below_step HB hal
          replace HG := blk_below HG hal
          replace HZ := blk_below HZ hal
          replace H5 := H5.below hal
          replace hE5 := hE5.below hal
          clear hal
          generalize w1.alloc (.cells #[.slice none 0 0, .slice none 0 0, .slice none 0 0, .slice none 0 0, .slice none 0 0] 26) = wb at HB HG HZ H5 HXB hE5 ⊢
          generalize w1.heap.size = xb at HXB hxb hne hne2 ⊢
          have hS : wb.cell? ⟨w.heap.size, 0, none⟩ = some (.slice A0 D.code.length c0) ∧ wb.cell? ⟨w.heap.size, 1, none⟩ = some (.slice A1 D.origs.length c1) ∧ wb.cell? ⟨w.heap.size, 2, none⟩ = some (.slice A2 D.dests.length c2) ∧ wb.cell? ⟨w.heap.size, 3, none⟩ = some (.slice A3 D.loops.length c3) ∧ wb.cell? ⟨w.heap.size, 4, none⟩ = some (.slice A4 D.cases.length c4) ∧ wb.cell? (ad.add (kk * 3)) = some (.int .i64 x.f0) := ⟨(blk_cell HG 0).trans rfl, (blk_cell HG 1).trans rfl, (blk_cell HG 2).trans rfl, (blk_cell HG 3).trans rfl, (blk_cell HG 4).trans rfl, (HQ.out wb HB).1⟩
          obtain ⟨q0, q1, q2, q3, q4⟩ := frozen5 HXB
          obtain ⟨z0, z1, z2, z3, z4⟩ := cells5 HXB
          refine hK.out _ _ (hS) (fun hHeld => ?_)
          clear hK K
          refine norm_ (a' := ?_) ?_ ?_
          rotate_left
          · show Act.put _ (some 8) _ = _
            simp only [Act.put, List.setIfInBounds_toArray, List.set_cons_zero, List.set_cons_succ, i64_w, i32_w]
            rfl
          refine last_ (i := 11) (N := none) (bz_ 13 4095) rfl rfl (one_of HT_.out (by kernel_rfl)) (by decide) (fun K hK => ?_)
          go_simp
          refine hK.out _ _ ?_
          clear hK K
          apply pu_ 12 (some 9) (bz_ 13 8191) HT_ rfl rfl (by kernel_rfl) (fun _ _ _ h => h) (by rfl)
          · intro _; go_simp; with_reducible rfl
          · go_simp; rfl
          refine done_ (done_of HT_.out (by kernel_rfl)) ?_
          clear HT_ hHeld hS q0 q1 q2 q3 q4 z0 z1 z2 z3 z4
          replace HB := below_put5 HB hxb (.slice B0 E.code.length b0) (.slice B1 E.origs.length b1) (.slice B2 E.dests.length b2) (.slice B3 E.loops.length b3) (.slice B4 E.cases.length b4)
          replace HG := blk_far5 HG hne (.slice B0 E.code.length b0) (.slice B1 E.origs.length b1) (.slice B2 E.dests.length b2) (.slice B3 E.loops.length b3) (.slice B4 E.cases.length b4)
          replace HZ := blk_far5 HZ hne2 (.slice B0 E.code.length b0) (.slice B1 E.origs.length b1) (.slice B2 E.dests.length b2) (.slice B3 E.loops.length b3) (.slice B4 E.cases.length b4)
          replace H5 := H5.put5 HXB (.slice B0 E.code.length b0) (.slice B1 E.origs.length b1) (.slice B2 E.dests.length b2) (.slice B3 E.loops.length b3) (.slice B4 E.cases.length b4)
          replace hE5 := hE5.put5 HXB (.slice B0 E.code.length b0) (.slice B1 E.origs.length b1) (.slice B2 E.dests.length b2) (.slice B3 E.loops.length b3) (.slice B4 E.cases.length b4)
          replace HXB := blk_put5 HXB (.slice B0 E.code.length b0) (.slice B1 E.origs.length b1) (.slice B2 E.dests.length b2) (.slice B3 E.loops.length b3) (.slice B4 E.cases.length b4)
          simp only [put5] at HB HG HZ H5 hE5 HXB
          generalize ((((wb.setCell ⟨xb, 0, none⟩ (.slice B0 E.code.length b0)).setCell ⟨xb, 1, none⟩ (.slice B1 E.origs.length b1)).setCell ⟨xb, 2, none⟩ (.slice B2 E.dests.length b2)).setCell ⟨xb, 3, none⟩ (.slice B3 E.loops.length b3)).setCell ⟨xb, 4, none⟩ (.slice B4 E.cases.length b4) = w5 at HB HG HZ H5 hE5 HXB ⊢
          have d0 := (HQ.out w5 HB).1
          have HB_ := Aside0.mk HB
          have HG_ := Aside0.mk HG
          have HZ_ := Aside0.mk HZ
          have H5_ := Aside0.mk H5
          have HE_ := Aside0.mk hE5
          have HX_ := Aside0.mk HXB
          clear HB HG HZ H5 hE5 HXB
          go_wp2_with fail
          have HB := HB_.out
          have HG := HG_.out
          have HZ := HZ_.out
          have H5 := H5_.out
          have HXB := HX_.out
          clear HB_ HG_ HZ_ H5_ HE_ HX_ d0
          have hS : w5.cell? ⟨w.heap.size, 0, none⟩ = some (.slice A0 D.code.length c0) ∧ w5.cell? ⟨w.heap.size, 1, none⟩ = some (.slice A1 D.origs.length c1) ∧ w5.cell? ⟨w.heap.size, 2, none⟩ = some (.slice A2 D.dests.length c2) ∧ w5.cell? ⟨w.heap.size, 3, none⟩ = some (.slice A3 D.loops.length c3) ∧ w5.cell? ⟨w.heap.size, 4, none⟩ = some (.slice A4 D.cases.length c4) ∧ w5.cell? ⟨(ad.add (kk * 3)).block, (ad.add (kk * 3)).off + 1, none⟩ = some (.int .i64 x.f1.f0) ∧ w5.cell? ⟨(ad.add (kk * 3)).block, (ad.add (kk * 3)).off + 2, none⟩ = some (.int .u32 x.f1.f1) := ⟨(blk_cell HG 0).trans rfl, (blk_cell HG 1).trans rfl, (blk_cell HG 2).trans rfl, (blk_cell HG 3).trans rfl, (blk_cell HG 4).trans rfl, (HQ.out w5 HB).2.1, (HQ.out w5 HB).2.2⟩
          refine start_ (n := 12) (S := fun w' => w'.cell? ⟨w.heap.size, 0, none⟩ = some (.slice A0 D.code.length c0) ∧ w'.cell? ⟨w.heap.size, 1, none⟩ = some (.slice A1 D.origs.length c1) ∧ w'.cell? ⟨w.heap.size, 2, none⟩ = some (.slice A2 D.dests.length c2) ∧ w'.cell? ⟨w.heap.size, 3, none⟩ = some (.slice A3 D.loops.length c3) ∧ w'.cell? ⟨w.heap.size, 4, none⟩ = some (.slice A4 D.cases.length c4) ∧ w'.cell? ⟨(ad.add (kk * 3)).block, (ad.add (kk * 3)).off + 1, none⟩ = some (.int .i64 x.f1.f0) ∧ w'.cell? ⟨(ad.add (kk * 3)).block, (ad.add (kk * 3)).off + 2, none⟩ = some (.int .u32 x.f1.f1)) (ds := [10]) (bz_ 12 0) (by kernel_rfl) rfl rfl (hS) (fun hHeld => ?_)
          refine with_tab (rfl : rtab .any (opsOf Try.f20 6) = rtab .any (opsOf Try.f20 6)) (fun HT_ => ?_)
          replace HB := below_drew HB
          replace HG := blk_drew HG
          replace HZ := blk_drew HZ
          replace H5 := H5.below (below_drew (Below.refl _ _))
          replace HXB := blk_drew HXB
          clear hS
          generalize w5.drew = wc at HB HG HZ H5 HXB hHeld ⊢
          apply pu_ 1 (some 34) (bz_ 12 2) HT_ rfl rfl (by kernel_rfl) (fun _ _ _ h => h) (by rfl)
          · intro _; go_simp; with_reducible rfl
          · go_simp; rfl
          apply pu_ 2 (some 35) (bz_ 12 6) HT_ rfl rfl (by kernel_rfl) (fun _ _ _ h => h) (by rfl)
          · intro _; go_simp; with_reducible rfl
          · go_simp; rfl
          apply pu_ 3 (some 36) (bz_ 12 14) HT_ rfl rfl (by kernel_rfl) (fun _ _ _ h => h) (by rfl)
          · intro _; go_simp; with_reducible rfl
          · go_simp; rfl
          apply pu_ 4 (some 37) (bz_ 12 30) HT_ rfl rfl (by kernel_rfl) (fun _ _ _ h => h) (by rfl)
          · intro _; go_simp; with_reducible rfl
          · go_simp; rfl
          apply tk_ 0 (some 33) (bz_ 12 31) HT_ hHeld rfl rfl (by kernel_rfl) (fun _ _ _ h => h) (by rfl)
          · intro _ hS; go_split_ands; go_simp; with_reducible rfl
          · go_simp; rfl
          apply tk_ 5 (some 38) (bz_ 12 63) HT_ hHeld rfl rfl (by kernel_rfl) (fun _ _ _ h => h) (by rfl)
          · intro _ hS; go_split_ands; go_simp; with_reducible rfl
          · go_simp; rfl
          refine one_ (i := 6) (N := some 39) (bz_ 12 127) rfl rfl (one_of HT_.out (by kernel_rfl)) (by decide) (fun K hK => ?_)
          refine goes_ Try.func15 (by kernel_rfl) rfl #[drV A0 A1 A2 A3 A4 c0 c1 c2 c3 c4 D.code.length D.origs.length D.dests.length D.loops.length D.cases.length, .agg #[.int .i64 x.f1.f0, .int .u32 x.f1.f1]] (by rfl) rfl rfl (by simp only [List.map_toArray, List.map_cons, List.map_nil]; rfl) ?_
          with_reducible refine (putU H5 HN.out HNN.out HXn.out HM.out).mono ?_
          rintro e w6 ⟨hb1, F0, F1, F2, F3, F4, s0, s1, s2, s3, s4, oe2, rfl, hE5⟩
          refine ⟨_, rfl, ?_⟩
          replace HXB := blk_below HXB hb1
          replace HB := below_step HB hb1
          replace HG := blk_below HG hb1
          replace HZ := blk_below HZ hb1
          replace H5 := H5.below hb1
          clear hb1
          have hS : w6.cell? ⟨w.heap.size, 0, none⟩ = some (.slice A0 D.code.length c0) ∧ w6.cell? ⟨w.heap.size, 1, none⟩ = some (.slice A1 D.origs.length c1) ∧ w6.cell? ⟨w.heap.size, 2, none⟩ = some (.slice A2 D.dests.length c2) ∧ w6.cell? ⟨w.heap.size, 3, none⟩ = some (.slice A3 D.loops.length c3) ∧ w6.cell? ⟨w.heap.size, 4, none⟩ = some (.slice A4 D.cases.length c4) ∧ w6.cell? ⟨(ad.add (kk * 3)).block, (ad.add (kk * 3)).off + 1, none⟩ = some (.int .i64 x.f1.f0) ∧ w6.cell? ⟨(ad.add (kk * 3)).block, (ad.add (kk * 3)).off + 2, none⟩ = some (.int .u32 x.f1.f1) := ⟨(blk_cell HG 0).trans rfl, (blk_cell HG 1).trans rfl, (blk_cell HG 2).trans rfl, (blk_cell HG 3).trans rfl, (blk_cell HG 4).trans rfl, (HQ.out w6 HB).2.1, (HQ.out w6 HB).2.2⟩
          obtain ⟨q0, q1, q2, q3, q4⟩ := frozen5 HXB
          obtain ⟨z0, z1, z2, z3, z4⟩ := cells5 HXB
          refine hK.out _ _ (hS) (fun hHeld => ?_)
          clear hK K
          refine norm_ (a' := ?_) ?_ ?_
          rotate_left
          · show Act.put _ (some 39) _ = _
            simp only [Act.put, List.setIfInBounds_toArray, List.set_cons_zero, List.set_cons_succ, i64_w, i32_w]
            rfl
          apply pu_ 7 (some 32) (bz_ 12 255) HT_ rfl rfl (by kernel_rfl) (fun _ _ _ h => h) (by rfl)
          · intro _; go_simp; with_reducible rfl
          · go_simp; rfl
          apply pu_ 8 (some 40) (bz_ 12 511) HT_ rfl rfl (by kernel_rfl) (fun _ _ _ h => h) (by rfl)
          · intro _; go_simp; with_reducible rfl
          · go_simp; rfl
          apply pu_ 9 (some 41) (bz_ 12 1023) HT_ rfl rfl (by kernel_rfl) (fun _ _ _ h => h) (by rfl)
          · intro _; go_simp; with_reducible rfl
          · go_simp; rfl
          refine last_ (i := 10) (N := none) (bz_ 12 2047) rfl rfl (one_of HT_.out (by kernel_rfl)) (by decide) (fun K hK => ?_)
          go_simp
          refine hK.out _ _ ?_
          clear hK K
          apply pu_ 11 (some 9) (bz_ 12 4095) HT_ rfl rfl (by kernel_rfl) (fun _ _ _ h => h) (by rfl)
          · intro _; go_simp; with_reducible rfl
          · go_simp; rfl
          refine done_ (done_of HT_.out (by kernel_rfl)) ?_
          clear HT_ hHeld hS q0 q1 q2 q3 q4 z0 z1 z2 z3 z4
          replace HB := below_put5 HB hxb (.slice F0 M.code.length s0) (.slice F1 M.origs.length s1) (.slice F2 M.dests.length s2) (.slice F3 M.loops.length s3) (.slice F4 M.cases.length s4)
          replace HG := blk_far5 HG hne (.slice F0 M.code.length s0) (.slice F1 M.origs.length s1) (.slice F2 M.dests.length s2) (.slice F3 M.loops.length s3) (.slice F4 M.cases.length s4)
          replace HZ := blk_far5 HZ hne2 (.slice F0 M.code.length s0) (.slice F1 M.origs.length s1) (.slice F2 M.dests.length s2) (.slice F3 M.loops.length s3) (.slice F4 M.cases.length s4)
          replace H5 := H5.put5 HXB (.slice F0 M.code.length s0) (.slice F1 M.origs.length s1) (.slice F2 M.dests.length s2) (.slice F3 M.loops.length s3) (.slice F4 M.cases.length s4)
          replace hE5 := hE5.put5 HXB (.slice F0 M.code.length s0) (.slice F1 M.origs.length s1) (.slice F2 M.dests.length s2) (.slice F3 M.loops.length s3) (.slice F4 M.cases.length s4)
          replace HXB := blk_put5 HXB (.slice F0 M.code.length s0) (.slice F1 M.origs.length s1) (.slice F2 M.dests.length s2) (.slice F3 M.loops.length s3) (.slice F4 M.cases.length s4)
          simp only [put5] at HB HG HZ H5 hE5 HXB
          generalize ((((w6.setCell ⟨xb, 0, none⟩ (.slice F0 M.code.length s0)).setCell ⟨xb, 1, none⟩ (.slice F1 M.origs.length s1)).setCell ⟨xb, 2, none⟩ (.slice F2 M.dests.length s2)).setCell ⟨xb, 3, none⟩ (.slice F3 M.loops.length s3)).setCell ⟨xb, 4, none⟩ (.slice F4 M.cases.length s4) = w7 at HB HG HZ H5 hE5 HXB ⊢
          have HB_ := Aside0.mk HB
          have HG_ := Aside0.mk HG
          have HZ_ := Aside0.mk HZ
          have H5_ := Aside0.mk H5
          have HE_ := Aside0.mk hE5
          have HX_ := Aside0.mk HXB
          clear HB HG HZ H5 hE5 HXB
          rcases HO.out with ⟨hc, hs⟩ | ⟨hc, hs⟩
          · have HNX := Aside0.mk (HN.out.step (HS.out.trans hs))
            have HRX := Aside0.mk (show buildP M (l.drop (kk + 1)) (kk + 1) = r by have := HR.out; rw [HX.out, build_inl (HS.out.trans hs)] at this; exact this)
            subst hc
            clear hs HO HS HM HE
            obtain ⟨x0, x1, x2, x3, x4⟩ := cells5 HX_.out
            obtain ⟨k0, k1, k2, k3, k4⟩ := cells5 HG_.out
            obtain ⟨f0, f1, f2, f3, f4⟩ := frozen5 HG_.out
            have HBn := Aside0.mk (below_put5 HB_.out (Nat.le_refl w.heap.size) (.slice F0 M.code.length s0) (.slice F1 M.origs.length s1) (.slice F2 M.dests.length s2) (.slice F3 M.loops.length s3) (.slice F4 M.cases.length s4))
            have HGn := Aside0.mk (blk_put5 HG_.out (.slice F0 M.code.length s0) (.slice F1 M.origs.length s1) (.slice F2 M.dests.length s2) (.slice F3 M.loops.length s3) (.slice F4 M.cases.length s4))
            have HZn := Aside0.mk (blk_far5 (g := w.heap.size) HZ_.out (Nat.succ_ne_self _) (.slice F0 M.code.length s0) (.slice F1 M.origs.length s1) (.slice F2 M.dests.length s2) (.slice F3 M.loops.length s3) (.slice F4 M.cases.length s4))
            have HEn := Aside0.mk (HE_.out.put5 HG_.out (.slice F0 M.code.length s0) (.slice F1 M.origs.length s1) (.slice F2 M.dests.length s2) (.slice F3 M.loops.length s3) (.slice F4 M.cases.length s4))
            clear HB_ HG_ HZ_ H5_ HE_ HX_
            go_wp2_with fail
            go_roundg (l.length - (kk + 1))
            case measure => omega
            case rel => exact ⟨kk + 1, M, F0, F1, F2, F3, F4, s0, s1, s2, s3, s4, _, by omega, by omega, by go_num, HBn, HGn, HZn, HEn, HNX, HRX⟩
          · have HRX := Aside0.mk (show r = (D, kk, m) by have := HR.out; rw [HX.out, build_inr (HS.out.trans hs)] at this; exact this.symm)
            have hc1 : (m == 0) = false := by simpa using hc
            have hc2 : (m != 0) = true := by simpa using hc
            clear hc hs HO HS HE
            obtain ⟨k0, k1, k2, k3, k4⟩ := cells5 HG_.out
            obtain ⟨z0, z1, z2, z3, z4⟩ := cells5 HZ_.out
            obtain ⟨f0, f1, f2, f3, f4⟩ := frozen5 HZ_.out
            have HBn := Aside0.mk (below_put5 HB_.out (Nat.le_succ w.heap.size) (.slice A0 D.code.length c0) (.slice A1 D.origs.length c1) (.slice A2 D.dests.length c2) (.slice A3 D.loops.length c3) (.slice A4 D.cases.length c4))
            have HZn := Aside0.mk (blk_put5 HZ_.out (.slice A0 D.code.length c0) (.slice A1 D.origs.length c1) (.slice A2 D.dests.length c2) (.slice A3 D.loops.length c3) (.slice A4 D.cases.length c4))
            have H5n := Aside0.mk (H5_.out.put5 HZ_.out (.slice A0 D.code.length c0) (.slice A1 D.origs.length c1) (.slice A2 D.dests.length c2) (.slice A3 D.loops.length c3) (.slice A4 D.cases.length c4))
            clear HB_ HG_ HZ_ H5_ HE_ HX_
            go_wp2_with fail
            obtain ⟨y0, y1, y2, y3, y4⟩ := cells5 HZn.out
            refine bodyPost_ret (v := .tuple #[drV A0 A1 A2 A3 A4 c0 c1 c2 c3 c4 D.code.length D.origs.length D.dests.length D.loops.length D.cases.length, .int .i64 kk, .int .i64 m]) (by simp [results, Try.results20, go_sem, y0, y1, y2, y3, y4]) rfl ?_
            rw [HRX.out]
            exact ⟨HBn.out, _, _, _, _, _, _, _, _, _, _, _, rfl, H5n.out⟩
        · refine value_ (w1 := ?_) (v := ?_) (by rfl) rfl ?_ ?_
          rotate_left 2
          · go_simp
            constructor
            · rfl
            · rfl
          have hal := below_alloc (Below.refl wa.heap.size wa) (.cells #[.slice none 0 0, .slice none 0 0, .slice none 0 0, .slice none 0 0, .slice none 0 0] 26)
          have HXB := blk_new wa (.cells #[.slice none 0 0, .slice none 0 0, .slice none 0 0, .slice none 0 0, .slice none 0 0] 26)
          have hxb : w.heap.size ≤ wa.heap.size := HB.size
          have hne : w.heap.size ≠ wa.heap.size := Nat.ne_of_lt (blk_lt HG)
          have hne2 : w.heap.size + 1 ≠ wa.heap.size := Nat.ne_of_lt (blk_lt HZ)
          replace HB := below_step HB hal
          replace HG := blk_below HG hal
          replace HZ := blk_below HZ hal
          replace H5 := H5.below hal
          clear hal
          generalize wa.alloc (.cells #[.slice none 0 0, .slice none 0 0, .slice none 0 0, .slice none 0 0, .slice none 0 0] 26) = wb at HB HG HZ H5 HXB ⊢
          generalize wa.heap.size = xb at HXB hxb hne hne2 ⊢
          have hS : wb.cell? ⟨w.heap.size, 0, none⟩ = some (.slice A0 D.code.length c0) ∧ wb.cell? ⟨w.heap.size, 1, none⟩ = some (.slice A1 D.origs.length c1) ∧ wb.cell? ⟨w.heap.size, 2, none⟩ = some (.slice A2 D.dests.length c2) ∧ wb.cell? ⟨w.heap.size, 3, none⟩ = some (.slice A3 D.loops.length c3) ∧ wb.cell? ⟨w.heap.size, 4, none⟩ = some (.slice A4 D.cases.length c4) ∧ wb.cell? (ad.add (kk * 3)) = some (.int .i64 x.f0) := ⟨(blk_cell HG 0).trans rfl, (blk_cell HG 1).trans rfl, (blk_cell HG 2).trans rfl, (blk_cell HG 3).trans rfl, (blk_cell HG 4).trans rfl, (HQ.out wb HB).1⟩
          refine hK.out _ _ (hS) (fun hHeld => ?_)
          clear hK K
          refine norm_ (a' := ?_) ?_ ?_
          rotate_left
          · show Act.put _ (some 8) _ = _
            simp only [Act.put, List.setIfInBounds_toArray, List.set_cons_zero, List.set_cons_succ, i64_w, i32_w]
            rfl
          refine one_ (i := 6) (N := some 23) (bz_ 13 1151) rfl rfl (one_of HT_.out (by kernel_rfl)) (by decide) (fun K hK => ?_)
          refine goes_ Try.func10 (by kernel_rfl) rfl #[drV A0 A1 A2 A3 A4 c0 c1 c2 c3 c4 D.code.length D.origs.length D.dests.length D.loops.length D.cases.length, .int .i64 x.f0] (by rfl) rfl rfl (by simp only [List.map_toArray, List.map_cons, List.map_nil]; rfl) ?_
          with_reducible refine (actU H5 HN.out HNN.out HE.out).mono ?_
          rintro e w1 ⟨hb1, B0, B1, B2, B3, B4, b0, b1, b2, b3, b4, oe, rfl, hE5⟩
          refine ⟨_, rfl, ?_⟩
          replace HB := below_step HB hb1
          replace HG := blk_below HG hb1
          replace HZ := blk_below HZ hb1
          replace H5 := H5.below hb1
          replace HXB := blk_below HXB hb1
          replace hxb := hxb
          clear hb1
          have hS : w1.cell? ⟨w.heap.size, 0, none⟩ = some (.slice A0 D.code.length c0) ∧ w1.cell? ⟨w.heap.size, 1, none⟩ = some (.slice A1 D.origs.length c1) ∧ w1.cell? ⟨w.heap.size, 2, none⟩ = some (.slice A2 D.dests.length c2) ∧ w1.cell? ⟨w.heap.size, 3, none⟩ = some (.slice A3 D.loops.length c3) ∧ w1.cell? ⟨w.heap.size, 4, none⟩ = some (.slice A4 D.cases.length c4) ∧ w1.cell? (ad.add (kk * 3)) = some (.int .i64 x.f0) := ⟨(blk_cell HG 0).trans rfl, (blk_cell HG 1).trans rfl, (blk_cell HG 2).trans rfl, (blk_cell HG 3).trans rfl, (blk_cell HG 4).trans rfl, (HQ.out w1 HB).1⟩
          obtain ⟨q0, q1, q2, q3, q4⟩ := frozen5 HXB
          obtain ⟨z0, z1, z2, z3, z4⟩ := cells5 HXB
          refine hK.out _ _ (hS) (fun hHeld => ?_)
          clear hK K
          refine norm_ (a' := ?_) ?_ ?_
          rotate_left
          · show Act.put _ (some 23) _ = _
            simp only [Act.put, List.setIfInBounds_toArray, List.set_cons_zero, List.set_cons_succ, i64_w, i32_w]
            rfl
          apply pu_ 7 (some 16) (bz_ 13 1279) HT_ rfl rfl (by kernel_rfl) (fun _ _ _ h => h) (by rfl)
          · intro _; go_simp; with_reducible rfl
          · go_simp; rfl
          apply pu_ 8 (some 24) (bz_ 13 1535) HT_ rfl rfl (by kernel_rfl) (fun _ _ _ h => h) (by rfl)
          · intro _; go_simp; with_reducible rfl
          · go_simp; rfl
          apply pu_ 9 (some 25) (bz_ 13 2047) HT_ rfl rfl (by kernel_rfl) (fun _ _ _ h => h) (by rfl)
          · intro _; go_simp; with_reducible rfl
          · go_simp; rfl
          refine last_ (i := 11) (N := none) (bz_ 13 4095) rfl rfl (one_of HT_.out (by kernel_rfl)) (by decide) (fun K hK => ?_)
          go_simp
          refine hK.out _ _ ?_
          clear hK K
          apply pu_ 12 (some 9) (bz_ 13 8191) HT_ rfl rfl (by kernel_rfl) (fun _ _ _ h => h) (by rfl)
          · intro _; go_simp; with_reducible rfl
          · go_simp; rfl
          refine done_ (done_of HT_.out (by kernel_rfl)) ?_
          clear HT_ hHeld hS q0 q1 q2 q3 q4 z0 z1 z2 z3 z4
          replace HB := below_put5 HB hxb (.slice B0 E.code.length b0) (.slice B1 E.origs.length b1) (.slice B2 E.dests.length b2) (.slice B3 E.loops.length b3) (.slice B4 E.cases.length b4)
          replace HG := blk_far5 HG hne (.slice B0 E.code.length b0) (.slice B1 E.origs.length b1) (.slice B2 E.dests.length b2) (.slice B3 E.loops.length b3) (.slice B4 E.cases.length b4)
          replace HZ := blk_far5 HZ hne2 (.slice B0 E.code.length b0) (.slice B1 E.origs.length b1) (.slice B2 E.dests.length b2) (.slice B3 E.loops.length b3) (.slice B4 E.cases.length b4)
          replace H5 := H5.put5 HXB (.slice B0 E.code.length b0) (.slice B1 E.origs.length b1) (.slice B2 E.dests.length b2) (.slice B3 E.loops.length b3) (.slice B4 E.cases.length b4)
          replace hE5 := hE5.put5 HXB (.slice B0 E.code.length b0) (.slice B1 E.origs.length b1) (.slice B2 E.dests.length b2) (.slice B3 E.loops.length b3) (.slice B4 E.cases.length b4)
          replace HXB := blk_put5 HXB (.slice B0 E.code.length b0) (.slice B1 E.origs.length b1) (.slice B2 E.dests.length b2) (.slice B3 E.loops.length b3) (.slice B4 E.cases.length b4)
          simp only [put5] at HB HG HZ H5 hE5 HXB
          generalize ((((w1.setCell ⟨xb, 0, none⟩ (.slice B0 E.code.length b0)).setCell ⟨xb, 1, none⟩ (.slice B1 E.origs.length b1)).setCell ⟨xb, 2, none⟩ (.slice B2 E.dests.length b2)).setCell ⟨xb, 3, none⟩ (.slice B3 E.loops.length b3)).setCell ⟨xb, 4, none⟩ (.slice B4 E.cases.length b4) = w5 at HB HG HZ H5 hE5 HXB ⊢
          have d0 := (HQ.out w5 HB).1
          have HB_ := Aside0.mk HB
          have HG_ := Aside0.mk HG
          have HZ_ := Aside0.mk HZ
          have H5_ := Aside0.mk H5
          have HE_ := Aside0.mk hE5
          have HX_ := Aside0.mk HXB
          clear HB HG HZ H5 hE5 HXB
          go_wp2_with fail
          have HB := HB_.out
          have HG := HG_.out
          have HZ := HZ_.out
          have H5 := H5_.out
          have HXB := HX_.out
          clear HB_ HG_ HZ_ H5_ HE_ HX_ d0
          have hS : w5.cell? ⟨w.heap.size, 0, none⟩ = some (.slice A0 D.code.length c0) ∧ w5.cell? ⟨w.heap.size, 1, none⟩ = some (.slice A1 D.origs.length c1) ∧ w5.cell? ⟨w.heap.size, 2, none⟩ = some (.slice A2 D.dests.length c2) ∧ w5.cell? ⟨w.heap.size, 3, none⟩ = some (.slice A3 D.loops.length c3) ∧ w5.cell? ⟨w.heap.size, 4, none⟩ = some (.slice A4 D.cases.length c4) ∧ w5.cell? ⟨(ad.add (kk * 3)).block, (ad.add (kk * 3)).off + 1, none⟩ = some (.int .i64 x.f1.f0) ∧ w5.cell? ⟨(ad.add (kk * 3)).block, (ad.add (kk * 3)).off + 2, none⟩ = some (.int .u32 x.f1.f1) := ⟨(blk_cell HG 0).trans rfl, (blk_cell HG 1).trans rfl, (blk_cell HG 2).trans rfl, (blk_cell HG 3).trans rfl, (blk_cell HG 4).trans rfl, (HQ.out w5 HB).2.1, (HQ.out w5 HB).2.2⟩
          refine start_ (n := 12) (S := fun w' => w'.cell? ⟨w.heap.size, 0, none⟩ = some (.slice A0 D.code.length c0) ∧ w'.cell? ⟨w.heap.size, 1, none⟩ = some (.slice A1 D.origs.length c1) ∧ w'.cell? ⟨w.heap.size, 2, none⟩ = some (.slice A2 D.dests.length c2) ∧ w'.cell? ⟨w.heap.size, 3, none⟩ = some (.slice A3 D.loops.length c3) ∧ w'.cell? ⟨w.heap.size, 4, none⟩ = some (.slice A4 D.cases.length c4) ∧ w'.cell? ⟨(ad.add (kk * 3)).block, (ad.add (kk * 3)).off + 1, none⟩ = some (.int .i64 x.f1.f0) ∧ w'.cell? ⟨(ad.add (kk * 3)).block, (ad.add (kk * 3)).off + 2, none⟩ = some (.int .u32 x.f1.f1)) (ds := [10]) (bz_ 12 0) (by kernel_rfl) rfl rfl (hS) (fun hHeld => ?_)
          refine with_tab (rfl : rtab .any (opsOf Try.f20 6) = rtab .any (opsOf Try.f20 6)) (fun HT_ => ?_)
          replace HB := below_drew HB
          replace HG := blk_drew HG
          replace HZ := blk_drew HZ
          replace H5 := H5.below (below_drew (Below.refl _ _))
          replace HXB := blk_drew HXB
          clear hS
          generalize w5.drew = wc at HB HG HZ H5 HXB hHeld ⊢
          apply pu_ 1 (some 34) (bz_ 12 2) HT_ rfl rfl (by kernel_rfl) (fun _ _ _ h => h) (by rfl)
          · intro _; go_simp; with_reducible rfl
          · go_simp; rfl
          apply pu_ 2 (some 35) (bz_ 12 6) HT_ rfl rfl (by kernel_rfl) (fun _ _ _ h => h) (by rfl)
          · intro _; go_simp; with_reducible rfl
          · go_simp; rfl
          apply pu_ 3 (some 36) (bz_ 12 14) HT_ rfl rfl (by kernel_rfl) (fun _ _ _ h => h) (by rfl)
          · intro _; go_simp; with_reducible rfl
          · go_simp; rfl
          apply pu_ 4 (some 37) (bz_ 12 30) HT_ rfl rfl (by kernel_rfl) (fun _ _ _ h => h) (by rfl)
          · intro _; go_simp; with_reducible rfl
          · go_simp; rfl
          apply tk_ 0 (some 33) (bz_ 12 31) HT_ hHeld rfl rfl (by kernel_rfl) (fun _ _ _ h => h) (by rfl)
          · intro _ hS; go_split_ands; go_simp; with_reducible rfl
          · go_simp; rfl
          apply tk_ 5 (some 38) (bz_ 12 63) HT_ hHeld rfl rfl (by kernel_rfl) (fun _ _ _ h => h) (by rfl)
          · intro _ hS; go_split_ands; go_simp; with_reducible rfl
          · go_simp; rfl
          refine one_ (i := 6) (N := some 39) (bz_ 12 127) rfl rfl (one_of HT_.out (by kernel_rfl)) (by decide) (fun K hK => ?_)
          refine goes_ Try.func15 (by kernel_rfl) rfl #[drV A0 A1 A2 A3 A4 c0 c1 c2 c3 c4 D.code.length D.origs.length D.dests.length D.loops.length D.cases.length, .agg #[.int .i64 x.f1.f0, .int .u32 x.f1.f1]] (by rfl) rfl rfl (by simp only [List.map_toArray, List.map_cons, List.map_nil]; rfl) ?_
          with_reducible refine (putU H5 HN.out HNN.out HXn.out HM.out).mono ?_
          rintro e w6 ⟨hb1, F0, F1, F2, F3, F4, s0, s1, s2, s3, s4, oe2, rfl, hE5⟩
          refine ⟨_, rfl, ?_⟩
          replace HXB := blk_below HXB hb1
          replace HB := below_step HB hb1
          replace HG := blk_below HG hb1
          replace HZ := blk_below HZ hb1
          replace H5 := H5.below hb1
          clear hb1
          have hS : w6.cell? ⟨w.heap.size, 0, none⟩ = some (.slice A0 D.code.length c0) ∧ w6.cell? ⟨w.heap.size, 1, none⟩ = some (.slice A1 D.origs.length c1) ∧ w6.cell? ⟨w.heap.size, 2, none⟩ = some (.slice A2 D.dests.length c2) ∧ w6.cell? ⟨w.heap.size, 3, none⟩ = some (.slice A3 D.loops.length c3) ∧ w6.cell? ⟨w.heap.size, 4, none⟩ = some (.slice A4 D.cases.length c4) ∧ w6.cell? ⟨(ad.add (kk * 3)).block, (ad.add (kk * 3)).off + 1, none⟩ = some (.int .i64 x.f1.f0) ∧ w6.cell? ⟨(ad.add (kk * 3)).block, (ad.add (kk * 3)).off + 2, none⟩ = some (.int .u32 x.f1.f1) := ⟨(blk_cell HG 0).trans rfl, (blk_cell HG 1).trans rfl, (blk_cell HG 2).trans rfl, (blk_cell HG 3).trans rfl, (blk_cell HG 4).trans rfl, (HQ.out w6 HB).2.1, (HQ.out w6 HB).2.2⟩
          obtain ⟨q0, q1, q2, q3, q4⟩ := frozen5 HXB
          obtain ⟨z0, z1, z2, z3, z4⟩ := cells5 HXB
          refine hK.out _ _ (hS) (fun hHeld => ?_)
          clear hK K
          refine norm_ (a' := ?_) ?_ ?_
          rotate_left
          · show Act.put _ (some 39) _ = _
            simp only [Act.put, List.setIfInBounds_toArray, List.set_cons_zero, List.set_cons_succ, i64_w, i32_w]
            rfl
          apply pu_ 7 (some 32) (bz_ 12 255) HT_ rfl rfl (by kernel_rfl) (fun _ _ _ h => h) (by rfl)
          · intro _; go_simp; with_reducible rfl
          · go_simp; rfl
          apply pu_ 8 (some 40) (bz_ 12 511) HT_ rfl rfl (by kernel_rfl) (fun _ _ _ h => h) (by rfl)
          · intro _; go_simp; with_reducible rfl
          · go_simp; rfl
          apply pu_ 9 (some 41) (bz_ 12 1023) HT_ rfl rfl (by kernel_rfl) (fun _ _ _ h => h) (by rfl)
          · intro _; go_simp; with_reducible rfl
          · go_simp; rfl
          refine last_ (i := 10) (N := none) (bz_ 12 2047) rfl rfl (one_of HT_.out (by kernel_rfl)) (by decide) (fun K hK => ?_)
          go_simp
          refine hK.out _ _ ?_
          clear hK K
          apply pu_ 11 (some 9) (bz_ 12 4095) HT_ rfl rfl (by kernel_rfl) (fun _ _ _ h => h) (by rfl)
          · intro _; go_simp; with_reducible rfl
          · go_simp; rfl
          refine done_ (done_of HT_.out (by kernel_rfl)) ?_
          clear HT_ hHeld hS q0 q1 q2 q3 q4 z0 z1 z2 z3 z4
          replace HB := below_put5 HB hxb (.slice F0 M.code.length s0) (.slice F1 M.origs.length s1) (.slice F2 M.dests.length s2) (.slice F3 M.loops.length s3) (.slice F4 M.cases.length s4)
          replace HG := blk_far5 HG hne (.slice F0 M.code.length s0) (.slice F1 M.origs.length s1) (.slice F2 M.dests.length s2) (.slice F3 M.loops.length s3) (.slice F4 M.cases.length s4)
          replace HZ := blk_far5 HZ hne2 (.slice F0 M.code.length s0) (.slice F1 M.origs.length s1) (.slice F2 M.dests.length s2) (.slice F3 M.loops.length s3) (.slice F4 M.cases.length s4)
          replace H5 := H5.put5 HXB (.slice F0 M.code.length s0) (.slice F1 M.origs.length s1) (.slice F2 M.dests.length s2) (.slice F3 M.loops.length s3) (.slice F4 M.cases.length s4)
          replace hE5 := hE5.put5 HXB (.slice F0 M.code.length s0) (.slice F1 M.origs.length s1) (.slice F2 M.dests.length s2) (.slice F3 M.loops.length s3) (.slice F4 M.cases.length s4)
          replace HXB := blk_put5 HXB (.slice F0 M.code.length s0) (.slice F1 M.origs.length s1) (.slice F2 M.dests.length s2) (.slice F3 M.loops.length s3) (.slice F4 M.cases.length s4)
          simp only [put5] at HB HG HZ H5 hE5 HXB
          generalize ((((w6.setCell ⟨xb, 0, none⟩ (.slice F0 M.code.length s0)).setCell ⟨xb, 1, none⟩ (.slice F1 M.origs.length s1)).setCell ⟨xb, 2, none⟩ (.slice F2 M.dests.length s2)).setCell ⟨xb, 3, none⟩ (.slice F3 M.loops.length s3)).setCell ⟨xb, 4, none⟩ (.slice F4 M.cases.length s4) = w7 at HB HG HZ H5 hE5 HXB ⊢
          have HB_ := Aside0.mk HB
          have HG_ := Aside0.mk HG
          have HZ_ := Aside0.mk HZ
          have H5_ := Aside0.mk H5
          have HE_ := Aside0.mk hE5
          have HX_ := Aside0.mk HXB
          clear HB HG HZ H5 hE5 HXB
          rcases HO.out with ⟨hc, hs⟩ | ⟨hc, hs⟩
          · have HNX := Aside0.mk (HN.out.step (HS.out.trans hs))
            have HRX := Aside0.mk (show buildP M (l.drop (kk + 1)) (kk + 1) = r by have := HR.out; rw [HX.out, build_inl (HS.out.trans hs)] at this; exact this)
            subst hc
            clear hs HO HS HM HE
            obtain ⟨x0, x1, x2, x3, x4⟩ := cells5 HX_.out
            obtain ⟨k0, k1, k2, k3, k4⟩ := cells5 HG_.out
            obtain ⟨f0, f1, f2, f3, f4⟩ := frozen5 HG_.out
            have HBn := Aside0.mk (below_put5 HB_.out (Nat.le_refl w.heap.size) (.slice F0 M.code.length s0) (.slice F1 M.origs.length s1) (.slice F2 M.dests.length s2) (.slice F3 M.loops.length s3) (.slice F4 M.cases.length s4))
            have HGn := Aside0.mk (blk_put5 HG_.out (.slice F0 M.code.length s0) (.slice F1 M.origs.length s1) (.slice F2 M.dests.length s2) (.slice F3 M.loops.length s3) (.slice F4 M.cases.length s4))
            have HZn := Aside0.mk (blk_far5 (g := w.heap.size) HZ_.out (Nat.succ_ne_self _) (.slice F0 M.code.length s0) (.slice F1 M.origs.length s1) (.slice F2 M.dests.length s2) (.slice F3 M.loops.length s3) (.slice F4 M.cases.length s4))
            have HEn := Aside0.mk (HE_.out.put5 HG_.out (.slice F0 M.code.length s0) (.slice F1 M.origs.length s1) (.slice F2 M.dests.length s2) (.slice F3 M.loops.length s3) (.slice F4 M.cases.length s4))
            clear HB_ HG_ HZ_ H5_ HE_ HX_
            go_wp2_with fail
            go_roundg (l.length - (kk + 1))
            case measure => omega
            case rel => exact ⟨kk + 1, M, F0, F1, F2, F3, F4, s0, s1, s2, s3, s4, _, by omega, by omega, by go_num, HBn, HGn, HZn, HEn, HNX, HRX⟩
          · have HRX := Aside0.mk (show r = (D, kk, m) by have := HR.out; rw [HX.out, build_inr (HS.out.trans hs)] at this; exact this.symm)
            have hc1 : (m == 0) = false := by simpa using hc
            have hc2 : (m != 0) = true := by simpa using hc
            clear hc hs HO HS HE
            obtain ⟨k0, k1, k2, k3, k4⟩ := cells5 HG_.out
            obtain ⟨z0, z1, z2, z3, z4⟩ := cells5 HZ_.out
            obtain ⟨f0, f1, f2, f3, f4⟩ := frozen5 HZ_.out
            have HBn := Aside0.mk (below_put5 HB_.out (Nat.le_succ w.heap.size) (.slice A0 D.code.length c0) (.slice A1 D.origs.length c1) (.slice A2 D.dests.length c2) (.slice A3 D.loops.length c3) (.slice A4 D.cases.length c4))
            have HZn := Aside0.mk (blk_put5 HZ_.out (.slice A0 D.code.length c0) (.slice A1 D.origs.length c1) (.slice A2 D.dests.length c2) (.slice A3 D.loops.length c3) (.slice A4 D.cases.length c4))
            have H5n := Aside0.mk (H5_.out.put5 HZ_.out (.slice A0 D.code.length c0) (.slice A1 D.origs.length c1) (.slice A2 D.dests.length c2) (.slice A3 D.loops.length c3) (.slice A4 D.cases.length c4))
            clear HB_ HG_ HZ_ H5_ HE_ HX_
            go_wp2_with fail
            obtain ⟨y0, y1, y2, y3, y4⟩ := cells5 HZn.out
            refine bodyPost_ret (v := .tuple #[drV A0 A1 A2 A3 A4 c0 c1 c2 c3 c4 D.code.length D.origs.length D.dests.length D.loops.length D.cases.length, .int .i64 kk, .int .i64 m]) (by simp [results, Try.results20, go_sem, y0, y1, y2, y3, y4]) rfl ?_
            rw [HRX.out]
            exact ⟨HBn.out, _, _, _, _, _, _, _, _, _, _, _, rfl, H5n.out⟩
      · have ha1 : (x.f0 == 0) = false := by simpa using ha
        have HO := Aside0.mk (out_split (d := D) (fun k hk => stepP_err (x := x) (d := D) (by unfold stepP; rw [if_neg ha]; exact hk)) HE.out)
        have HS := Aside0.mk (show stepP D x = actR D x.f0 by unfold stepP; rw [if_neg ha])
        clear ha
        have HB := HB0.out
        have HG := HG0.out
        have HZ := HZ0.out
        have H5 := H50.out
        have hS : wr.cell? ⟨w.heap.size, 0, none⟩ = some (.slice A0 D.code.length c0) ∧ wr.cell? ⟨w.heap.size, 1, none⟩ = some (.slice A1 D.origs.length c1) ∧ wr.cell? ⟨w.heap.size, 2, none⟩ = some (.slice A2 D.dests.length c2) ∧ wr.cell? ⟨w.heap.size, 3, none⟩ = some (.slice A3 D.loops.length c3) ∧ wr.cell? ⟨w.heap.size, 4, none⟩ = some (.slice A4 D.cases.length c4) ∧ wr.cell? (ad.add (kk * 3)) = some (.int .i64 x.f0) := ⟨(blk_cell HG 0).trans rfl, (blk_cell HG 1).trans rfl, (blk_cell HG 2).trans rfl, (blk_cell HG 3).trans rfl, (blk_cell HG 4).trans rfl, (HQ.out wr HB).1⟩
        clear HB0 HG0 HZ0 H50
        go_wp2_with fail
        refine start_ (n := 13) (S := fun w' => w'.cell? ⟨w.heap.size, 0, none⟩ = some (.slice A0 D.code.length c0) ∧ w'.cell? ⟨w.heap.size, 1, none⟩ = some (.slice A1 D.origs.length c1) ∧ w'.cell? ⟨w.heap.size, 2, none⟩ = some (.slice A2 D.dests.length c2) ∧ w'.cell? ⟨w.heap.size, 3, none⟩ = some (.slice A3 D.loops.length c3) ∧ w'.cell? ⟨w.heap.size, 4, none⟩ = some (.slice A4 D.cases.length c4) ∧ w'.cell? (ad.add (kk * 3)) = some (.int .i64 x.f0)) (ds := [11]) (bz_ 13 0) (by kernel_rfl) rfl rfl (hS) (fun hHeld => ?_)
        refine with_tab (rfl : rtab .any (opsOf Try.f20 4) = rtab .any (opsOf Try.f20 4)) (fun HT_ => ?_)
        replace HB := below_drew HB
        replace HG := blk_drew HG
        replace HZ := blk_drew HZ
        replace H5 := H5.below (below_drew (Below.refl _ _))
        clear hS
        generalize wr.drew = wa at HB HG HZ H5 hHeld ⊢
        apply pu_ 1 (some 18) (bz_ 13 2) HT_ rfl rfl (by kernel_rfl) (fun _ _ _ h => h) (by rfl)
        · intro _; go_simp; with_reducible rfl
        · go_simp; rfl
        apply pu_ 2 (some 19) (bz_ 13 6) HT_ rfl rfl (by kernel_rfl) (fun _ _ _ h => h) (by rfl)
        · intro _; go_simp; with_reducible rfl
        · go_simp; rfl
        apply pu_ 3 (some 20) (bz_ 13 14) HT_ rfl rfl (by kernel_rfl) (fun _ _ _ h => h) (by rfl)
        · intro _; go_simp; with_reducible rfl
        · go_simp; rfl
        apply pu_ 4 (some 21) (bz_ 13 30) HT_ rfl rfl (by kernel_rfl) (fun _ _ _ h => h) (by rfl)
        · intro _; go_simp; with_reducible rfl
        · go_simp; rfl
        apply tk_ 0 (some 17) (bz_ 13 31) HT_ hHeld rfl rfl (by kernel_rfl) (fun _ _ _ h => h) (by rfl)
        · intro _ hS; go_split_ands; go_simp; with_reducible rfl
        · go_simp; rfl
        apply tk_ 5 (some 22) (bz_ 13 63) HT_ hHeld rfl rfl (by kernel_rfl) (fun _ _ _ h => h) (by rfl)
        · intro _ hS; go_split_ands; go_simp; with_reducible rfl
        · go_simp; rfl
        refine two_ (i := 6) (j := 10) (Ni := some 23) (Nj := some 8) (bz_ 13 127) (bz_ 13 1087) rfl rfl rfl rfl (two_of HT_.out (by kernel_rfl)) (by decide) (by decide) (fun K hK => ?_) (fun K hK => ?_)
        · refine goes_ Try.func10 (by kernel_rfl) rfl #[drV A0 A1 A2 A3 A4 c0 c1 c2 c3 c4 D.code.length D.origs.length D.dests.length D.loops.length D.cases.length, .int .i64 x.f0] (by rfl) rfl rfl (by simp only [List.map_toArray, List.map_cons, List.map_nil]; rfl) ?_
          with_reducible refine (actU H5 HN.out HNN.out HE.out).mono ?_
          rintro e w1 ⟨hb1, B0, B1, B2, B3, B4, b0, b1, b2, b3, b4, oe, rfl, hE5⟩
          refine ⟨_, rfl, ?_⟩
          replace HB := below_step HB hb1
          replace HG := blk_below HG hb1
          replace HZ := blk_below HZ hb1
          replace H5 := H5.below hb1
          clear hb1
          have hS : w1.cell? ⟨w.heap.size, 0, none⟩ = some (.slice A0 D.code.length c0) ∧ w1.cell? ⟨w.heap.size, 1, none⟩ = some (.slice A1 D.origs.length c1) ∧ w1.cell? ⟨w.heap.size, 2, none⟩ = some (.slice A2 D.dests.length c2) ∧ w1.cell? ⟨w.heap.size, 3, none⟩ = some (.slice A3 D.loops.length c3) ∧ w1.cell? ⟨w.heap.size, 4, none⟩ = some (.slice A4 D.cases.length c4) ∧ w1.cell? (ad.add (kk * 3)) = some (.int .i64 x.f0) := ⟨(blk_cell HG 0).trans rfl, (blk_cell HG 1).trans rfl, (blk_cell HG 2).trans rfl, (blk_cell HG 3).trans rfl, (blk_cell HG 4).trans rfl, (HQ.out w1 HB).1⟩
          refine hK.out _ _ (hS) (fun hHeld => ?_)
          clear hK K
          refine norm_ (a' := ?_) ?_ ?_
          rotate_left
          · show Act.put _ (some 23) _ = _
            simp only [Act.put, List.setIfInBounds_toArray, List.set_cons_zero, List.set_cons_succ, i64_w, i32_w]
            rfl
          apply pu_ 7 (some 16) (bz_ 13 255) HT_ rfl rfl (by kernel_rfl) (fun _ _ _ h => h) (by rfl)
          · intro _; go_simp; with_reducible rfl
          · go_simp; rfl
          apply pu_ 8 (some 24) (bz_ 13 511) HT_ rfl rfl (by kernel_rfl) (fun _ _ _ h => h) (by rfl)
          · intro _; go_simp; with_reducible rfl
          · go_simp; rfl
          apply pu_ 9 (some 25) (bz_ 13 1023) HT_ rfl rfl (by kernel_rfl) (fun _ _ _ h => h) (by rfl)
          · intro _; go_simp; with_reducible rfl
          · go_simp; rfl
          refine one_ (i := 10) (N := some 8) (bz_ 13 2047) rfl rfl (one_of HT_.out (by kernel_rfl)) (by decide) (fun K hK => ?_)
          refine value_ (w1 := ?_) (v := ?_) (by rfl) rfl ?_ ?_
          rotate_left 2
          · go_simp
            constructor
            · rfl
            · rfl
          have hal := below_alloc (Below.refl w1.heap.size w1) (.cells #[.slice none 0 0, .slice none 0 0, .slice none 0 0, .slice none 0 0, .slice none 0 0] 26)
          have HXB := blk_new w1 (.cells #[.slice none 0 0, .slice none 0 0, .slice none 0 0, .slice none 0 0, .slice none 0 0] 26)
          have hxb : w.heap.size ≤ w1.heap.size := HB.size
          have hne : w.heap.size ≠ w1.heap.size := Nat.ne_of_lt (blk_lt HG)
          have hne2 : w.heap.size + 1 ≠ w1.heap.size := Nat.ne_of_lt (blk_lt HZ)
          replace HB := below_step HB hal
          replace HG := blk_below HG hal
          replace HZ := blk_below HZ hal
          replace H5 := H5.below hal
          replace hE5 := hE5.below hal
          clear hal
          generalize w1.alloc (.cells #[.slice none 0 0, .slice none 0 0, .slice none 0 0, .slice none 0 0, .slice none 0 0] 26) = wb at HB HG HZ H5 HXB hE5 ⊢
          generalize w1.heap.size = xb at HXB hxb hne hne2 ⊢
          have hS : wb.cell? ⟨w.heap.size, 0, none⟩ = some (.slice A0 D.code.length c0) ∧ wb.cell? ⟨w.heap.size, 1, none⟩ = some (.slice A1 D.origs.length c1) ∧ wb.cell? ⟨w.heap.size, 2, none⟩ = some (.slice A2 D.dests.length c2) ∧ wb.cell? ⟨w.heap.size, 3, none⟩ = some (.slice A3 D.loops.length c3) ∧ wb.cell? ⟨w.heap.size, 4, none⟩ = some (.slice A4 D.cases.length c4) ∧ wb.cell? (ad.add (kk * 3)) = some (.int .i64 x.f0) := ⟨(blk_cell HG 0).trans rfl, (blk_cell HG 1).trans rfl, (blk_cell HG 2).trans rfl, (blk_cell HG 3).trans rfl, (blk_cell HG 4).trans rfl, (HQ.out wb HB).1⟩
          obtain ⟨q0, q1, q2, q3, q4⟩ := frozen5 HXB
          obtain ⟨z0, z1, z2, z3, z4⟩ := cells5 HXB
          refine hK.out _ _ (hS) (fun hHeld => ?_)
          clear hK K
          refine norm_ (a' := ?_) ?_ ?_
          rotate_left
          · show Act.put _ (some 8) _ = _
            simp only [Act.put, List.setIfInBounds_toArray, List.set_cons_zero, List.set_cons_succ, i64_w, i32_w]
            rfl
          refine last_ (i := 11) (N := none) (bz_ 13 4095) rfl rfl (one_of HT_.out (by kernel_rfl)) (by decide) (fun K hK => ?_)
          go_simp
          refine hK.out _ _ ?_
          clear hK K
          apply pu_ 12 (some 9) (bz_ 13 8191) HT_ rfl rfl (by kernel_rfl) (fun _ _ _ h => h) (by rfl)
          · intro _; go_simp; with_reducible rfl
          · go_simp; rfl
          refine done_ (done_of HT_.out (by kernel_rfl)) ?_
          clear HT_ hHeld hS q0 q1 q2 q3 q4 z0 z1 z2 z3 z4
          replace HB := below_put5 HB hxb (.slice B0 E.code.length b0) (.slice B1 E.origs.length b1) (.slice B2 E.dests.length b2) (.slice B3 E.loops.length b3) (.slice B4 E.cases.length b4)
          replace HG := blk_far5 HG hne (.slice B0 E.code.length b0) (.slice B1 E.origs.length b1) (.slice B2 E.dests.length b2) (.slice B3 E.loops.length b3) (.slice B4 E.cases.length b4)
          replace HZ := blk_far5 HZ hne2 (.slice B0 E.code.length b0) (.slice B1 E.origs.length b1) (.slice B2 E.dests.length b2) (.slice B3 E.loops.length b3) (.slice B4 E.cases.length b4)
          replace H5 := H5.put5 HXB (.slice B0 E.code.length b0) (.slice B1 E.origs.length b1) (.slice B2 E.dests.length b2) (.slice B3 E.loops.length b3) (.slice B4 E.cases.length b4)
          replace hE5 := hE5.put5 HXB (.slice B0 E.code.length b0) (.slice B1 E.origs.length b1) (.slice B2 E.dests.length b2) (.slice B3 E.loops.length b3) (.slice B4 E.cases.length b4)
          replace HXB := blk_put5 HXB (.slice B0 E.code.length b0) (.slice B1 E.origs.length b1) (.slice B2 E.dests.length b2) (.slice B3 E.loops.length b3) (.slice B4 E.cases.length b4)
          simp only [put5] at HB HG HZ H5 hE5 HXB
          generalize ((((wb.setCell ⟨xb, 0, none⟩ (.slice B0 E.code.length b0)).setCell ⟨xb, 1, none⟩ (.slice B1 E.origs.length b1)).setCell ⟨xb, 2, none⟩ (.slice B2 E.dests.length b2)).setCell ⟨xb, 3, none⟩ (.slice B3 E.loops.length b3)).setCell ⟨xb, 4, none⟩ (.slice B4 E.cases.length b4) = w5 at HB HG HZ H5 hE5 HXB ⊢
          have d0 := (HQ.out w5 HB).1
          have HB_ := Aside0.mk HB
          have HG_ := Aside0.mk HG
          have HZ_ := Aside0.mk HZ
          have H5_ := Aside0.mk H5
          have HE_ := Aside0.mk hE5
          have HX_ := Aside0.mk HXB
          clear HB HG HZ H5 hE5 HXB
          rcases HO.out with ⟨hc, hs⟩ | ⟨hc, hs⟩
          · have HNX := Aside0.mk (HN.out.step (HS.out.trans hs))
            have HRX := Aside0.mk (show buildP E (l.drop (kk + 1)) (kk + 1) = r by have := HR.out; rw [HX.out, build_inl (HS.out.trans hs)] at this; exact this)
            subst hc
            clear hs HO HS HE
            obtain ⟨x0, x1, x2, x3, x4⟩ := cells5 HX_.out
            obtain ⟨k0, k1, k2, k3, k4⟩ := cells5 HG_.out
            obtain ⟨f0, f1, f2, f3, f4⟩ := frozen5 HG_.out
            have HBn := Aside0.mk (below_put5 HB_.out (Nat.le_refl w.heap.size) (.slice B0 E.code.length b0) (.slice B1 E.origs.length b1) (.slice B2 E.dests.length b2) (.slice B3 E.loops.length b3) (.slice B4 E.cases.length b4))
            have HGn := Aside0.mk (blk_put5 HG_.out (.slice B0 E.code.length b0) (.slice B1 E.origs.length b1) (.slice B2 E.dests.length b2) (.slice B3 E.loops.length b3) (.slice B4 E.cases.length b4))
            have HZn := Aside0.mk (blk_far5 (g := w.heap.size) HZ_.out (Nat.succ_ne_self _) (.slice B0 E.code.length b0) (.slice B1 E.origs.length b1) (.slice B2 E.dests.length b2) (.slice B3 E.loops.length b3) (.slice B4 E.cases.length b4))
            have HEn := Aside0.mk (HE_.out.put5 HG_.out (.slice B0 E.code.length b0) (.slice B1 E.origs.length b1) (.slice B2 E.dests.length b2) (.slice B3 E.loops.length b3) (.slice B4 E.cases.length b4))
            clear HB_ HG_ HZ_ H5_ HE_ HX_
            go_wp2_with fail
            go_roundg (l.length - (kk + 1))
            case measure => omega
            case rel => exact ⟨kk + 1, E, B0, B1, B2, B3, B4, b0, b1, b2, b3, b4, _, by omega, by omega, by go_num, HBn, HGn, HZn, HEn, HNX, HRX⟩
          · have HRX := Aside0.mk (show r = (D, kk, c) by have := HR.out; rw [HX.out, build_inr (HS.out.trans hs)] at this; exact this.symm)
            have hc1 : (c == 0) = false := by simpa using hc
            have hc2 : (c != 0) = true := by simpa using hc
            clear hc hs HO HS HE
            obtain ⟨k0, k1, k2, k3, k4⟩ := cells5 HG_.out
            obtain ⟨z0, z1, z2, z3, z4⟩ := cells5 HZ_.out
            obtain ⟨f0, f1, f2, f3, f4⟩ := frozen5 HZ_.out
            have HBn := Aside0.mk (below_put5 HB_.out (Nat.le_succ w.heap.size) (.slice A0 D.code.length c0) (.slice A1 D.origs.length c1) (.slice A2 D.dests.length c2) (.slice A3 D.loops.length c3) (.slice A4 D.cases.length c4))
            have HZn := Aside0.mk (blk_put5 HZ_.out (.slice A0 D.code.length c0) (.slice A1 D.origs.length c1) (.slice A2 D.dests.length c2) (.slice A3 D.loops.length c3) (.slice A4 D.cases.length c4))
            have H5n := Aside0.mk (H5_.out.put5 HZ_.out (.slice A0 D.code.length c0) (.slice A1 D.origs.length c1) (.slice A2 D.dests.length c2) (.slice A3 D.loops.length c3) (.slice A4 D.cases.length c4))
            clear HB_ HG_ HZ_ H5_ HE_ HX_
            go_wp2_with fail
            obtain ⟨y0, y1, y2, y3, y4⟩ := cells5 HZn.out
            refine bodyPost_ret (v := .tuple #[drV A0 A1 A2 A3 A4 c0 c1 c2 c3 c4 D.code.length D.origs.length D.dests.length D.loops.length D.cases.length, .int .i64 kk, .int .i64 c]) (by simp [results, Try.results20, go_sem, y0, y1, y2, y3, y4]) rfl ?_
            rw [HRX.out]
            exact ⟨HBn.out, _, _, _, _, _, _, _, _, _, _, _, rfl, H5n.out⟩
        · refine value_ (w1 := ?_) (v := ?_) (by rfl) rfl ?_ ?_
          rotate_left 2
          · go_simp
            constructor
            · rfl
            · rfl
          have hal := below_alloc (Below.refl wa.heap.size wa) (.cells #[.slice none 0 0, .slice none 0 0, .slice none 0 0, .slice none 0 0, .slice none 0 0] 26)
          have HXB := blk_new wa (.cells #[.slice none 0 0, .slice none 0 0, .slice none 0 0, .slice none 0 0, .slice none 0 0] 26)
          have hxb : w.heap.size ≤ wa.heap.size := HB.size
          have hne : w.heap.size ≠ wa.heap.size := Nat.ne_of_lt (blk_lt HG)
          have hne2 : w.heap.size + 1 ≠ wa.heap.size := Nat.ne_of_lt (blk_lt HZ)
          replace HB := below_step HB hal
          replace HG := blk_below HG hal
          replace HZ := blk_below HZ hal
          replace H5 := H5.below hal
          clear hal
          generalize wa.alloc (.cells #[.slice none 0 0, .slice none 0 0, .slice none 0 0, .slice none 0 0, .slice none 0 0] 26) = wb at HB HG HZ H5 HXB ⊢
          generalize wa.heap.size = xb at HXB hxb hne hne2 ⊢
          have hS : wb.cell? ⟨w.heap.size, 0, none⟩ = some (.slice A0 D.code.length c0) ∧ wb.cell? ⟨w.heap.size, 1, none⟩ = some (.slice A1 D.origs.length c1) ∧ wb.cell? ⟨w.heap.size, 2, none⟩ = some (.slice A2 D.dests.length c2) ∧ wb.cell? ⟨w.heap.size, 3, none⟩ = some (.slice A3 D.loops.length c3) ∧ wb.cell? ⟨w.heap.size, 4, none⟩ = some (.slice A4 D.cases.length c4) ∧ wb.cell? (ad.add (kk * 3)) = some (.int .i64 x.f0) := ⟨(blk_cell HG 0).trans rfl, (blk_cell HG 1).trans rfl, (blk_cell HG 2).trans rfl, (blk_cell HG 3).trans rfl, (blk_cell HG 4).trans rfl, (HQ.out wb HB).1⟩
          refine hK.out _ _ (hS) (fun hHeld => ?_)
          clear hK K
          refine norm_ (a' := ?_) ?_ ?_
          rotate_left
          · show Act.put _ (some 8) _ = _
            simp only [Act.put, List.setIfInBounds_toArray, List.set_cons_zero, List.set_cons_succ, i64_w, i32_w]
            rfl
          refine one_ (i := 6) (N := some 23) (bz_ 13 1151) rfl rfl (one_of HT_.out (by kernel_rfl)) (by decide) (fun K hK => ?_)
          refine goes_ Try.func10 (by kernel_rfl) rfl #[drV A0 A1 A2 A3 A4 c0 c1 c2 c3 c4 D.code.length D.origs.length D.dests.length D.loops.length D.cases.length, .int .i64 x.f0] (by rfl) rfl rfl (by simp only [List.map_toArray, List.map_cons, List.map_nil]; rfl) ?_
          with_reducible refine (actU H5 HN.out HNN.out HE.out).mono ?_
          rintro e w1 ⟨hb1, B0, B1, B2, B3, B4, b0, b1, b2, b3, b4, oe, rfl, hE5⟩
          refine ⟨_, rfl, ?_⟩
          replace HB := below_step HB hb1
          replace HG := blk_below HG hb1
          replace HZ := blk_below HZ hb1
          replace H5 := H5.below hb1
          replace HXB := blk_below HXB hb1
          replace hxb := hxb
          clear hb1
          have hS : w1.cell? ⟨w.heap.size, 0, none⟩ = some (.slice A0 D.code.length c0) ∧ w1.cell? ⟨w.heap.size, 1, none⟩ = some (.slice A1 D.origs.length c1) ∧ w1.cell? ⟨w.heap.size, 2, none⟩ = some (.slice A2 D.dests.length c2) ∧ w1.cell? ⟨w.heap.size, 3, none⟩ = some (.slice A3 D.loops.length c3) ∧ w1.cell? ⟨w.heap.size, 4, none⟩ = some (.slice A4 D.cases.length c4) ∧ w1.cell? (ad.add (kk * 3)) = some (.int .i64 x.f0) := ⟨(blk_cell HG 0).trans rfl, (blk_cell HG 1).trans rfl, (blk_cell HG 2).trans rfl, (blk_cell HG 3).trans rfl, (blk_cell HG 4).trans rfl, (HQ.out w1 HB).1⟩
          obtain ⟨q0, q1, q2, q3, q4⟩ := frozen5 HXB
          obtain ⟨z0, z1, z2, z3, z4⟩ := cells5 HXB
          refine hK.out _ _ (hS) (fun hHeld => ?_)
          clear hK K
          refine norm_ (a' := ?_) ?_ ?_
          rotate_left
          · show Act.put _ (some 23) _ = _
            simp only [Act.put, List.setIfInBounds_toArray, List.set_cons_zero, List.set_cons_succ, i64_w, i32_w]
            rfl
          apply pu_ 7 (some 16) (bz_ 13 1279) HT_ rfl rfl (by kernel_rfl) (fun _ _ _ h => h) (by rfl)
          · intro _; go_simp; with_reducible rfl
          · go_simp; rfl
          apply pu_ 8 (some 24) (bz_ 13 1535) HT_ rfl rfl (by kernel_rfl) (fun _ _ _ h => h) (by rfl)
          · intro _; go_simp; with_reducible rfl
          · go_simp; rfl
          apply pu_ 9 (some 25) (bz_ 13 2047) HT_ rfl rfl (by kernel_rfl) (fun _ _ _ h => h) (by rfl)
          · intro _; go_simp; with_reducible rfl
          · go_simp; rfl
          refine last_ (i := 11) (N := none) (bz_ 13 4095) rfl rfl (one_of HT_.out (by kernel_rfl)) (by decide) (fun K hK => ?_)
          go_simp
          refine hK.out _ _ ?_
          clear hK K
          apply pu_ 12 (some 9) (bz_ 13 8191) HT_ rfl rfl (by kernel_rfl) (fun _ _ _ h => h) (by rfl)
          · intro _; go_simp; with_reducible rfl
          · go_simp; rfl
          refine done_ (done_of HT_.out (by kernel_rfl)) ?_
          clear HT_ hHeld hS q0 q1 q2 q3 q4 z0 z1 z2 z3 z4
          replace HB := below_put5 HB hxb (.slice B0 E.code.length b0) (.slice B1 E.origs.length b1) (.slice B2 E.dests.length b2) (.slice B3 E.loops.length b3) (.slice B4 E.cases.length b4)
          replace HG := blk_far5 HG hne (.slice B0 E.code.length b0) (.slice B1 E.origs.length b1) (.slice B2 E.dests.length b2) (.slice B3 E.loops.length b3) (.slice B4 E.cases.length b4)
          replace HZ := blk_far5 HZ hne2 (.slice B0 E.code.length b0) (.slice B1 E.origs.length b1) (.slice B2 E.dests.length b2) (.slice B3 E.loops.length b3) (.slice B4 E.cases.length b4)
          replace H5 := H5.put5 HXB (.slice B0 E.code.length b0) (.slice B1 E.origs.length b1) (.slice B2 E.dests.length b2) (.slice B3 E.loops.length b3) (.slice B4 E.cases.length b4)
          replace hE5 := hE5.put5 HXB (.slice B0 E.code.length b0) (.slice B1 E.origs.length b1) (.slice B2 E.dests.length b2) (.slice B3 E.loops.length b3) (.slice B4 E.cases.length b4)
          replace HXB := blk_put5 HXB (.slice B0 E.code.length b0) (.slice B1 E.origs.length b1) (.slice B2 E.dests.length b2) (.slice B3 E.loops.length b3) (.slice B4 E.cases.length b4)
          simp only [put5] at HB HG HZ H5 hE5 HXB
          generalize ((((w1.setCell ⟨xb, 0, none⟩ (.slice B0 E.code.length b0)).setCell ⟨xb, 1, none⟩ (.slice B1 E.origs.length b1)).setCell ⟨xb, 2, none⟩ (.slice B2 E.dests.length b2)).setCell ⟨xb, 3, none⟩ (.slice B3 E.loops.length b3)).setCell ⟨xb, 4, none⟩ (.slice B4 E.cases.length b4) = w5 at HB HG HZ H5 hE5 HXB ⊢
          have d0 := (HQ.out w5 HB).1
          have HB_ := Aside0.mk HB
          have HG_ := Aside0.mk HG
          have HZ_ := Aside0.mk HZ
          have H5_ := Aside0.mk H5
          have HE_ := Aside0.mk hE5
          have HX_ := Aside0.mk HXB
          clear HB HG HZ H5 hE5 HXB
          rcases HO.out with ⟨hc, hs⟩ | ⟨hc, hs⟩
          · have HNX := Aside0.mk (HN.out.step (HS.out.trans hs))
            have HRX := Aside0.mk (show buildP E (l.drop (kk + 1)) (kk + 1) = r by have := HR.out; rw [HX.out, build_inl (HS.out.trans hs)] at this; exact this)
            subst hc
            clear hs HO HS HE
            obtain ⟨x0, x1, x2, x3, x4⟩ := cells5 HX_.out
            obtain ⟨k0, k1, k2, k3, k4⟩ := cells5 HG_.out
            obtain ⟨f0, f1, f2, f3, f4⟩ := frozen5 HG_.out
            have HBn := Aside0.mk (below_put5 HB_.out (Nat.le_refl w.heap.size) (.slice B0 E.code.length b0) (.slice B1 E.origs.length b1) (.slice B2 E.dests.length b2) (.slice B3 E.loops.length b3) (.slice B4 E.cases.length b4))
            have HGn := Aside0.mk (blk_put5 HG_.out (.slice B0 E.code.length b0) (.slice B1 E.origs.length b1) (.slice B2 E.dests.length b2) (.slice B3 E.loops.length b3) (.slice B4 E.cases.length b4))
            have HZn := Aside0.mk (blk_far5 (g := w.heap.size) HZ_.out (Nat.succ_ne_self _) (.slice B0 E.code.length b0) (.slice B1 E.origs.length b1) (.slice B2 E.dests.length b2) (.slice B3 E.loops.length b3) (.slice B4 E.cases.length b4))
            have HEn := Aside0.mk (HE_.out.put5 HG_.out (.slice B0 E.code.length b0) (.slice B1 E.origs.length b1) (.slice B2 E.dests.length b2) (.slice B3 E.loops.length b3) (.slice B4 E.cases.length b4))
            clear HB_ HG_ HZ_ H5_ HE_ HX_
            go_wp2_with fail
            go_roundg (l.length - (kk + 1))
            case measure => omega
            case rel => exact ⟨kk + 1, E, B0, B1, B2, B3, B4, b0, b1, b2, b3, b4, _, by omega, by omega, by go_num, HBn, HGn, HZn, HEn, HNX, HRX⟩
          · have HRX := Aside0.mk (show r = (D, kk, c) by have := HR.out; rw [HX.out, build_inr (HS.out.trans hs)] at this; exact this.symm)
            have hc1 : (c == 0) = false := by simpa using hc
            have hc2 : (c != 0) = true := by simpa using hc
            clear hc hs HO HS HE
            obtain ⟨k0, k1, k2, k3, k4⟩ := cells5 HG_.out
            obtain ⟨z0, z1, z2, z3, z4⟩ := cells5 HZ_.out
            obtain ⟨f0, f1, f2, f3, f4⟩ := frozen5 HZ_.out
            have HBn := Aside0.mk (below_put5 HB_.out (Nat.le_succ w.heap.size) (.slice A0 D.code.length c0) (.slice A1 D.origs.length c1) (.slice A2 D.dests.length c2) (.slice A3 D.loops.length c3) (.slice A4 D.cases.length c4))
            have HZn := Aside0.mk (blk_put5 HZ_.out (.slice A0 D.code.length c0) (.slice A1 D.origs.length c1) (.slice A2 D.dests.length c2) (.slice A3 D.loops.length c3) (.slice A4 D.cases.length c4))
            have H5n := Aside0.mk (H5_.out.put5 HZ_.out (.slice A0 D.code.length c0) (.slice A1 D.origs.length c1) (.slice A2 D.dests.length c2) (.slice A3 D.loops.length c3) (.slice A4 D.cases.length c4))
            clear HB_ HG_ HZ_ H5_ HE_ HX_
            go_wp2_with fail
            obtain ⟨y0, y1, y2, y3, y4⟩ := cells5 HZn.out
            refine bodyPost_ret (v := .tuple #[drV A0 A1 A2 A3 A4 c0 c1 c2 c3 c4 D.code.length D.origs.length D.dests.length D.loops.length D.cases.length, .int .i64 kk, .int .i64 c]) (by simp [results, Try.results20, go_sem, y0, y1, y2, y3, y4]) rfl ?_
            rw [HRX.out]
            exact ⟨HBn.out, _, _, _, _, _, _, _, _, _, _, _, rfl, H5n.out⟩
    · have hltz : ¬ (kk : Int) < (l.length : Int) := by omega
      have : kk = l.length := by omega
      subst this
      have HRX := Aside0.mk (show r = (D, l.length, 0) by have := HR.out; rw [List.drop_length, build_end] at this; exact this.symm)
      obtain ⟨k0, k1, k2, k3, k4⟩ := cells5 HG0.out
      obtain ⟨z0, z1, z2, z3, z4⟩ := cells5 HZ0.out
      obtain ⟨f0, f1, f2, f3, f4⟩ := frozen5 HZ0.out
      have HBn := Aside0.mk (below_put5 HB0.out (Nat.le_succ w.heap.size) (.slice A0 D.code.length c0) (.slice A1 D.origs.length c1) (.slice A2 D.dests.length c2) (.slice A3 D.loops.length c3) (.slice A4 D.cases.length c4))
      have HZn := Aside0.mk (blk_put5 HZ0.out (.slice A0 D.code.length c0) (.slice A1 D.origs.length c1) (.slice A2 D.dests.length c2) (.slice A3 D.loops.length c3) (.slice A4 D.cases.length c4))
      have H5n := Aside0.mk (H50.out.put5 HZ0.out (.slice A0 D.code.length c0) (.slice A1 D.origs.length c1) (.slice A2 D.dests.length c2) (.slice A3 D.loops.length c3) (.slice A4 D.cases.length c4))
      clear HB0 HG0 HZ0 H50
      go_wp2_with fail
      obtain ⟨y0, y1, y2, y3, y4⟩ := cells5 HZn.out
      refine bodyPost_ret (v := .tuple #[drV A0 A1 A2 A3 A4 c0 c1 c2 c3 c4 D.code.length D.origs.length D.dests.length D.loops.length D.cases.length, .int .i64 l.length, .int .i64 0]) (by simp [results, Try.results20, go_sem, y0, y1, y2, y3, y4]) rfl ?_
      rw [HRX.out]
      exact ⟨HBn.out, _, _, _, _, _, _, _, _, _, _, _, rfl, H5n.out⟩
end Go.Proofs.Ytmglkgjnhoojaaa.PCodeRows
