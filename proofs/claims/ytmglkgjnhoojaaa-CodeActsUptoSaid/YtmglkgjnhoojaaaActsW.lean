/- CodeActs (3) walked: on any draft, for any act, it answers true. -/
import Derived.Test.YtmglkgjnhoojaaakA
import Derived.Test.YtmglkgjnhoojaaakT
import Derived.Test.YtmglkgjnhoojaaakF
import Derived.Test.YtmglkgjnhoojaaakI
namespace Go.Proofs.Ytmglkgjnhoojaaa.PCodeRows
open Go.RowKit Go.Proofs.YtmglkgjnhoojaaaW.PrintWords Go.Proofs.YtmglkgjnhoojaaaW.PrintLast Go.Proofs.YtmglkgjnhoojaaaW.PrintMore
set_option linter.unusedVariables false
set_option linter.unusedSimpArgs false
theorem actUD {A0 A1 A2 A3 A4 : Option Addr} {c0 c1 c2 c3 c4 N : Nat} {d E : Dr} {W : World} {c : Int} (h : DrC W A0 A1 A2 A3 A4 c0 c1 c2 c3 c4 d.code d.origs d.dests d.loops d.cases) (hN : Bnd d N) (hN2 : N ≤ 1099511627776) {a : Int} (hE : outP (actR d a) = (E, c)) :
    Calls Try.prog 10 #[drV A0 A1 A2 A3 A4 c0 c1 c2 c3 c4 d.code.length d.origs.length d.dests.length d.loops.length d.cases.length, .int .i64 a] W (UPost W E c) :=
  (act_calls A0 A1 A2 A3 A4 c0 c1 c2 c3 c4 d.code d.origs d.dests d.loops d.cases a W h (hN.small hN2) (hN.room hN2)).mono fun e w' hp => upost_of hp hE
theorem ractU {A0 A1 A2 A3 A4 : Option Addr} {c0 c1 c2 c3 c4 N : Nat} {d E : Dr} {W : World} {c : Int} (h : DrC W A0 A1 A2 A3 A4 c0 c1 c2 c3 c4 d.code d.origs d.dests d.loops d.cases) (hN : Bnd d N) (hN2 : N ≤ 1099511627776) {a : Int} (hE : outP (actR d a) = (E, c)) :
    Calls Try.prog 11 #[drV A0 A1 A2 A3 A4 c0 c1 c2 c3 c4 d.code.length d.origs.length d.dests.length d.loops.length d.cases.length, .int .i64 a] W (UPost W E c) :=
  (ract_calls A0 A1 A2 A3 A4 c0 c1 c2 c3 c4 d.code d.origs d.dests d.loops d.cases a W h (hN.small hN2) (hN.room hN2)).mono fun e w' hp => upost_of hp hE
theorem bnd_outA {d E : Dr} {a c : Int} {N : Nat} (h : Bnd d N) (hE : outP (actR d a) = (E, c)) : Bnd E (N + 1) := by
  unfold actR at hE
  split at hE
  · cases hp : actP d a with
    | inl d' => rw [hp] at hE; injection hE with h1 _; subst h1; exact h.act hp
    | inr c' => rw [hp] at hE; injection hE with h1 _; subst h1; exact bnd_zdr _
  · injection hE with h1 _; subst h1; exact bnd_zdr _
theorem formed_outA {d E : Dr} {a c : Int} (hE : outP (actR d a) = (E, c)) (hc : c = 0) : formedP E.code E.origs E.dests E.loops E.cases = true := by
  unfold actR at hE
  split at hE
  · cases hp : actP d a with
    | inl d' => rw [hp] at hE; injection hE with h1 _; subst h1; exact formed_iff.2 (fd_act (formed_iff.1 (by assumption)) hp)
    | inr c' => rw [hp] at hE; injection hE with _ h2; exact absurd (h2.trans hc) (actP_err hp)
  · injection hE with _ h2; omega
theorem formedF {A0 A1 A2 A3 A4 : Option Addr} {c0 c1 c2 c3 c4 : Nat} {d : Dr} {W : World} {fd : Bool} (h : DrC W A0 A1 A2 A3 A4 c0 c1 c2 c3 c4 d.code d.origs d.dests d.loops d.cases) (hf : formedP d.code d.origs d.dests d.loops d.cases = fd) :
    Calls Try.prog 12 #[drV A0 A1 A2 A3 A4 c0 c1 c2 c3 c4 d.code.length d.origs.length d.dests.length d.loops.length d.cases.length] W fun e w' => e = .returned (.bool fd) ∧ Below W.heap.size W w' := hf ▸ formed_calls A0 A1 A2 A3 A4 c0 c1 c2 c3 c4 d.code d.origs d.dests d.loops d.cases W h
theorem rformedF {A0 A1 A2 A3 A4 : Option Addr} {c0 c1 c2 c3 c4 : Nat} {d : Dr} {W : World} {fd : Bool} (h : DrC W A0 A1 A2 A3 A4 c0 c1 c2 c3 c4 d.code d.origs d.dests d.loops d.cases) (hf : formedP d.code d.origs d.dests d.loops d.cases = fd) :
    Calls Try.prog 13 #[drV A0 A1 A2 A3 A4 c0 c1 c2 c3 c4 d.code.length d.origs.length d.dests.length d.loops.length d.cases.length] W fun e w' => e = .returned (.bool fd) ∧ Below W.heap.size W w' := hf ▸ rformed_calls A0 A1 A2 A3 A4 c0 c1 c2 c3 c4 d.code d.origs d.dests d.loops d.cases W h
abbrev bx (A0 A1 A2 A3 A4 : Option Addr) (c0 c1 c2 c3 c4 : Nat) (D : Dr) : Obj := .cells #[.slice A0 D.code.length c0, .slice A1 D.origs.length c1, .slice A2 D.dests.length c2, .slice A3 D.loops.length c3, .slice A4 D.cases.length c4] 26

theorem sA {W : World} {g0 g5 g6 g8 : Nat} {A0 A1 A2 A3 A4 B0 B1 B2 B3 B4 P0 P1 P2 P3 P4 Q0 Q1 Q2 Q3 Q4 : Option Addr} {c0 c1 c2 c3 c4 b0 b1 b2 b3 b4 p0 p1 p2 p3 p4 q0 q1 q2 q3 q4 : Nat} {D E : Dr} (h0 : W.heap[g0]? = some (bx A0 A1 A2 A3 A4 c0 c1 c2 c3 c4 D)) (h5 : W.heap[g5]? = some (bx B0 B1 B2 B3 B4 b0 b1 b2 b3 b4 D)) (h6 : W.heap[g6]? = some (bx P0 P1 P2 P3 P4 p0 p1 p2 p3 p4 E)) (h8 : W.heap[g8]? = some (bx Q0 Q1 Q2 Q3 Q4 q0 q1 q2 q3 q4 E)) :
    W.cell? ⟨g0, 0, none⟩ = some (.slice A0 D.code.length c0) ∧ W.cell? ⟨g0, 1, none⟩ = some (.slice A1 D.origs.length c1) ∧ W.cell? ⟨g0, 2, none⟩ = some (.slice A2 D.dests.length c2) ∧ W.cell? ⟨g0, 3, none⟩ = some (.slice A3 D.loops.length c3) ∧ W.cell? ⟨g0, 4, none⟩ = some (.slice A4 D.cases.length c4) ∧ W.cell? ⟨g5, 0, none⟩ = some (.slice B0 D.code.length b0) ∧ W.cell? ⟨g5, 1, none⟩ = some (.slice B1 D.origs.length b1) ∧ W.cell? ⟨g5, 2, none⟩ = some (.slice B2 D.dests.length b2) ∧ W.cell? ⟨g5, 3, none⟩ = some (.slice B3 D.loops.length b3) ∧ W.cell? ⟨g5, 4, none⟩ = some (.slice B4 D.cases.length b4) ∧ W.cell? ⟨g6, 0, none⟩ = some (.slice P0 E.code.length p0) ∧ W.cell? ⟨g6, 1, none⟩ = some (.slice P1 E.origs.length p1) ∧ W.cell? ⟨g6, 2, none⟩ = some (.slice P2 E.dests.length p2) ∧ W.cell? ⟨g6, 3, none⟩ = some (.slice P3 E.loops.length p3) ∧ W.cell? ⟨g6, 4, none⟩ = some (.slice P4 E.cases.length p4) ∧ W.cell? ⟨g8, 0, none⟩ = some (.slice Q0 E.code.length q0) ∧ W.cell? ⟨g8, 1, none⟩ = some (.slice Q1 E.origs.length q1) ∧ W.cell? ⟨g8, 2, none⟩ = some (.slice Q2 E.dests.length q2) ∧ W.cell? ⟨g8, 3, none⟩ = some (.slice Q3 E.loops.length q3) ∧ W.cell? ⟨g8, 4, none⟩ = some (.slice Q4 E.cases.length q4) :=
  ⟨(blk_cell h0 0).trans rfl, (blk_cell h0 1).trans rfl, (blk_cell h0 2).trans rfl, (blk_cell h0 3).trans rfl, (blk_cell h0 4).trans rfl, (blk_cell h5 0).trans rfl, (blk_cell h5 1).trans rfl, (blk_cell h5 2).trans rfl, (blk_cell h5 3).trans rfl, (blk_cell h5 4).trans rfl, (blk_cell h6 0).trans rfl, (blk_cell h6 1).trans rfl, (blk_cell h6 2).trans rfl, (blk_cell h6 3).trans rfl, (blk_cell h6 4).trans rfl, (blk_cell h8 0).trans rfl, (blk_cell h8 1).trans rfl, (blk_cell h8 2).trans rfl, (blk_cell h8 3).trans rfl, (blk_cell h8 4).trans rfl⟩
set_option maxHeartbeats 8000000 in
theorem acts_calls (A0 A1 A2 A3 A4 : Option Addr) (c0 c1 c2 c3 c4 : Nat) (D : Dr) (a : Int) (w : World) (h : DrC w A0 A1 A2 A3 A4 c0 c1 c2 c3 c4 D.code D.origs D.dests D.loops D.cases) (hN : Bnd D 1048576) (hu : ∀ x ∈ D.code, 0 ≤ x.f1 ∧ x.f1 < 4294967296) :
    Calls Try.prog 3 #[drV A0 A1 A2 A3 A4 c0 c1 c2 c3 c4 D.code.length D.origs.length D.dests.length D.loops.length D.cases.length, .int .i64 a] w fun e w' => e = .returned (.bool true) ∧ Below w.heap.size w w' := by
  obtain ⟨⟨E, c⟩, hE⟩ : ∃ p, outP (actR D a) = p := ⟨_, rfl⟩
  have HE := Aside0.mk hE
  have HNE := Aside0.mk (bnd_outA hN hE)
  have HN := Aside0.mk hN
  have HD0 := blk_new w (bx A0 A1 A2 A3 A4 c0 c1 c2 c3 c4 D)
  have HB0 := below_alloc (Below.refl w.heap.size w) (bx A0 A1 A2 A3 A4 c0 c1 c2 c3 c4 D)
  have H := Aside0.mk (h.below HB0)
  have HD := Aside0.mk HD0
  have HB := Aside0.mk HB0
  clear hE hN hu HD0 HB0 h
  go_enter Try.func3, Try.ntmps3
  go_wp2_with fail
  generalize w.alloc (.cells #[.slice A0 D.code.length c0, .slice A1 D.origs.length c1, .slice A2 D.dests.length c2, .slice A3 D.loops.length c3, .slice A4 D.cases.length c4] 26) = wa at H HD HB ⊢
  refine (alive_calls wa).mono ?_
  rintro e wb ⟨rfl, hb⟩
  replace HB := Aside0.mk (below_step HB.out hb)
  replace HD := Aside0.mk (blk_below HD.out hb)
  replace H := Aside0.mk (H.out.below hb)
  clear hb
  obtain ⟨k0, k1, k2, k3, k4⟩ := cells5 HD.out
  go_wp2_with fail
  clear k0 k1 k2 k3 k4
  refine (copy_calls A0 A1 A2 A3 A4 c0 c1 c2 c3 c4 D.code D.origs D.dests D.loops D.cases wb H.out (HN.out.small (by omega)) (HN.out.room (by omega))).mono ?_
  rintro e w2 ⟨B0, B1, B2, B3, B4, b0, b1, b2, b3, b4, oo, rfl, h5, hb⟩
  replace HB := Aside0.mk (below_step HB.out hb)
  replace HD := Aside0.mk (blk_below HD.out hb)
  replace H := Aside0.mk (H.out.below hb)
  have hal := below_alloc (Below.refl _ w2) (bx B0 B1 B2 B3 B4 b0 b1 b2 b3 b4 D)
  replace HB := Aside0.mk (below_step HB.out hal)
  replace HD := Aside0.mk (blk_below HD.out hal)
  replace H := Aside0.mk (H.out.below hal)
  have H5 := Aside0.mk (h5.below hal)
  have HX5 := Aside0.mk (blk_new w2 (bx B0 B1 B2 B3 B4 b0 b1 b2 b3 b4 D))
  clear h5 hb hal
  obtain ⟨k0, k1, k2, k3, k4⟩ := cells5 HX5.out
  go_wp2_with fail
  clear k0 k1 k2 k3 k4
  generalize w2.alloc (.cells #[.slice B0 D.code.length b0, .slice B1 D.origs.length b1, .slice B2 D.dests.length b2, .slice B3 D.loops.length b3, .slice B4 D.cases.length b4] 26) = w3 at HB HD H H5 HX5 ⊢
  generalize w2.heap.size = g5 at HX5 ⊢
  refine (actUD H5.out.drc HN.out (by omega) HE.out).mono ?_
  rintro e w4 ⟨hb, P0, P1, P2, P3, P4, p0, p1, p2, p3, p4, op, rfl, h5⟩
  replace HB := Aside0.mk (below_step HB.out hb)
  replace HD := Aside0.mk (blk_below HD.out hb)
  replace H := Aside0.mk (H.out.below hb)
  replace H5 := Aside0.mk (H5.out.below hb)
  replace HX5 := Aside0.mk (blk_below HX5.out hb)
  have hal := below_alloc (Below.refl _ w4) (bx P0 P1 P2 P3 P4 p0 p1 p2 p3 p4 E)
  replace HB := Aside0.mk (below_step HB.out hal)
  replace HD := Aside0.mk (blk_below HD.out hal)
  replace H := Aside0.mk (H.out.below hal)
  replace H5 := Aside0.mk (H5.out.below hal)
  replace HX5 := Aside0.mk (blk_below HX5.out hal)
  have H6 := Aside0.mk (h5.below hal)
  have HX6 := Aside0.mk (blk_new w4 (bx P0 P1 P2 P3 P4 p0 p1 p2 p3 p4 E))
  clear h5 hb hal
  obtain ⟨k0, k1, k2, k3, k4⟩ := cells5 HD.out
  go_wp2_with fail
  clear k0 k1 k2 k3 k4
  generalize w4.alloc (.cells #[.slice P0 E.code.length p0, .slice P1 E.origs.length p1, .slice P2 E.dests.length p2, .slice P3 E.loops.length p3, .slice P4 E.cases.length p4] 26) = w5 at HB HD H H5 HX5 H6 HX6 ⊢
  generalize w4.heap.size = g6 at HX6 ⊢
  refine (ractU H.out HN.out (by omega) HE.out).mono ?_
  rintro e w6 ⟨hb, Q0, Q1, Q2, Q3, Q4, q0, q1, q2, q3, q4, oq, rfl, h5⟩
  replace HB := Aside0.mk (below_step HB.out hb)
  replace HD := Aside0.mk (blk_below HD.out hb)
  replace H := Aside0.mk (H.out.below hb)
  replace H5 := Aside0.mk (H5.out.below hb)
  replace HX5 := Aside0.mk (blk_below HX5.out hb)
  replace H6 := Aside0.mk (H6.out.below hb)
  replace HX6 := Aside0.mk (blk_below HX6.out hb)
  have hal := below_alloc (Below.refl _ w6) (bx Q0 Q1 Q2 Q3 Q4 q0 q1 q2 q3 q4 E)
  replace HB := Aside0.mk (below_step HB.out hal)
  replace HD := Aside0.mk (blk_below HD.out hal)
  replace H := Aside0.mk (H.out.below hal)
  replace H5 := Aside0.mk (H5.out.below hal)
  replace HX5 := Aside0.mk (blk_below HX5.out hal)
  replace H6 := Aside0.mk (H6.out.below hal)
  replace HX6 := Aside0.mk (blk_below HX6.out hal)
  have H8 := Aside0.mk (h5.below hal)
  have HX8 := Aside0.mk (blk_new w6 (bx Q0 Q1 Q2 Q3 Q4 q0 q1 q2 q3 q4 E))
  clear h5 hb hal
  obtain ⟨k0, k1, k2, k3, k4⟩ := cells5 HD.out
  go_wp2_with fail
  clear k0 k1 k2 k3 k4
  generalize w6.alloc (.cells #[.slice Q0 E.code.length q0, .slice Q1 E.origs.length q1, .slice Q2 E.dests.length q2, .slice Q3 E.loops.length q3, .slice Q4 E.cases.length q4] 26) = w7 at HB HD H H5 HX5 H6 HX6 H8 HX8 ⊢
  generalize w6.heap.size = g8 at HX8 ⊢
  obtain ⟨fd, hfd⟩ : ∃ fd, formedP D.code D.origs D.dests D.loops D.cases = fd := ⟨_, rfl⟩
  have HFD := Aside0.mk hfd
  clear hfd
  have ef : (fd == fd) = true := by simp
  have ec : (c == c) = true := by simp
  have hS := sA HD.out HX5.out HX6.out HX8.out
  by_cases hc : c = 0
  · have hc1 : (c == 0) = true := by simpa using hc
    have hc2 : (c != 0) = false := by simpa using hc
    have HFE := Aside0.mk (formed_outA HE.out hc)
    clear hc
    go_wp2_with fail
    refine start_ (n := 29) (S := fun w' => w'.cell? ⟨w.heap.size, 0, none⟩ = some (.slice A0 D.code.length c0) ∧ w'.cell? ⟨w.heap.size, 1, none⟩ = some (.slice A1 D.origs.length c1) ∧ w'.cell? ⟨w.heap.size, 2, none⟩ = some (.slice A2 D.dests.length c2) ∧ w'.cell? ⟨w.heap.size, 3, none⟩ = some (.slice A3 D.loops.length c3) ∧ w'.cell? ⟨w.heap.size, 4, none⟩ = some (.slice A4 D.cases.length c4) ∧ w'.cell? ⟨g5, 0, none⟩ = some (.slice B0 D.code.length b0) ∧ w'.cell? ⟨g5, 1, none⟩ = some (.slice B1 D.origs.length b1) ∧ w'.cell? ⟨g5, 2, none⟩ = some (.slice B2 D.dests.length b2) ∧ w'.cell? ⟨g5, 3, none⟩ = some (.slice B3 D.loops.length b3) ∧ w'.cell? ⟨g5, 4, none⟩ = some (.slice B4 D.cases.length b4) ∧ w'.cell? ⟨g6, 0, none⟩ = some (.slice P0 E.code.length p0) ∧ w'.cell? ⟨g6, 1, none⟩ = some (.slice P1 E.origs.length p1) ∧ w'.cell? ⟨g6, 2, none⟩ = some (.slice P2 E.dests.length p2) ∧ w'.cell? ⟨g6, 3, none⟩ = some (.slice P3 E.loops.length p3) ∧ w'.cell? ⟨g6, 4, none⟩ = some (.slice P4 E.cases.length p4) ∧ w'.cell? ⟨g8, 0, none⟩ = some (.slice Q0 E.code.length q0) ∧ w'.cell? ⟨g8, 1, none⟩ = some (.slice Q1 E.origs.length q1) ∧ w'.cell? ⟨g8, 2, none⟩ = some (.slice Q2 E.dests.length q2) ∧ w'.cell? ⟨g8, 3, none⟩ = some (.slice Q3 E.loops.length q3) ∧ w'.cell? ⟨g8, 4, none⟩ = some (.slice Q4 E.cases.length q4)) (ds := []) (bz_ 29 0) (by kernel_rfl) rfl rfl (hS) (fun hHeld => ?_)
    refine with_tab (rfl : rtab .any (opsOf Try.f3 6) = rtab .any (opsOf Try.f3 6)) (fun HT_ => ?_)
    have hbd := below_drew (Below.refl w7.heap.size w7)
    replace HB := Aside0.mk (below_step HB.out hbd)
    replace HD := Aside0.mk (blk_below HD.out hbd)
    replace H := Aside0.mk (H.out.below hbd)
    replace H5 := Aside0.mk (H5.out.below hbd)
    replace HX5 := Aside0.mk (blk_below HX5.out hbd)
    replace H6 := Aside0.mk (H6.out.below hbd)
    replace HX6 := Aside0.mk (blk_below HX6.out hbd)
    replace H8 := Aside0.mk (H8.out.below hbd)
    replace HX8 := Aside0.mk (blk_below HX8.out hbd)
    clear hS hbd
    generalize w7.drew = wd at HB HD H H5 HX5 H6 HX6 H8 HX8 hHeld ⊢
    apply tk_ 0 (some 26) (bz_ 29 1) HT_ hHeld rfl rfl (by kernel_rfl) (fun _ _ _ h => h) (by rfl)
    · intro _ hS; go_split_ands; go_simp; with_reducible rfl
    · go_simp; rfl
    apply tk_ 2 (some 28) (bz_ 29 5) HT_ hHeld rfl rfl (by kernel_rfl) (fun _ _ _ h => h) (by rfl)
    · intro _ hS; go_split_ands; go_simp; with_reducible rfl
    · go_simp; rfl
    refine one_ (i := 1) (N := some 27) (bz_ 29 7) rfl rfl (one_of HT_.out (by kernel_rfl)) (by decide) (fun K hK => ?_)
    refine goes_ Try.func12 (by kernel_rfl) rfl #[drV A0 A1 A2 A3 A4 c0 c1 c2 c3 c4 D.code.length D.origs.length D.dests.length D.loops.length D.cases.length] (by rfl) rfl rfl (by simp only [List.map_toArray, List.map_cons, List.map_nil]; rfl) ?_
    with_reducible refine (formedF H.out HFD.out).mono ?_
    rintro e we1 ⟨rfl, hb⟩
    refine ⟨_, rfl, ?_⟩
    replace HB := Aside0.mk (below_step HB.out hb)
    replace HD := Aside0.mk (blk_below HD.out hb)
    replace H := Aside0.mk (H.out.below hb)
    replace H5 := Aside0.mk (H5.out.below hb)
    replace HX5 := Aside0.mk (blk_below HX5.out hb)
    replace H6 := Aside0.mk (H6.out.below hb)
    replace HX6 := Aside0.mk (blk_below HX6.out hb)
    replace H8 := Aside0.mk (H8.out.below hb)
    replace HX8 := Aside0.mk (blk_below HX8.out hb)
    clear hb
    have hS := sA HD.out HX5.out HX6.out HX8.out
    refine hK.out _ _ (hS) (fun hHeld => ?_)
    clear hK K
    refine norm_ (a' := ?_) ?_ ?_
    rotate_left
    · show Act.put _ (some 27) _ = _
      simp only [Act.put, List.setIfInBounds_toArray, List.set_cons_zero, List.set_cons_succ, i64_w, i32_w]
      rfl
    refine one_ (i := 3) (N := some 29) (bz_ 29 15) rfl rfl (one_of HT_.out (by kernel_rfl)) (by decide) (fun K hK => ?_)
    refine goes_ Try.func13 (by kernel_rfl) rfl #[drV A0 A1 A2 A3 A4 c0 c1 c2 c3 c4 D.code.length D.origs.length D.dests.length D.loops.length D.cases.length] (by rfl) rfl rfl (by simp only [List.map_toArray, List.map_cons, List.map_nil]; rfl) ?_
    with_reducible refine (rformedF H.out HFD.out).mono ?_
    rintro e we2 ⟨rfl, hb⟩
    refine ⟨_, rfl, ?_⟩
    replace HB := Aside0.mk (below_step HB.out hb)
    replace HD := Aside0.mk (blk_below HD.out hb)
    replace H := Aside0.mk (H.out.below hb)
    replace H5 := Aside0.mk (H5.out.below hb)
    replace HX5 := Aside0.mk (blk_below HX5.out hb)
    replace H6 := Aside0.mk (H6.out.below hb)
    replace HX6 := Aside0.mk (blk_below HX6.out hb)
    replace H8 := Aside0.mk (H8.out.below hb)
    replace HX8 := Aside0.mk (blk_below HX8.out hb)
    clear hb
    have hS := sA HD.out HX5.out HX6.out HX8.out
    refine hK.out _ _ (hS) (fun hHeld => ?_)
    clear hK K
    refine norm_ (a' := ?_) ?_ ?_
    rotate_left
    · show Act.put _ (some 29) _ = _
      simp only [Act.put, List.setIfInBounds_toArray, List.set_cons_zero, List.set_cons_succ, i64_w, i32_w]
      rfl
    apply pu_ 4 (some 30) (bz_ 29 31) HT_ rfl rfl (by kernel_rfl) (fun _ _ _ h => h) (by rfl)
    · intro _; go_simp; with_reducible rfl
    · go_simp; rfl
    apply pu_ 5 (some 31) (bz_ 29 63) HT_ rfl rfl (by kernel_rfl) (fun _ _ _ h => h) (by rfl)
    · intro _; go_simp; with_reducible rfl
    · go_simp; rfl
    apply tk_ 6 (some 32) (bz_ 29 127) HT_ hHeld rfl rfl (by kernel_rfl) (fun _ _ _ h => h) (by rfl)
    · intro _ hS; go_split_ands; go_simp; with_reducible rfl
    · go_simp; rfl
    apply tk_ 7 (some 33) (bz_ 29 255) HT_ hHeld rfl rfl (by kernel_rfl) (fun _ _ _ h => h) (by rfl)
    · intro _ hS; go_split_ands; go_simp; with_reducible rfl
    · go_simp; rfl
    refine one_ (i := 8) (N := some 34) (bz_ 29 511) rfl rfl (one_of HT_.out (by kernel_rfl)) (by decide) (fun K hK => ?_)
    refine goes_ Try.func14 (by kernel_rfl) rfl #[drV P0 P1 P2 P3 P4 p0 p1 p2 p3 p4 E.code.length E.origs.length E.dests.length E.loops.length E.cases.length, drV Q0 Q1 Q2 Q3 Q4 q0 q1 q2 q3 q4 E.code.length E.origs.length E.dests.length E.loops.length E.cases.length] (by rfl) rfl rfl (by simp only [List.map_toArray, List.map_cons, List.map_nil]; rfl) ?_
    with_reducible refine (same_calls H6.out.drc H8.out.drc HNE.out (by omega)).mono ?_
    rintro e we3 ⟨rfl, hb⟩
    refine ⟨_, rfl, ?_⟩
    replace HB := Aside0.mk (below_step HB.out hb)
    replace HD := Aside0.mk (blk_below HD.out hb)
    replace H := Aside0.mk (H.out.below hb)
    replace H5 := Aside0.mk (H5.out.below hb)
    replace HX5 := Aside0.mk (blk_below HX5.out hb)
    replace H6 := Aside0.mk (H6.out.below hb)
    replace HX6 := Aside0.mk (blk_below HX6.out hb)
    replace H8 := Aside0.mk (H8.out.below hb)
    replace HX8 := Aside0.mk (blk_below HX8.out hb)
    clear hb
    have hS := sA HD.out HX5.out HX6.out HX8.out
    refine hK.out _ _ (hS) (fun hHeld => ?_)
    clear hK K
    refine norm_ (a' := ?_) ?_ ?_
    rotate_left
    · show Act.put _ (some 34) _ = _
      simp only [Act.put, List.setIfInBounds_toArray, List.set_cons_zero, List.set_cons_succ, i64_w, i32_w]
      rfl
    apply pu_ 9 (some 35) (bz_ 29 1023) HT_ rfl rfl (by kernel_rfl) (fun _ _ _ h => h) (by rfl)
    · intro _; go_simp; with_reducible rfl
    · go_simp; rfl
    apply pu_ 10 (some 36) (bz_ 29 2047) HT_ rfl rfl (by kernel_rfl) (fun _ _ _ h => h) (by rfl)
    · intro _; go_simp; with_reducible rfl
    · go_simp; rfl
    apply pu_ 11 (some 37) (bz_ 29 4095) HT_ rfl rfl (by kernel_rfl) (fun _ _ _ h => h) (by rfl)
    · intro _; go_simp; with_reducible rfl
    · go_simp; rfl
    apply pu_ 12 (some 38) (bz_ 29 8191) HT_ rfl rfl (by kernel_rfl) (fun _ _ _ h => h) (by rfl)
    · intro _; go_simp; with_reducible rfl
    · go_simp; rfl
    apply pu_ 13 (some 39) (bz_ 29 16383) HT_ rfl rfl (by kernel_rfl) (fun _ _ _ h => h) (by rfl)
    · intro _; go_simp; with_reducible rfl
    · go_simp; rfl
    apply pu_ 14 (some 40) (bz_ 29 32767) HT_ rfl rfl (by kernel_rfl) (fun _ _ _ h => h) (by rfl)
    · intro _; go_simp; with_reducible rfl
    · go_simp; rfl
    apply pu_ 15 (some 41) (bz_ 29 65535) HT_ rfl rfl (by kernel_rfl) (fun _ _ _ h => h) (by rfl)
    · intro _; go_simp; with_reducible rfl
    · go_simp; rfl
    apply tk_ 16 (some 42) (bz_ 29 131071) HT_ hHeld rfl rfl (by kernel_rfl) (fun _ _ _ h => h) (by rfl)
    · intro _ hS; go_split_ands; go_simp; with_reducible rfl
    · go_simp; rfl
    apply tk_ 17 (some 43) (bz_ 29 262143) HT_ hHeld rfl rfl (by kernel_rfl) (fun _ _ _ h => h) (by rfl)
    · intro _ hS; go_split_ands; go_simp; with_reducible rfl
    · go_simp; rfl
    refine one_ (i := 18) (N := some 44) (bz_ 29 524287) rfl rfl (one_of HT_.out (by kernel_rfl)) (by decide) (fun K hK => ?_)
    refine goes_ Try.func14 (by kernel_rfl) rfl #[drV B0 B1 B2 B3 B4 b0 b1 b2 b3 b4 D.code.length D.origs.length D.dests.length D.loops.length D.cases.length, drV A0 A1 A2 A3 A4 c0 c1 c2 c3 c4 D.code.length D.origs.length D.dests.length D.loops.length D.cases.length] (by rfl) rfl rfl (by simp only [List.map_toArray, List.map_cons, List.map_nil]; rfl) ?_
    with_reducible refine (same_calls H5.out.drc H.out HN.out (by omega)).mono ?_
    rintro e we4 ⟨rfl, hb⟩
    refine ⟨_, rfl, ?_⟩
    replace HB := Aside0.mk (below_step HB.out hb)
    replace HD := Aside0.mk (blk_below HD.out hb)
    replace H := Aside0.mk (H.out.below hb)
    replace H5 := Aside0.mk (H5.out.below hb)
    replace HX5 := Aside0.mk (blk_below HX5.out hb)
    replace H6 := Aside0.mk (H6.out.below hb)
    replace HX6 := Aside0.mk (blk_below HX6.out hb)
    replace H8 := Aside0.mk (H8.out.below hb)
    replace HX8 := Aside0.mk (blk_below HX8.out hb)
    clear hb
    have hS := sA HD.out HX5.out HX6.out HX8.out
    refine hK.out _ _ (hS) (fun hHeld => ?_)
    clear hK K
    refine norm_ (a' := ?_) ?_ ?_
    rotate_left
    · show Act.put _ (some 44) _ = _
      simp only [Act.put, List.setIfInBounds_toArray, List.set_cons_zero, List.set_cons_succ, i64_w, i32_w]
      rfl
    apply pu_ 19 (some 45) (bz_ 29 1048575) HT_ rfl rfl (by kernel_rfl) (fun _ _ _ h => h) (by rfl)
    · intro _; go_simp; with_reducible rfl
    · go_simp; rfl
    apply pu_ 20 (some 46) (bz_ 29 2097151) HT_ rfl rfl (by kernel_rfl) (fun _ _ _ h => h) (by rfl)
    · intro _; go_simp; with_reducible rfl
    · go_simp; rfl
    apply pu_ 21 (some 47) (bz_ 29 4194303) HT_ rfl rfl (by kernel_rfl) (fun _ _ _ h => h) (by rfl)
    · intro _; go_simp; with_reducible rfl
    · go_simp; rfl
    apply pu_ 22 (some 48) (bz_ 29 8388607) HT_ rfl rfl (by kernel_rfl) (fun _ _ _ h => h) (by rfl)
    · intro _; go_simp; with_reducible rfl
    · go_simp; rfl
    apply pu_ 23 (some 49) (bz_ 29 16777215) HT_ rfl rfl (by kernel_rfl) (fun _ _ _ h => h) (by rfl)
    · intro _; go_simp; with_reducible rfl
    · go_simp; rfl
    apply tk_ 24 (some 50) (bz_ 29 33554431) HT_ hHeld rfl rfl (by kernel_rfl) (fun _ _ _ h => h) (by rfl)
    · intro _ hS; go_split_ands; go_simp; with_reducible rfl
    · go_simp; rfl
    refine one_ (i := 25) (N := some 51) (bz_ 29 67108863) rfl rfl (one_of HT_.out (by kernel_rfl)) (by decide) (fun K hK => ?_)
    refine goes_ Try.func12 (by kernel_rfl) rfl #[drV P0 P1 P2 P3 P4 p0 p1 p2 p3 p4 E.code.length E.origs.length E.dests.length E.loops.length E.cases.length] (by rfl) rfl rfl (by simp only [List.map_toArray, List.map_cons, List.map_nil]; rfl) ?_
    with_reducible refine (formedF (d := E) H6.out.drc HFE.out).mono ?_
    rintro e we5 ⟨rfl, hb⟩
    refine ⟨_, rfl, ?_⟩
    replace HB := Aside0.mk (below_step HB.out hb)
    replace HD := Aside0.mk (blk_below HD.out hb)
    replace H := Aside0.mk (H.out.below hb)
    replace H5 := Aside0.mk (H5.out.below hb)
    replace HX5 := Aside0.mk (blk_below HX5.out hb)
    replace H6 := Aside0.mk (H6.out.below hb)
    replace HX6 := Aside0.mk (blk_below HX6.out hb)
    replace H8 := Aside0.mk (H8.out.below hb)
    replace HX8 := Aside0.mk (blk_below HX8.out hb)
    clear hb
    have hS := sA HD.out HX5.out HX6.out HX8.out
    refine hK.out _ _ (hS) (fun hHeld => ?_)
    clear hK K
    refine norm_ (a' := ?_) ?_ ?_
    rotate_left
    · show Act.put _ (some 51) _ = _
      simp only [Act.put, List.setIfInBounds_toArray, List.set_cons_zero, List.set_cons_succ, i64_w, i32_w]
      rfl
    apply pu_ 26 (some 52) (bz_ 29 134217727) HT_ rfl rfl (by kernel_rfl) (fun _ _ _ h => h) (by rfl)
    · intro _; go_simp; with_reducible rfl
    · go_simp; rfl
    apply pu_ 27 (some 53) (bz_ 29 268435455) HT_ rfl rfl (by kernel_rfl) (fun _ _ _ h => h) (by rfl)
    · intro _; go_simp; with_reducible rfl
    · go_simp; rfl
    apply pu_ 28 (some 4) (bz_ 29 536870911) HT_ rfl rfl (by kernel_rfl) (fun _ _ _ h => h) (by rfl)
    · intro _; go_simp; with_reducible rfl
    · go_simp; rfl
    refine done_ (done_of HT_.out (by kernel_rfl)) ?_
    clear HT_ hHeld hS
    go_wp2_with fail
    go_ret
    exact ⟨rfl, HB.out⟩
  · have hc1 : (c == 0) = false := by simpa using hc
    have hc2 : (c != 0) = true := by simpa using hc
    clear hc
    go_wp2_with fail
    refine start_ (n := 29) (S := fun w' => w'.cell? ⟨w.heap.size, 0, none⟩ = some (.slice A0 D.code.length c0) ∧ w'.cell? ⟨w.heap.size, 1, none⟩ = some (.slice A1 D.origs.length c1) ∧ w'.cell? ⟨w.heap.size, 2, none⟩ = some (.slice A2 D.dests.length c2) ∧ w'.cell? ⟨w.heap.size, 3, none⟩ = some (.slice A3 D.loops.length c3) ∧ w'.cell? ⟨w.heap.size, 4, none⟩ = some (.slice A4 D.cases.length c4) ∧ w'.cell? ⟨g5, 0, none⟩ = some (.slice B0 D.code.length b0) ∧ w'.cell? ⟨g5, 1, none⟩ = some (.slice B1 D.origs.length b1) ∧ w'.cell? ⟨g5, 2, none⟩ = some (.slice B2 D.dests.length b2) ∧ w'.cell? ⟨g5, 3, none⟩ = some (.slice B3 D.loops.length b3) ∧ w'.cell? ⟨g5, 4, none⟩ = some (.slice B4 D.cases.length b4) ∧ w'.cell? ⟨g6, 0, none⟩ = some (.slice P0 E.code.length p0) ∧ w'.cell? ⟨g6, 1, none⟩ = some (.slice P1 E.origs.length p1) ∧ w'.cell? ⟨g6, 2, none⟩ = some (.slice P2 E.dests.length p2) ∧ w'.cell? ⟨g6, 3, none⟩ = some (.slice P3 E.loops.length p3) ∧ w'.cell? ⟨g6, 4, none⟩ = some (.slice P4 E.cases.length p4) ∧ w'.cell? ⟨g8, 0, none⟩ = some (.slice Q0 E.code.length q0) ∧ w'.cell? ⟨g8, 1, none⟩ = some (.slice Q1 E.origs.length q1) ∧ w'.cell? ⟨g8, 2, none⟩ = some (.slice Q2 E.dests.length q2) ∧ w'.cell? ⟨g8, 3, none⟩ = some (.slice Q3 E.loops.length q3) ∧ w'.cell? ⟨g8, 4, none⟩ = some (.slice Q4 E.cases.length q4)) (ds := []) (bz_ 29 0) (by kernel_rfl) rfl rfl (hS) (fun hHeld => ?_)
    refine with_tab (rfl : rtab .any (opsOf Try.f3 6) = rtab .any (opsOf Try.f3 6)) (fun HT_ => ?_)
    have hbd := below_drew (Below.refl w7.heap.size w7)
    replace HB := Aside0.mk (below_step HB.out hbd)
    replace HD := Aside0.mk (blk_below HD.out hbd)
    replace H := Aside0.mk (H.out.below hbd)
    replace H5 := Aside0.mk (H5.out.below hbd)
    replace HX5 := Aside0.mk (blk_below HX5.out hbd)
    replace H6 := Aside0.mk (H6.out.below hbd)
    replace HX6 := Aside0.mk (blk_below HX6.out hbd)
    replace H8 := Aside0.mk (H8.out.below hbd)
    replace HX8 := Aside0.mk (blk_below HX8.out hbd)
    clear hS hbd
    generalize w7.drew = wd at HB HD H H5 HX5 H6 HX6 H8 HX8 hHeld ⊢
    apply tk_ 0 (some 26) (bz_ 29 1) HT_ hHeld rfl rfl (by kernel_rfl) (fun _ _ _ h => h) (by rfl)
    · intro _ hS; go_split_ands; go_simp; with_reducible rfl
    · go_simp; rfl
    apply tk_ 2 (some 28) (bz_ 29 5) HT_ hHeld rfl rfl (by kernel_rfl) (fun _ _ _ h => h) (by rfl)
    · intro _ hS; go_split_ands; go_simp; with_reducible rfl
    · go_simp; rfl
    refine one_ (i := 1) (N := some 27) (bz_ 29 7) rfl rfl (one_of HT_.out (by kernel_rfl)) (by decide) (fun K hK => ?_)
    refine goes_ Try.func12 (by kernel_rfl) rfl #[drV A0 A1 A2 A3 A4 c0 c1 c2 c3 c4 D.code.length D.origs.length D.dests.length D.loops.length D.cases.length] (by rfl) rfl rfl (by simp only [List.map_toArray, List.map_cons, List.map_nil]; rfl) ?_
    with_reducible refine (formedF H.out HFD.out).mono ?_
    rintro e we1 ⟨rfl, hb⟩
    refine ⟨_, rfl, ?_⟩
    replace HB := Aside0.mk (below_step HB.out hb)
    replace HD := Aside0.mk (blk_below HD.out hb)
    replace H := Aside0.mk (H.out.below hb)
    replace H5 := Aside0.mk (H5.out.below hb)
    replace HX5 := Aside0.mk (blk_below HX5.out hb)
    replace H6 := Aside0.mk (H6.out.below hb)
    replace HX6 := Aside0.mk (blk_below HX6.out hb)
    replace H8 := Aside0.mk (H8.out.below hb)
    replace HX8 := Aside0.mk (blk_below HX8.out hb)
    clear hb
    have hS := sA HD.out HX5.out HX6.out HX8.out
    refine hK.out _ _ (hS) (fun hHeld => ?_)
    clear hK K
    refine norm_ (a' := ?_) ?_ ?_
    rotate_left
    · show Act.put _ (some 27) _ = _
      simp only [Act.put, List.setIfInBounds_toArray, List.set_cons_zero, List.set_cons_succ, i64_w, i32_w]
      rfl
    refine one_ (i := 3) (N := some 29) (bz_ 29 15) rfl rfl (one_of HT_.out (by kernel_rfl)) (by decide) (fun K hK => ?_)
    refine goes_ Try.func13 (by kernel_rfl) rfl #[drV A0 A1 A2 A3 A4 c0 c1 c2 c3 c4 D.code.length D.origs.length D.dests.length D.loops.length D.cases.length] (by rfl) rfl rfl (by simp only [List.map_toArray, List.map_cons, List.map_nil]; rfl) ?_
    with_reducible refine (rformedF H.out HFD.out).mono ?_
    rintro e we2 ⟨rfl, hb⟩
    refine ⟨_, rfl, ?_⟩
    replace HB := Aside0.mk (below_step HB.out hb)
    replace HD := Aside0.mk (blk_below HD.out hb)
    replace H := Aside0.mk (H.out.below hb)
    replace H5 := Aside0.mk (H5.out.below hb)
    replace HX5 := Aside0.mk (blk_below HX5.out hb)
    replace H6 := Aside0.mk (H6.out.below hb)
    replace HX6 := Aside0.mk (blk_below HX6.out hb)
    replace H8 := Aside0.mk (H8.out.below hb)
    replace HX8 := Aside0.mk (blk_below HX8.out hb)
    clear hb
    have hS := sA HD.out HX5.out HX6.out HX8.out
    refine hK.out _ _ (hS) (fun hHeld => ?_)
    clear hK K
    refine norm_ (a' := ?_) ?_ ?_
    rotate_left
    · show Act.put _ (some 29) _ = _
      simp only [Act.put, List.setIfInBounds_toArray, List.set_cons_zero, List.set_cons_succ, i64_w, i32_w]
      rfl
    apply pu_ 4 (some 30) (bz_ 29 31) HT_ rfl rfl (by kernel_rfl) (fun _ _ _ h => h) (by rfl)
    · intro _; go_simp; with_reducible rfl
    · go_simp; rfl
    apply pu_ 5 (some 31) (bz_ 29 63) HT_ rfl rfl (by kernel_rfl) (fun _ _ _ h => h) (by rfl)
    · intro _; go_simp; with_reducible rfl
    · go_simp; rfl
    apply tk_ 6 (some 32) (bz_ 29 127) HT_ hHeld rfl rfl (by kernel_rfl) (fun _ _ _ h => h) (by rfl)
    · intro _ hS; go_split_ands; go_simp; with_reducible rfl
    · go_simp; rfl
    apply tk_ 7 (some 33) (bz_ 29 255) HT_ hHeld rfl rfl (by kernel_rfl) (fun _ _ _ h => h) (by rfl)
    · intro _ hS; go_split_ands; go_simp; with_reducible rfl
    · go_simp; rfl
    refine one_ (i := 8) (N := some 34) (bz_ 29 511) rfl rfl (one_of HT_.out (by kernel_rfl)) (by decide) (fun K hK => ?_)
    refine goes_ Try.func14 (by kernel_rfl) rfl #[drV P0 P1 P2 P3 P4 p0 p1 p2 p3 p4 E.code.length E.origs.length E.dests.length E.loops.length E.cases.length, drV Q0 Q1 Q2 Q3 Q4 q0 q1 q2 q3 q4 E.code.length E.origs.length E.dests.length E.loops.length E.cases.length] (by rfl) rfl rfl (by simp only [List.map_toArray, List.map_cons, List.map_nil]; rfl) ?_
    with_reducible refine (same_calls H6.out.drc H8.out.drc HNE.out (by omega)).mono ?_
    rintro e we3 ⟨rfl, hb⟩
    refine ⟨_, rfl, ?_⟩
    replace HB := Aside0.mk (below_step HB.out hb)
    replace HD := Aside0.mk (blk_below HD.out hb)
    replace H := Aside0.mk (H.out.below hb)
    replace H5 := Aside0.mk (H5.out.below hb)
    replace HX5 := Aside0.mk (blk_below HX5.out hb)
    replace H6 := Aside0.mk (H6.out.below hb)
    replace HX6 := Aside0.mk (blk_below HX6.out hb)
    replace H8 := Aside0.mk (H8.out.below hb)
    replace HX8 := Aside0.mk (blk_below HX8.out hb)
    clear hb
    have hS := sA HD.out HX5.out HX6.out HX8.out
    refine hK.out _ _ (hS) (fun hHeld => ?_)
    clear hK K
    refine norm_ (a' := ?_) ?_ ?_
    rotate_left
    · show Act.put _ (some 34) _ = _
      simp only [Act.put, List.setIfInBounds_toArray, List.set_cons_zero, List.set_cons_succ, i64_w, i32_w]
      rfl
    apply pu_ 9 (some 35) (bz_ 29 1023) HT_ rfl rfl (by kernel_rfl) (fun _ _ _ h => h) (by rfl)
    · intro _; go_simp; with_reducible rfl
    · go_simp; rfl
    apply pu_ 10 (some 36) (bz_ 29 2047) HT_ rfl rfl (by kernel_rfl) (fun _ _ _ h => h) (by rfl)
    · intro _; go_simp; with_reducible rfl
    · go_simp; rfl
    apply pu_ 11 (some 37) (bz_ 29 4095) HT_ rfl rfl (by kernel_rfl) (fun _ _ _ h => h) (by rfl)
    · intro _; go_simp; with_reducible rfl
    · go_simp; rfl
    apply pu_ 12 (some 38) (bz_ 29 8191) HT_ rfl rfl (by kernel_rfl) (fun _ _ _ h => h) (by rfl)
    · intro _; go_simp; with_reducible rfl
    · go_simp; rfl
    apply pu_ 13 (some 39) (bz_ 29 16383) HT_ rfl rfl (by kernel_rfl) (fun _ _ _ h => h) (by rfl)
    · intro _; go_simp; with_reducible rfl
    · go_simp; rfl
    apply pu_ 14 (some 40) (bz_ 29 32767) HT_ rfl rfl (by kernel_rfl) (fun _ _ _ h => h) (by rfl)
    · intro _; go_simp; with_reducible rfl
    · go_simp; rfl
    apply pu_ 15 (some 41) (bz_ 29 65535) HT_ rfl rfl (by kernel_rfl) (fun _ _ _ h => h) (by rfl)
    · intro _; go_simp; with_reducible rfl
    · go_simp; rfl
    apply tk_ 16 (some 42) (bz_ 29 131071) HT_ hHeld rfl rfl (by kernel_rfl) (fun _ _ _ h => h) (by rfl)
    · intro _ hS; go_split_ands; go_simp; with_reducible rfl
    · go_simp; rfl
    apply tk_ 17 (some 43) (bz_ 29 262143) HT_ hHeld rfl rfl (by kernel_rfl) (fun _ _ _ h => h) (by rfl)
    · intro _ hS; go_split_ands; go_simp; with_reducible rfl
    · go_simp; rfl
    refine one_ (i := 18) (N := some 44) (bz_ 29 524287) rfl rfl (one_of HT_.out (by kernel_rfl)) (by decide) (fun K hK => ?_)
    refine goes_ Try.func14 (by kernel_rfl) rfl #[drV B0 B1 B2 B3 B4 b0 b1 b2 b3 b4 D.code.length D.origs.length D.dests.length D.loops.length D.cases.length, drV A0 A1 A2 A3 A4 c0 c1 c2 c3 c4 D.code.length D.origs.length D.dests.length D.loops.length D.cases.length] (by rfl) rfl rfl (by simp only [List.map_toArray, List.map_cons, List.map_nil]; rfl) ?_
    with_reducible refine (same_calls H5.out.drc H.out HN.out (by omega)).mono ?_
    rintro e we4 ⟨rfl, hb⟩
    refine ⟨_, rfl, ?_⟩
    replace HB := Aside0.mk (below_step HB.out hb)
    replace HD := Aside0.mk (blk_below HD.out hb)
    replace H := Aside0.mk (H.out.below hb)
    replace H5 := Aside0.mk (H5.out.below hb)
    replace HX5 := Aside0.mk (blk_below HX5.out hb)
    replace H6 := Aside0.mk (H6.out.below hb)
    replace HX6 := Aside0.mk (blk_below HX6.out hb)
    replace H8 := Aside0.mk (H8.out.below hb)
    replace HX8 := Aside0.mk (blk_below HX8.out hb)
    clear hb
    have hS := sA HD.out HX5.out HX6.out HX8.out
    refine hK.out _ _ (hS) (fun hHeld => ?_)
    clear hK K
    refine norm_ (a' := ?_) ?_ ?_
    rotate_left
    · show Act.put _ (some 44) _ = _
      simp only [Act.put, List.setIfInBounds_toArray, List.set_cons_zero, List.set_cons_succ, i64_w, i32_w]
      rfl
    apply pu_ 19 (some 45) (bz_ 29 1048575) HT_ rfl rfl (by kernel_rfl) (fun _ _ _ h => h) (by rfl)
    · intro _; go_simp; with_reducible rfl
    · go_simp; rfl
    apply pu_ 20 (some 46) (bz_ 29 2097151) HT_ rfl rfl (by kernel_rfl) (fun _ _ _ h => h) (by rfl)
    · intro _; go_simp; with_reducible rfl
    · go_simp; rfl
    apply pu_ 21 (some 47) (bz_ 29 4194303) HT_ rfl rfl (by kernel_rfl) (fun _ _ _ h => h) (by rfl)
    · intro _; go_simp; with_reducible rfl
    · go_simp; rfl
    apply pu_ 22 (some 48) (bz_ 29 8388607) HT_ rfl rfl (by kernel_rfl) (fun _ _ _ h => h) (by rfl)
    · intro _; go_simp; with_reducible rfl
    · go_simp; rfl
    apply pu_ 23 (some 49) (bz_ 29 16777215) HT_ rfl rfl (by kernel_rfl) (fun _ _ _ h => h) (by rfl)
    · intro _; go_simp; with_reducible rfl
    · go_simp; rfl
    apply sk_ 24 (some 50) (bz_ 29 33554431) HT_ rfl rfl (by kernel_rfl) (fun _ _ _ h => h) (by rfl)
    · go_simp; rfl
    apply sk_ 25 (some 51) (bz_ 29 67108863) HT_ rfl rfl (by kernel_rfl) (fun _ _ _ h => h) (by rfl)
    · go_simp; rfl
    apply pu_ 26 (some 52) (bz_ 29 134217727) HT_ rfl rfl (by kernel_rfl) (fun _ _ _ h => h) (by rfl)
    · intro _; go_simp; with_reducible rfl
    · go_simp; rfl
    apply pu_ 27 (some 53) (bz_ 29 268435455) HT_ rfl rfl (by kernel_rfl) (fun _ _ _ h => h) (by rfl)
    · intro _; go_simp; with_reducible rfl
    · go_simp; rfl
    apply pu_ 28 (some 4) (bz_ 29 536870911) HT_ rfl rfl (by kernel_rfl) (fun _ _ _ h => h) (by rfl)
    · intro _; go_simp; with_reducible rfl
    · go_simp; rfl
    refine done_ (done_of HT_.out (by kernel_rfl)) ?_
    clear HT_ hHeld hS
    go_wp2_with fail
    go_ret
    exact ⟨rfl, HB.out⟩
end Go.Proofs.Ytmglkgjnhoojaaa.PCodeRows
