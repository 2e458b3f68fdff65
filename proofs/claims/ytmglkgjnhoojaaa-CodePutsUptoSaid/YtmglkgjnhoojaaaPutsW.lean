/- CodePuts (4) walked: on any draft, for any instruction, it answers true. -/
import Derived.Test.YtmglkgjnhoojaaaRPut
import Derived.Test.YtmglkgjnhoojaaagI
import Derived.Test.YtmglkgjnhoojaaagF
namespace Go.Proofs.Ytmglkgjnhoojaaa.PCodeRows
open Go.RowKit Go.Proofs.YtmglkgjnhoojaaaW.PrintWords Go.Proofs.YtmglkgjnhoojaaaW.PrintLast Go.Proofs.YtmglkgjnhoojaaaW.PrintMore
set_option linter.unusedVariables false
set_option linter.unusedSimpArgs false
theorem rputU {A0 A1 A2 A3 A4 : Option Addr} {c0 c1 c2 c3 c4 N : Nat} {d E : Dr} {W : World} {c : Int} (h : DrC W A0 A1 A2 A3 A4 c0 c1 c2 c3 c4 d.code d.origs d.dests d.loops d.cases) (hN : Bnd d N) (hN2 : N ≤ 1099511627776) {k n : Int} (hn : 0 ≤ n ∧ n < 4294967296) (hE : outP (putR d k n) = (E, c)) :
    Calls Try.prog 16 #[drV A0 A1 A2 A3 A4 c0 c1 c2 c3 c4 d.code.length d.origs.length d.dests.length d.loops.length d.cases.length, .agg #[.int .i64 k, .int .u32 n]] W (UPost W E c) :=
  (rput_calls A0 A1 A2 A3 A4 c0 c1 c2 c3 c4 d.code d.origs d.dests d.loops d.cases k n W h (hN.small hN2) (hN.room hN2) hn.1 hn.2).mono fun e w' hp => upost_of hp hE
theorem putUD {A0 A1 A2 A3 A4 : Option Addr} {c0 c1 c2 c3 c4 N : Nat} {d E : Dr} {W : World} {c : Int} (h : DrC W A0 A1 A2 A3 A4 c0 c1 c2 c3 c4 d.code d.origs d.dests d.loops d.cases) (hN : Bnd d N) (hN2 : N ≤ 1099511627776) {k n : Int} (hn : 0 ≤ n ∧ n < 4294967296) (hE : outP (putR d k n) = (E, c)) :
    Calls Try.prog 15 #[drV A0 A1 A2 A3 A4 c0 c1 c2 c3 c4 d.code.length d.origs.length d.dests.length d.loops.length d.cases.length, .agg #[.int .i64 k, .int .u32 n]] W (UPost W E c) :=
  (put_calls A0 A1 A2 A3 A4 c0 c1 c2 c3 c4 d.code d.origs d.dests d.loops d.cases k n W h (hN.small hN2) hn.1 hn.2).mono fun e w' hp => upost_of hp hE
theorem bnd_out {d E : Dr} {k n c : Int} {N : Nat} (h : Bnd d N) (hE : outP (putR d k n) = (E, c)) : Bnd E (N + 1) := by
  unfold putR at hE
  split at hE
  · cases hp : putP d k n with
    | inl d' => rw [hp] at hE; injection hE with h1 _; subst h1; exact h.put hp
    | inr c' => rw [hp] at hE; injection hE with h1 _; subst h1; exact bnd_zdr _
  · injection hE with h1 _; subst h1; exact bnd_zdr _
/-- What Finish answers: the code (or none), and the error. -/
def FU (w : World) (code : List S37) (c : Int) (e : Ending) (w' : World) : Prop :=
  Below w.heap.size w w' ∧ ∃ A b, e = .returned (.tuple #[.slice A code.length b, .int .i64 c]) ∧ Kd.C k37 w' A code.length code ∧ code.length ≤ b
def outF : List S37 ⊕ Int → List S37 × Int
  | .inl l => (l, 0)
  | .inr c => ([], c)
theorem fu_of {w w' : World} {r : List S37 ⊕ Int} {e : Ending} (h : FPost w r e w') {l : List S37} {c : Int} (hr : outF r = (l, c)) : FU w l c e w' := by
  cases r with
  | inl d' =>
    injection hr with h1 h2
    subst h1 h2
    obtain ⟨hb, A, b, rfl, hR⟩ := h
    have h2 := Kd.R_reads' hR
    exact ⟨hb, A, b, rfl, h2.2.2, h2.1 ▸ h2.2.1⟩
  | inr c' =>
    injection hr with h1 h2
    subst h1 h2
    obtain ⟨hb, rfl⟩ := h
    exact ⟨hb, none, 0, rfl, Kd.C_nil _ _, Nat.le_refl _⟩
theorem finU {A0 A1 A2 A3 A4 : Option Addr} {c0 c1 c2 c3 c4 N : Nat} {d : Dr} {W : World} {c : Int} {l : List S37} (h : DrC W A0 A1 A2 A3 A4 c0 c1 c2 c3 c4 d.code d.origs d.dests d.loops d.cases) (hN : Bnd d N) (hN2 : N ≤ 1099511627776) (hE : outF (finP d.code d.origs d.dests d.loops d.cases) = (l, c)) :
    Calls Try.prog 17 #[drV A0 A1 A2 A3 A4 c0 c1 c2 c3 c4 d.code.length d.origs.length d.dests.length d.loops.length d.cases.length] W (FU W l c) :=
  (finish_calls A0 A1 A2 A3 A4 c0 c1 c2 c3 c4 d.code d.origs d.dests d.loops d.cases W h (hN.small hN2)).mono fun e w' hp => fu_of hp hE
theorem rfinU {A0 A1 A2 A3 A4 : Option Addr} {c0 c1 c2 c3 c4 N : Nat} {d : Dr} {W : World} {c : Int} {l : List S37} (h : DrC W A0 A1 A2 A3 A4 c0 c1 c2 c3 c4 d.code d.origs d.dests d.loops d.cases) (hN : Bnd d N) (hN2 : N ≤ 1099511627776) (hE : outF (finP d.code d.origs d.dests d.loops d.cases) = (l, c)) :
    Calls Try.prog 18 #[drV A0 A1 A2 A3 A4 c0 c1 c2 c3 c4 d.code.length d.origs.length d.dests.length d.loops.length d.cases.length] W (FU W l c) :=
  (rfin_calls A0 A1 A2 A3 A4 c0 c1 c2 c3 c4 d.code d.origs d.dests d.loops d.cases W h (hN.small hN2) (hN.room hN2)).mono fun e w' hp => fu_of hp hE
abbrev bx (A0 A1 A2 A3 A4 : Option Addr) (c0 c1 c2 c3 c4 : Nat) (D : Dr) : Obj := .cells #[.slice A0 D.code.length c0, .slice A1 D.origs.length c1, .slice A2 D.dests.length c2, .slice A3 D.loops.length c3, .slice A4 D.cases.length c4] 26

set_option maxHeartbeats 8000000 in
theorem puts_calls (A0 A1 A2 A3 A4 : Option Addr) (c0 c1 c2 c3 c4 : Nat) (D : Dr) (x : S37) (w : World) (h : DrC w A0 A1 A2 A3 A4 c0 c1 c2 c3 c4 D.code D.origs D.dests D.loops D.cases) (hN : Bnd D 1048576) (hu : ∀ x ∈ D.code, 0 ≤ x.f1 ∧ x.f1 < 4294967296) (hx : 0 ≤ x.f1 ∧ x.f1 < 4294967296) :
    Calls Try.prog 4 #[drV A0 A1 A2 A3 A4 c0 c1 c2 c3 c4 D.code.length D.origs.length D.dests.length D.loops.length D.cases.length, .agg #[.int .i64 x.f0, .int .u32 x.f1]] w fun e w' => e = .returned (.bool true) ∧ Below w.heap.size w w' := by
  obtain ⟨⟨E, c⟩, hE⟩ : ∃ p, outP (putR D x.f0 x.f1) = p := ⟨_, rfl⟩
  obtain ⟨⟨F, f⟩, hF⟩ : ∃ p, outF (finP D.code D.origs D.dests D.loops D.cases) = p := ⟨_, rfl⟩
  have HE := Aside0.mk hE
  have HF := Aside0.mk hF
  have HNE := Aside0.mk (bnd_out hN hE)
  have HN := Aside0.mk hN
  have HXN := Aside0.mk hx
  have hsz : (w.alloc (bx A0 A1 A2 A3 A4 c0 c1 c2 c3 c4 D)).heap.size = w.heap.size + 1 := by simp
  have HD0 := blk_alloc (blk_new w (bx A0 A1 A2 A3 A4 c0 c1 c2 c3 c4 D)) (.cells #[.int .i64 x.f0, .int .u32 x.f1] 37)
  have HO0 := blk_new (w.alloc (bx A0 A1 A2 A3 A4 c0 c1 c2 c3 c4 D)) (.cells #[.int .i64 x.f0, .int .u32 x.f1] 37)
  rw [hsz] at HO0
  have HB0 := below_alloc (below_alloc (Below.refl w.heap.size w) (bx A0 A1 A2 A3 A4 c0 c1 c2 c3 c4 D)) (.cells #[.int .i64 x.f0, .int .u32 x.f1] 37)
  have H := Aside0.mk (h.below HB0)
  have HD := Aside0.mk HD0
  have HO := Aside0.mk HO0
  have HB := Aside0.mk HB0
  clear hE hF hN hu hx hsz HD0 HO0 HB0 h
  go_enter Try.func4, Try.ntmps4
  go_wp2_with fail
  generalize (w.alloc (.cells #[.slice A0 D.code.length c0, .slice A1 D.origs.length c1, .slice A2 D.dests.length c2, .slice A3 D.loops.length c3, .slice A4 D.cases.length c4] 26)).alloc (.cells #[.int .i64 x.f0, .int .u32 x.f1] 37) = wa at H HD HO HB ⊢
  refine (alive_calls wa).mono ?_
  rintro e wb ⟨rfl, hb⟩
  replace HB := Aside0.mk (below_step HB.out hb)
  replace HD := Aside0.mk (blk_below HD.out hb)
  replace HO := Aside0.mk (blk_below HO.out hb)
  replace H := Aside0.mk (H.out.below hb)
  clear hb
  have k0 := (blk_cell HD.out 0).trans rfl
  have k1 := (blk_cell HD.out 1).trans rfl
  have k2 := (blk_cell HD.out 2).trans rfl
  have k3 := (blk_cell HD.out 3).trans rfl
  have k4 := (blk_cell HD.out 4).trans rfl
  go_wp2_with fail
  clear k0 k1 k2 k3 k4
  refine (copy_calls A0 A1 A2 A3 A4 c0 c1 c2 c3 c4 D.code D.origs D.dests D.loops D.cases wb H.out (HN.out.small (by omega)) (HN.out.room (by omega))).mono ?_
  rintro e w2 ⟨B0, B1, B2, B3, B4, b0, b1, b2, b3, b4, oo, rfl, h5, hb⟩
  replace HB := Aside0.mk (below_step HB.out hb)
  replace HD := Aside0.mk (blk_below HD.out hb)
  replace HO := Aside0.mk (blk_below HO.out hb)
  replace H := Aside0.mk (H.out.below hb)
  have hal := below_alloc (Below.refl _ w2) (bx B0 B1 B2 B3 B4 b0 b1 b2 b3 b4 D)
  replace HB := Aside0.mk (below_step HB.out hal)
  replace HD := Aside0.mk (blk_below HD.out hal)
  replace HO := Aside0.mk (blk_below HO.out hal)
  replace H := Aside0.mk (H.out.below hal)
  have H5 := Aside0.mk (h5.below hal)
  have HX5 := Aside0.mk (blk_new w2 (bx B0 B1 B2 B3 B4 b0 b1 b2 b3 b4 D))
  clear h5 hb hal
  have k0 := (blk_cell HX5.out 0).trans rfl
  have k1 := (blk_cell HX5.out 1).trans rfl
  have k2 := (blk_cell HX5.out 2).trans rfl
  have k3 := (blk_cell HX5.out 3).trans rfl
  have k4 := (blk_cell HX5.out 4).trans rfl
  have o0 : (w2.alloc (.cells #[.slice B0 D.code.length b0, .slice B1 D.origs.length b1, .slice B2 D.dests.length b2, .slice B3 D.loops.length b3, .slice B4 D.cases.length b4] 26)).cell? ⟨w.heap.size + 1, 0, none⟩ = some (.int .i64 x.f0) := (blk_cell HO.out 0).trans rfl
  have o1 : (w2.alloc (.cells #[.slice B0 D.code.length b0, .slice B1 D.origs.length b1, .slice B2 D.dests.length b2, .slice B3 D.loops.length b3, .slice B4 D.cases.length b4] 26)).cell? ⟨w.heap.size + 1, 1, none⟩ = some (.int .u32 x.f1) := (blk_cell HO.out 1).trans rfl
  go_wp2_with fail
  clear k0 k1 k2 k3 k4 o0 o1
  generalize w2.alloc (.cells #[.slice B0 D.code.length b0, .slice B1 D.origs.length b1, .slice B2 D.dests.length b2, .slice B3 D.loops.length b3, .slice B4 D.cases.length b4] 26) = w3 at HB HD HO H H5 HX5 ⊢
  generalize w2.heap.size = g5 at HX5 ⊢
  refine (putUD H5.out.drc HN.out (by omega) HXN.out HE.out).mono ?_
  rintro e w4 ⟨hb, P0, P1, P2, P3, P4, p0, p1, p2, p3, p4, op, rfl, h5⟩
  replace HB := Aside0.mk (below_step HB.out hb)
  replace HD := Aside0.mk (blk_below HD.out hb)
  replace HO := Aside0.mk (blk_below HO.out hb)
  replace H := Aside0.mk (H.out.below hb)
  replace H5 := Aside0.mk (H5.out.below hb)
  replace HX5 := Aside0.mk (blk_below HX5.out hb)
  have hal := below_alloc (Below.refl _ w4) (bx P0 P1 P2 P3 P4 p0 p1 p2 p3 p4 E)
  replace HB := Aside0.mk (below_step HB.out hal)
  replace HD := Aside0.mk (blk_below HD.out hal)
  replace HO := Aside0.mk (blk_below HO.out hal)
  replace H := Aside0.mk (H.out.below hal)
  replace H5 := Aside0.mk (H5.out.below hal)
  replace HX5 := Aside0.mk (blk_below HX5.out hal)
  have H6 := Aside0.mk (h5.below hal)
  have HX6 := Aside0.mk (blk_new w4 (bx P0 P1 P2 P3 P4 p0 p1 p2 p3 p4 E))
  clear h5 hb hal
  have k0 := (blk_cell HD.out 0).trans rfl
  have k1 := (blk_cell HD.out 1).trans rfl
  have k2 := (blk_cell HD.out 2).trans rfl
  have k3 := (blk_cell HD.out 3).trans rfl
  have k4 := (blk_cell HD.out 4).trans rfl
  have o0 : (w4.alloc (.cells #[.slice P0 E.code.length p0, .slice P1 E.origs.length p1, .slice P2 E.dests.length p2, .slice P3 E.loops.length p3, .slice P4 E.cases.length p4] 26)).cell? ⟨w.heap.size + 1, 0, none⟩ = some (.int .i64 x.f0) := (blk_cell HO.out 0).trans rfl
  have o1 : (w4.alloc (.cells #[.slice P0 E.code.length p0, .slice P1 E.origs.length p1, .slice P2 E.dests.length p2, .slice P3 E.loops.length p3, .slice P4 E.cases.length p4] 26)).cell? ⟨w.heap.size + 1, 1, none⟩ = some (.int .u32 x.f1) := (blk_cell HO.out 1).trans rfl
  go_wp2_with fail
  clear k0 k1 k2 k3 k4 o0 o1
  generalize w4.alloc (.cells #[.slice P0 E.code.length p0, .slice P1 E.origs.length p1, .slice P2 E.dests.length p2, .slice P3 E.loops.length p3, .slice P4 E.cases.length p4] 26) = w5 at HB HD HO H H5 HX5 H6 HX6 ⊢
  generalize w4.heap.size = g6 at HX6 ⊢
  refine (rputU H.out HN.out (by omega) HXN.out HE.out).mono ?_
  rintro e w6 ⟨hb, Q0, Q1, Q2, Q3, Q4, q0, q1, q2, q3, q4, oq, rfl, h5⟩
  replace HB := Aside0.mk (below_step HB.out hb)
  replace HD := Aside0.mk (blk_below HD.out hb)
  replace HO := Aside0.mk (blk_below HO.out hb)
  replace H := Aside0.mk (H.out.below hb)
  replace H5 := Aside0.mk (H5.out.below hb)
  replace HX5 := Aside0.mk (blk_below HX5.out hb)
  replace H6 := Aside0.mk (H6.out.below hb)
  replace HX6 := Aside0.mk (blk_below HX6.out hb)
  have hal := below_alloc (Below.refl _ w6) (bx Q0 Q1 Q2 Q3 Q4 q0 q1 q2 q3 q4 E)
  replace HB := Aside0.mk (below_step HB.out hal)
  replace HD := Aside0.mk (blk_below HD.out hal)
  replace HO := Aside0.mk (blk_below HO.out hal)
  replace H := Aside0.mk (H.out.below hal)
  replace H5 := Aside0.mk (H5.out.below hal)
  replace HX5 := Aside0.mk (blk_below HX5.out hal)
  replace H6 := Aside0.mk (H6.out.below hal)
  replace HX6 := Aside0.mk (blk_below HX6.out hal)
  have H8 := Aside0.mk (h5.below hal)
  have HX8 := Aside0.mk (blk_new w6 (bx Q0 Q1 Q2 Q3 Q4 q0 q1 q2 q3 q4 E))
  clear h5 hb hal
  have k0 := (blk_cell HX5.out 0).trans rfl
  have k1 := (blk_cell HX5.out 1).trans rfl
  have k2 := (blk_cell HX5.out 2).trans rfl
  have k3 := (blk_cell HX5.out 3).trans rfl
  have k4 := (blk_cell HX5.out 4).trans rfl
  go_wp2_with fail
  clear k0 k1 k2 k3 k4
  generalize w6.alloc (.cells #[.slice Q0 E.code.length q0, .slice Q1 E.origs.length q1, .slice Q2 E.dests.length q2, .slice Q3 E.loops.length q3, .slice Q4 E.cases.length q4] 26) = w7 at HB HD HO H H5 HX5 H6 HX6 H8 HX8 ⊢
  generalize w6.heap.size = g8 at HX8 ⊢
  refine (finU H5.out.drc HN.out (by omega) HF.out).mono ?_
  rintro e w8 ⟨hb, U, u, rfl, hU, hul⟩
  replace HB := Aside0.mk (below_step HB.out hb)
  replace HD := Aside0.mk (blk_below HD.out hb)
  replace HO := Aside0.mk (blk_below HO.out hb)
  replace H := Aside0.mk (H.out.below hb)
  replace H5 := Aside0.mk (H5.out.below hb)
  replace HX5 := Aside0.mk (blk_below HX5.out hb)
  replace H6 := Aside0.mk (H6.out.below hb)
  replace HX6 := Aside0.mk (blk_below HX6.out hb)
  replace H8 := Aside0.mk (H8.out.below hb)
  replace HX8 := Aside0.mk (blk_below HX8.out hb)
  have HU := Aside0.mk hU
  have HUL := Aside0.mk hul
  clear hb hU hul
  have k0 := (blk_cell HD.out 0).trans rfl
  have k1 := (blk_cell HD.out 1).trans rfl
  have k2 := (blk_cell HD.out 2).trans rfl
  have k3 := (blk_cell HD.out 3).trans rfl
  have k4 := (blk_cell HD.out 4).trans rfl
  go_wp2_with fail
  clear k0 k1 k2 k3 k4
  refine (rfinU H.out HN.out (by omega) HF.out).mono ?_
  rintro e w9 ⟨hb, V, v, rfl, hV, hvl⟩
  replace HB := Aside0.mk (below_step HB.out hb)
  replace HD := Aside0.mk (blk_below HD.out hb)
  replace HO := Aside0.mk (blk_below HO.out hb)
  replace H := Aside0.mk (H.out.below hb)
  replace H5 := Aside0.mk (H5.out.below hb)
  replace HX5 := Aside0.mk (blk_below HX5.out hb)
  replace H6 := Aside0.mk (H6.out.below hb)
  replace HX6 := Aside0.mk (blk_below HX6.out hb)
  replace H8 := Aside0.mk (H8.out.below hb)
  replace HX8 := Aside0.mk (blk_below HX8.out hb)
  replace HU := Aside0.mk (Kd.C_below HU.out hb)
  have HV := Aside0.mk hV
  have HVL := Aside0.mk hvl
  clear hb hV hvl
  have k0 := (blk_cell HX6.out 0).trans rfl
  have k1 := (blk_cell HX6.out 1).trans rfl
  have k2 := (blk_cell HX6.out 2).trans rfl
  have k3 := (blk_cell HX6.out 3).trans rfl
  have k4 := (blk_cell HX6.out 4).trans rfl
  have j0 := (blk_cell HX8.out 0).trans rfl
  have j1 := (blk_cell HX8.out 1).trans rfl
  have j2 := (blk_cell HX8.out 2).trans rfl
  have j3 := (blk_cell HX8.out 3).trans rfl
  have j4 := (blk_cell HX8.out 4).trans rfl
  have ec : (c == c) = true := by simp
  have ef : (f == f) = true := by simp
  go_wp2_with fail
  clear k0 k1 k2 k3 k4 j0 j1 j2 j3 j4
  refine (same_calls H6.out.drc H8.out.drc HNE.out (by omega)).mono ?_
  rintro e w10 ⟨rfl, hb⟩
  replace HB := Aside0.mk (below_step HB.out hb)
  replace HD := Aside0.mk (blk_below HD.out hb)
  replace HO := Aside0.mk (blk_below HO.out hb)
  replace H := Aside0.mk (H.out.below hb)
  replace H5 := Aside0.mk (H5.out.below hb)
  replace HX5 := Aside0.mk (blk_below HX5.out hb)
  replace H6 := Aside0.mk (H6.out.below hb)
  replace HX6 := Aside0.mk (blk_below HX6.out hb)
  replace H8 := Aside0.mk (H8.out.below hb)
  replace HX8 := Aside0.mk (blk_below HX8.out hb)
  replace HU := Aside0.mk (Kd.C_below HU.out hb)
  replace HV := Aside0.mk (Kd.C_below HV.out hb)
  clear hb
  go_wp2_with fail
  refine (sameOps_calls HU.out HUL.out HV.out HVL.out).mono ?_
  rintro e w11 ⟨rfl, hb⟩
  replace HB := Aside0.mk (below_step HB.out hb)
  replace HD := Aside0.mk (blk_below HD.out hb)
  replace HO := Aside0.mk (blk_below HO.out hb)
  replace H := Aside0.mk (H.out.below hb)
  replace H5 := Aside0.mk (H5.out.below hb)
  replace HX5 := Aside0.mk (blk_below HX5.out hb)
  replace H6 := Aside0.mk (H6.out.below hb)
  replace HX6 := Aside0.mk (blk_below HX6.out hb)
  replace H8 := Aside0.mk (H8.out.below hb)
  replace HX8 := Aside0.mk (blk_below HX8.out hb)
  replace HU := Aside0.mk (Kd.C_below HU.out hb)
  replace HV := Aside0.mk (Kd.C_below HV.out hb)
  clear hb
  have k0 := (blk_cell HX5.out 0).trans rfl
  have k1 := (blk_cell HX5.out 1).trans rfl
  have k2 := (blk_cell HX5.out 2).trans rfl
  have k3 := (blk_cell HX5.out 3).trans rfl
  have k4 := (blk_cell HX5.out 4).trans rfl
  have j0 := (blk_cell HD.out 0).trans rfl
  have j1 := (blk_cell HD.out 1).trans rfl
  have j2 := (blk_cell HD.out 2).trans rfl
  have j3 := (blk_cell HD.out 3).trans rfl
  have j4 := (blk_cell HD.out 4).trans rfl
  go_wp2_with fail
  clear k0 k1 k2 k3 k4 j0 j1 j2 j3 j4
  refine (same_calls H5.out.drc H.out HN.out (by omega)).mono ?_
  rintro e w12 ⟨rfl, hb⟩
  replace HB := Aside0.mk (below_step HB.out hb)
  replace HD := Aside0.mk (blk_below HD.out hb)
  replace HO := Aside0.mk (blk_below HO.out hb)
  replace H := Aside0.mk (H.out.below hb)
  clear hb
  go_wp2_with fail
  go_ret
  exact ⟨rfl, HB.out⟩
end Go.Proofs.Ytmglkgjnhoojaaa.PCodeRows
