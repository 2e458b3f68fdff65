/- CodeSound (5) walked: for each row of deeds it answers true. -/
import Derived.Test.YtmglkgjnhoojaaaBuild
import Derived.Test.YtmglkgjnhoojaaaSoundP
namespace Go.Proofs.Ytmglkgjnhoojaaa.PCodeRows
open Go.RowKit Go.Proofs.YtmglkgjnhoojaaaW.PrintWords Go.Proofs.YtmglkgjnhoojaaaW.PrintLast Go.Proofs.YtmglkgjnhoojaaaW.PrintMore
set_option linter.unusedVariables false
set_option linter.unusedSimpArgs false
theorem build0 (L : Option Addr) (cl : Nat) (l : List S48) (w : World) (hL : Kd.C k48 w L l.length l) (hn : ∀ x ∈ l, 0 ≤ x.f1.f1 ∧ x.f1.f1 < 4294967296) (hN2 : l.length ≤ 1099511627776) {D : Dr} {n : Nat} {c : Int} (hr : buildP zdr l 0 = (D, n, c)) :
    Calls Try.prog 20 #[drV none none none none none 0 0 0 0 0 0 0 0 0 0, .slice L l.length cl] w (LPost w (D, n, c)) :=
  hr ▸ build_calls zdr none none none none none 0 0 0 0 0 (fun _ => 0) L cl 0 l w (c5_nil w 0) hL hn (bnd_zdr 0) (by omega)
theorem fin_inl {D : Dr} {code : List S37} (hf : D.Fd) (h : finP D.code D.origs D.dests D.loops D.cases = .inl code) : code = D.code := by
  unfold finP at h
  rw [if_pos (formed_iff.2 hf)] at h
  split at h
  · cases h
  · injection h with h; exact h.symm
theorem fin_inr {D : Dr} {c : Int} (hf : D.Fd) (h : finP D.code D.origs D.dests D.loops D.cases = .inr c) : c = 13 := by
  unfold finP at h
  rw [if_pos (formed_iff.2 hf)] at h
  split at h
  · injection h with h; omega
  · cases h
set_option maxHeartbeats 2000000 in
theorem sound_calls (A : Option Addr) (cl : Nat) (l : List S48) (w : World) (hL : Kd.C k48 w A l.length l) (hn : ∀ x ∈ l, 0 ≤ x.f1.f1 ∧ x.f1.f1 < 4294967296) (hN2 : l.length ≤ 1099511627776) :
    Calls Try.prog 5 #[.slice A l.length cl] w fun e w' => e = .returned (.bool true) ∧ Below w.heap.size w w' := by
  obtain ⟨⟨D, n, c⟩, hr⟩ : ∃ r, buildP zdr l 0 = r := ⟨_, rfl⟩
  have hk := build_keeps l zdr 0 fd_zdr (fun c hc => by cases hc)
  have hbd := build_bnd l zdr 0 0 (bnd_zdr 0)
  rw [hr] at hk hbd
  obtain ⟨hf, hs, hc⟩ := hk
  have HF : Aside0 D.Fd := ⟨hf⟩
  have HS : Aside0 (Snd D.code) := ⟨hs⟩
  have HN : Aside0 (Bnd D l.length) := ⟨by simpa using hbd⟩
  have HN2 := Aside0.mk hN2
  have HB0 : Aside0 (∀ W, Below w.heap.size w W → Calls Try.prog 20 #[drV none none none none none 0 0 0 0 0 0 0 0 0 0, .slice A l.length cl] W (LPost W (D, n, c))) := ⟨fun W hb => build0 A cl l W (Kd.C_below hL hb) hn hN2 hr⟩
  clear hL hn hr hf hs hbd hN2
  go_enter Try.func5, Try.ntmps5
  go_wp2_with fail
  refine (alive_calls w).mono ?_
  rintro e w1 ⟨rfl, hb1⟩
  have HB1 := Aside0.mk hb1
  clear hb1
  go_wp2_with fail
  refine (HB0.out w1 HB1.out).mono ?_
  rintro e w2 ⟨hb2, A0, A1, A2, A3, A4, c0, c1, c2, c3, c4, o, rfl, h5⟩
  have HB2 := Aside0.mk (below_alloc (below_step HB1.out hb2) (.cells #[.slice A0 D.code.length c0, .slice A1 D.origs.length c1, .slice A2 D.dests.length c2, .slice A3 D.loops.length c3, .slice A4 D.cases.length c4] 26))
  have HX := Aside0.mk (blk_new w2 (.cells #[.slice A0 D.code.length c0, .slice A1 D.origs.length c1, .slice A2 D.dests.length c2, .slice A3 D.loops.length c3, .slice A4 D.cases.length c4] 26))
  have H5 := Aside0.mk (h5.below (below_alloc (Below.refl _ _) (.cells #[.slice A0 D.code.length c0, .slice A1 D.origs.length c1, .slice A2 D.dests.length c2, .slice A3 D.loops.length c3, .slice A4 D.cases.length c4] 26)))
  clear hb2 h5 HB0 HB1
  rcases hc with hc | hc
  · have hc : c = 0 := hc
    subst hc
    obtain ⟨r, hfin⟩ : ∃ r, finP D.code D.origs D.dests D.loops D.cases = r := ⟨_, rfl⟩
    have HFin := Aside0.mk hfin
    clear hfin
    have k0 := (blk_cell HX.out 0).trans rfl
    have k1 := (blk_cell HX.out 1).trans rfl
    have k2 := (blk_cell HX.out 2).trans rfl
    have k3 := (blk_cell HX.out 3).trans rfl
    have k4 := (blk_cell HX.out 4).trans rfl
    go_wp2_with fail
    clear k0 k1 k2 k3 k4
    generalize w2.alloc (.cells #[.slice A0 D.code.length c0, .slice A1 D.origs.length c1, .slice A2 D.dests.length c2, .slice A3 D.loops.length c3, .slice A4 D.cases.length c4] 26) = w3 at HB2 HX H5 ⊢
    generalize w2.heap.size = g at HX ⊢
    refine (finish_calls A0 A1 A2 A3 A4 c0 c1 c2 c3 c4 D.code D.origs D.dests D.loops D.cases w3 H5.out.drc (HN.out.small HN2.out)).mono ?_
    rintro e w4 hP
    rw [HFin.out] at hP
    cases r with
    | inr c =>
      obtain ⟨hb4, rfl⟩ := hP
      have hc := fin_inr HF.out HFin.out
      subst hc
      have HB4 := Aside0.mk (below_step HB2.out hb4)
      clear hb4
      go_wp2_with fail
      go_ret
      exact ⟨rfl, HB4.out⟩
    | inl code =>
      obtain ⟨hb4, B, b, rfl, hR⟩ := hP
      have hcode := fin_inl HF.out HFin.out
      subst hcode
      have HB4 := Aside0.mk (below_step HB2.out hb4)
      have HC := Aside0.mk (Kd.R_reads' hR).2.2
      have h256 : D.code.length ≤ 256 := HF.out.len
      clear hb4 hR HFin HX H5 HB2
      generalize D.code = code at HC HS h256 ⊢
      go_wp2_with fail
      go_loop [8] (fun s8 => ∃ kk : Nat, kk ≤ code.length ∧ s8 = .int .i64 kk) (fun s8 => code.length - (intOf s8).toNat)
      case atStart => exact ⟨0, Nat.zero_le _, rfl⟩
      case round =>
        obtain ⟨kk, hkk, rfl⟩ := hrel
        by_cases hlt : kk < code.length
        · have hltz : (kk : Int) < (code.length : Int) := by omega
          have p2 : (0 ≤ (kk : Int)) = True := eq_true (by omega)
          have p3 : ((kk : Int) < (code.length : Int)) = True := eq_true hltz
          obtain ⟨ad, e, g0, g1⟩ := at_T37 HC.out (kk : Int) (by omega) hltz
          cases e
          rw [Int.toNat_natCast] at g0 g1
          have hrd : rd_T37 code (kk : Int) = code[kk]'hlt := by simp [rd_T37, List.getD_eq_getElem?_getD, hlt]
          rw [hrd] at g0 g1
          have hs := HS.out _ (List.getElem_mem hlt)
          clear hrd
          generalize code[kk]'hlt = x at g0 g1 hs
          by_cases h3 : 3 ≤ x.f0
          · have q3 := decide_eq_true h3
            by_cases h10 : x.f0 ≤ 10
            · have q10 := decide_eq_true h10
              obtain ⟨s0, s1⟩ := hs h3 h10
              have q4 : decide ((code.length : Int) < x.f1) = false := decide_eq_false (by omega)
              have s2 : x.f1 ≤ 256 := by omega
              clear hs
              go_wp2_with fail
              go_round
              case rel => exact ⟨kk + 1, by omega, by go_num⟩
              case measure => simp [intOf]; omega
            · have q10 := decide_eq_false h10
              clear hs
              go_wp2_with fail
              go_round
              case rel => exact ⟨kk + 1, by omega, by go_num⟩
              case measure => simp [intOf]; omega
          · have q3 := decide_eq_false h3
            clear hs
            go_wp2_with fail
            go_round
            case rel => exact ⟨kk + 1, by omega, by go_num⟩
            case measure => simp [intOf]; omega
        · have hltz : ¬ (kk : Int) < (code.length : Int) := by omega
          have : kk = code.length := by omega
          subst this
          have q := decide_eq_true (show (code.length : Int) ≤ 256 by omega)
          go_wp2_with fail
          go_ret
          exact ⟨rfl, HB4.out⟩
  · rcases hc with hc | hc | hc
    all_goals
      have hc : c = _ := hc
      subst hc
      go_wp2_with fail
      go_ret
      exact ⟨rfl, HB2.out⟩
end Go.Proofs.Ytmglkgjnhoojaaa.PCodeRows
