/- CodeSound (5) walked: for each row of deeds it answers true. -/
import Derived.Test.YtmglkgjnhoojaaagG
import Derived.Test.YtmglkgjnhoojaaagH
namespace Go.Proofs.Ytmglkgjnhoojaaa.PCodeRows
open Go.RowKit Go.Proofs.YtmglkgjnhoojaaaW.PrintWords Go.Proofs.YtmglkgjnhoojaaaW.PrintLast Go.Proofs.YtmglkgjnhoojaaaW.PrintMore
set_option linter.unusedVariables false
set_option linter.unusedSimpArgs false
theorem build0 (L : Option Addr) (cl : Nat) (l : List S48) (w : World) (hL : Kd.C k48 w L l.length l) (hn : ∀ x ∈ l, 0 ≤ x.f1.f1 ∧ x.f1.f1 < 4294967296) (hN2 : l.length ≤ 1099511627776) {D : Dr} {n : Nat} {c : Int} (hr : buildP zdr l 0 = (D, n, c)) :
    Calls Try.prog 20 #[drV none none none none none 0 0 0 0 0 0 0 0 0 0, .slice L l.length cl] w (LPost w (D, n, c)) :=
  hr ▸ build_calls zdr none none none none none 0 0 0 0 0 (fun _ => 0) L cl 0 l w (c5_nil w 0) hL hn (bnd_zdr 0) (by omega)
theorem fin_inl {D : Dr} {code : List S37} (hf : D.Fd) (h : finP D.code D.origs D.dests D.loops D.cases = .inl code) : code = D.code := by
  unfold finP at h
  rw [if_pos (formed_iff.2 hf)] at h
  split at h
  · cases h
  · injection h with h; exact h.symm
theorem fin_inr {D : Dr} {c : Int} (hf : D.Fd) (h : finP D.code D.origs D.dests D.loops D.cases = .inr c) : c = 13 := by
  unfold finP at h
  rw [if_pos (formed_iff.2 hf)] at h
  split at h
  · injection h with h; omega
  · cases h
set_option maxHeartbeats 2000000 in
theorem sound_calls (A : Option Addr) (cl : Nat) (l : List S48) (w : World) (hL : Kd.C k48 w A l.length l) (hn : ∀ x ∈ l, 0 ≤ x.f1.f1 ∧ x.f1.f1 < 4294967296) (hN2 : l.length ≤ 1099511627776) :
    Calls Try.prog 5 #[.slice A l.length cl] w fun e w' => e = .returned (.bool true) ∧ Below w.heap.size w w' := by
  obtain ⟨⟨D, n, c⟩, hr⟩ : ∃ r, buildP zdr l 0 = r := ⟨_, rfl⟩
  have hk := build_keeps l zdr 0 fd_zdr (fun c hc => by cases hc)
  have hbd := build_bnd l zdr 0 0 (bnd_zdr 0)
  rw [hr] at hk hbd
  obtain ⟨hf, hs, hc⟩ := hk
  have HF : Aside0 D.Fd := ⟨hf⟩
  have HS : Aside0 (Snd D.code) := ⟨hs⟩
  have HN : Aside0 (Bnd D l.length) := ⟨by simpa using hbd⟩
  have HN2 := Aside0.mk hN2
  have HB0 : Aside0 (∀ W, Below w.heap.size w W → Calls Try.prog 20 #[drV none none none none none 0 0 0 0 0 0 0 0 0 0, .slice A l.length cl] W (LPost W (D, n, c))) := ⟨fun W hb => build0 A cl l W (Kd.C_below hL hb) hn hN2 hr⟩
  clear hL hn hr hf hs hbd hN2
  go_enter Try.func5, Try.ntmps5
  go_wp2_with fail
  refine (alive_calls w).mono ?_
  rintro e w1 ⟨rfl, hb1⟩
  have HB1 := Aside0.mk hb1
  clear hb1
  go_wp2_with fail
  refine (HB0.out w1 HB1.out).mono ?_
  rintro e w2 ⟨hb2, A0, A1, A2, A3, A4, c0, c1, c2, c3, c4, o, rfl, h5⟩
  have HB2 := Aside0.mk (below_alloc (below_step HB1.out hb2) (.cells #[.slice A0 D.code.length c0, .slice A1 D.origs.length c1, .slice A2 D.dests.length c2, .slice A3 D.loops.length c3, .slice A4 D.cases.length c4] 26))
  have HX := Aside0.mk (blk_new w2 (.cells #[.slice A0 D.code.length c0, .slice A1 D.origs.length c1, .slice A2 D.dests.length c2, .slice A3 D.loops.length c3, .slice A4 D.cases.length c4] 26))
  have H5 := Aside0.mk (h5.below (below_alloc (Below.refl _ _) (.cells #[.slice A0 D.code.length c0, .slice A1 D.origs.length c1, .slice A2 D.dests.length c2, .slice A3 D.loops.length c3, .slice A4 D.cases.length c4] 26)))
  clear hb2 h5 HB0 HB1
  rcases hc with hc | hc
  · have hc : c = 0 := hc
    subst hc
    obtain ⟨r, hfin⟩ : ∃ r, finP D.code D.origs D.dests D.loops D.cases = r := ⟨_, rfl⟩
    have HFin := Aside0.mk hfin
    clear hfin
    have k0 := (blk_cell HX.out 0).trans rfl
    have k1 := (blk_cell HX.out 1).trans rfl
    have k2 := (blk_cell HX.out 2).trans rfl
    have k3 := (blk_cell HX.out 3).trans rfl
    have k4 := (blk_cell HX.out 4).trans rfl
    go_wp2_with fail
    clear k0 k1 k2 k3 k4
    generalize w2.alloc (.cells #[.slice A0 D.code.length c0, .slice A1 D.origs.length c1, .slice A2 D.dests.length c2, .slice A3 D.loops.length c3, .slice A4 D.cases.length c4] 26) = w3 at HB2 HX H5 ⊢
    generalize w2.heap.size = g at HX ⊢
    refine (finish_calls A0 A1 A2 A3 A4 c0 c1 c2 c3 c4 D.code D.origs D.dests D.loops D.cases w3 H5.out.drc (HN.out.small HN2.out)).mono ?_
    rintro e w4 hP
    rw [HFin.out] at hP
    cases r with
    | inr c =>
      obtain ⟨hb4, rfl⟩ := hP
      have hc := fin_inr HF.out HFin.out
      subst hc
      have HB4 := Aside0.mk (below_step HB2.out hb4)
      clear hb4
      go_wp2_with fail
      go_ret
      exact ⟨rfl, HB4.out⟩
    | inl code =>
      obtain ⟨hb4, B, b, rfl, hR⟩ := hP
      have hcode := fin_inl HF.out HFin.out
      subst hcode
      have HB4 := Aside0.mk (below_step HB2.out hb4)
      have HC := Aside0.mk (Kd.R_reads' hR).2.2
      have h256 : D.code.length ≤ 256 := HF.out.len
      clear hb4 hR HFin HX H5 HB2
      generalize D.code = code at HC HS h256 ⊢
      go_wp2_with fail
      go_loop [8] (fun s8 => ∃ kk : Nat, kk ≤ code.length ∧ s8 = .int .i64 kk) (fun s8 => code.length - (intOf s8).toNat)
      case atStart => exact ⟨0, Nat.zero_le _, rfl⟩
      case round =>
        obtain ⟨kk, hkk, rfl⟩ := hrel
        by_cases hlt : kk < code.length
        · have hltz : (kk : Int) < (code.length : Int) := by omega
          have p2 : (0 ≤ (kk : Int)) = True := eq_true (by omega)
          have p3 : ((kk : Int) < (code.length : Int)) = True := eq_true hltz
          obtain ⟨ad, e, g0, g1⟩ := at_T37 HC.out (kk : Int) (by omega) hltz
          cases e
          rw [Int.toNat_natCast] at g0 g1
          have hrd : rd_T37 code (kk : Int) = code[kk]'hlt := by simp [rd_T37, List.getD_eq_getElem?_getD, hlt]
          rw [hrd] at g0 g1
          have hs := HS.out _ (List.getElem_mem hlt)
          clear hrd
          generalize code[kk]'hlt = x at g0 g1 hs
          by_cases h3 : 3 ≤ x.f0
          · have q3 := decide_eq_true h3
            by_cases h10 : x.f0 ≤ 10
            · have q10 := decide_eq_true h10
              obtain ⟨s0, s1⟩ := hs h3 h10
              have q4 : decide ((code.length : Int) < x.f1) = false := decide_eq_false (by omega)
              have s2 : x.f1 ≤ 256 := by omega
              clear hs
              go_wp2_with fail
              go_round
              case rel => exact ⟨kk + 1, by omega, by go_num⟩
              case measure => simp [intOf]; omega
            · have q10 := decide_eq_false h10
              clear hs
              go_wp2_with fail
              go_round
              case rel => exact ⟨kk + 1, by omega, by go_num⟩
              case measure => simp [intOf]; omega
          · have q3 := decide_eq_false h3
            clear hs
            go_wp2_with fail
            go_round
            case rel => exact ⟨kk + 1, by omega, by go_num⟩
            case measure => simp [intOf]; omega
        · have hltz : ¬ (kk : Int) < (code.length : Int) := by omega
          have : kk = code.length := by omega
          subst this
          have q := decide_eq_true (show (code.length : Int) ≤ 256 by omega)
          go_wp2_with fail
          go_ret
          exact ⟨rfl, HB4.out⟩
  · rcases hc with hc | hc | hc
    all_goals
      have hc : c = _ := hc
      subst hc
      go_wp2_with fail
      go_ret
      exact ⟨rfl, HB2.out⟩
end Go.Proofs.Ytmglkgjnhoojaaa.PCodeRows
/- CodeBetween (7) walked: for any two rows of deeds it answers true. -/
namespace Go.Proofs.Ytmglkgjnhoojaaa.PCodeRows
open Go.RowKit Go.Proofs.YtmglkgjnhoojaaaW.PrintWords Go.Proofs.YtmglkgjnhoojaaaW.PrintLast Go.Proofs.YtmglkgjnhoojaaaW.PrintMore
set_option linter.unusedVariables false
set_option linter.unusedSimpArgs false
/-- Behind an append to the code's row. -/
theorem C5.coded {w w1 : World} {base : Nat} {v0 v1 v2 v3 v4 v' : Value} {o : Nat → Nat} {code code' : List S37} {origs dests : List Int} {loops cases : List S59} (h : C5 w base v0 v1 v2 v3 v4 o code origs dests loops cases) (hg : w.grownBy w1 v0.ownBlock) (hR : Kd.R k37 37 w1 base (fun _ => True) v' code') :
    C5 w1 base v' v1 v2 v3 v4 o code' origs dests loops cases := by
  have hK : Kept w w1 (fun k => some k = v0.ownBlock) := ⟨hg.size, fun k hk hn => hg.block k hk hn⟩
  have away : ∀ {k q : Nat} {cells : Array Value}, q = 3 ∨ q = 59 → w.heap[k]? = some (.cells cells q (0, 0)) → ¬ some k = v0.ownBlock := by
    intro k q cells hq hk hk2
    obtain ⟨c2, h2⟩ := Kd.R_typed h.c3.hc k hk2.symm
    have := h2.symm.trans hk
    injection this with this
    injection this with _ h3
    rcases hq with rfl | rfl <;> exact absurd h3 (by decide)
  exact ⟨⟨hR, R_kept h.c3.ho hK (fun k q cells _ hq hc => away (q3 hq) hc), R_kept h.c3.hd hK (fun k q cells _ hq hc => away (q3 hq) hc)⟩, S_kept h.hl hK (fun k q cells _ hq hc => away (q59 hq) hc), S_kept h.hs hK (fun k q cells _ hq hc => away (q59 hq) hc)⟩
theorem R_append_at {α : Type} {P : Program} {ops : Array Oper} {rest : List Oper} {o : Oper} {a : Act} {Q : Exit → Act → World → Prop} (d : Kd α) {w0 W : World} (base g : Nat) (hW : W.heap.size = g) (hgd : o.guard = none) (s x : Operand) (t e : TypeId) (z : Value) (bytes : Nat)
    (ho : o.op = .call { callee := .builtin .append, args := #[s, x], argTypes := #[t, t] })
    (ht : P.underlying t = some (.slice e)) (hinfo : (P.info? e).map (fun i => (i.zero, i.size, i.bytes)) = some (some z, d.sz, bytes)) (hz : z.cells.size = d.sz) (hs0 : 0 < d.sz) (hb0 : 0 < bytes)
    (v : Value) (xs : List α) (p : α) (cs : List Value) (ok okp : Nat → Prop) (hs : a.eval s = v) (hx : a.eval x = .slice (some ⟨g, 0, none⟩) 1 1) (hp : d.M W base okp p cs) (hokp : ∀ k, okp k → ok k ∧ some k ≠ v.ownBlock) (hfresh : ∀ k, W.heap.size ≤ k → ok k)
    (HO : d.R e W base ok v xs) (HB : Below base w0 W) (hbase : base ≤ W.heap.size) (hl : (xs.length + 1) * bytes ≤ 140737488355328)
    (h : ∀ v1 w1, d.R e w1 base ok v1 (xs ++ [p]) → Below base w0 w1 → W.grownBy w1 v.ownBlock → wpList P ops Q rest (a.put o.dst v1) w1) :
    wpList P ops Q (o :: rest) a (W.alloc (.cells cs.toArray e)) := by
  subst hW
  exact Kd.R_append d base hgd s x t e z bytes ho ht hinfo hz hs0 hb0 v xs p cs ok okp hs hx hp hokp hfresh HO HB hbase hl (fun v1 w1 h1 h2 h3 _ => h v1 w1 h1 h2 h3)
theorem fd_build {l : List S48} {D : Dr} {n : Nat} {c : Int} (h : buildP zdr l 0 = (D, n, c)) : D.Fd ∧ Snd D.code ∧ Bnd D l.length := by
  have hk := build_keeps l zdr 0 fd_zdr (fun c hc => by cases hc)
  have hbd := build_bnd l zdr 0 0 (bnd_zdr 0)
  rw [h] at hk hbd
  exact ⟨hk.1, hk.2.1, by simpa using hbd⟩
theorem bnd_between {d : Dr} {c : List S37} {N : Nat} (h : Bnd d N) (hc : d.code.length + c.length ≤ 256) (hN : 256 ≤ N) : Bnd ⟨d.code ++ c, d.origs, d.dests, d.loops, d.cases⟩ N :=
  ⟨by simp; omega, h.origs, h.dests, h.loops, h.cases, h.louts, h.couts⟩
abbrev bx (A0 A1 A2 A3 A4 : Option Addr) (c0 c1 c2 c3 c4 : Nat) (D : Dr) : Obj := .cells #[.slice A0 D.code.length c0, .slice A1 D.origs.length c1, .slice A2 D.dests.length c2, .slice A3 D.loops.length c3, .slice A4 D.cases.length c4] 26
set_option maxHeartbeats 8000000 in
theorem between_calls (A : Option Addr) (cl : Nat) (l : List S48) (A' : Option Addr) (cl' : Nat) (l' : List S48) (w : World) (hL : Kd.C k48 w A l.length l) (hn : ∀ x ∈ l, 0 ≤ x.f1.f1 ∧ x.f1.f1 < 4294967296) (hN2 : l.length ≤ 1048576)
    (hL' : Kd.C k48 w A' l'.length l') (hn' : ∀ x ∈ l', 0 ≤ x.f1.f1 ∧ x.f1.f1 < 4294967296) (hN2' : l'.length ≤ 1048576) :
    Calls Try.prog 7 #[.slice A l.length cl, .slice A' l'.length cl'] w fun e w' => e = .returned (.bool true) ∧ Below w.heap.size w w' := by
  obtain ⟨⟨D, n, c⟩, hr⟩ : ∃ r, buildP zdr l 0 = r := ⟨_, rfl⟩
  obtain ⟨⟨X, n', c'⟩, hr'⟩ : ∃ r, buildP zdr l' 0 = r := ⟨_, rfl⟩
  obtain ⟨hfD, hsD, hbD⟩ := fd_build hr
  obtain ⟨hfX, hsX, hbX⟩ := fd_build hr'
  have HFD : Aside0 D.Fd := ⟨hfD⟩
  have HFX : Aside0 X.Fd := ⟨hfX⟩
  have HSX : Aside0 (Snd X.code) := ⟨hsX⟩
  have HND : Aside0 (Bnd D 1048576) := ⟨hbD.mono hN2⟩
  have HNX : Aside0 (Bnd X 1048576) := ⟨hbX.mono hN2'⟩
  have HRX := Aside0.mk hr'
  have HB0 : Aside0 (∀ W, Below w.heap.size w W → Calls Try.prog 20 #[drV none none none none none 0 0 0 0 0 0 0 0 0 0, .slice A l.length cl] W (LPost W (D, n, c))) := ⟨fun W hb => build0 A cl l W (Kd.C_below hL hb) hn (by omega) hr⟩
  have HB0' : Aside0 (∀ W, Below w.heap.size w W → Calls Try.prog 20 #[drV none none none none none 0 0 0 0 0 0 0 0 0 0, .slice A' l'.length cl'] W (LPost W (X, n', c'))) := ⟨fun W hb => build0 A' cl' l' W (Kd.C_below hL' hb) hn' (by omega) hr'⟩
  have HL' := Aside0.mk hL'
  have Hn' := Aside0.mk hn'
  have HN' := Aside0.mk hN2'
  clear hL hn hr hr' hfD hsD hbD hfX hsX hbX hN2 hL' hn' hN2'
  go_enter Try.func7, Try.ntmps7
  go_wp2_with fail
  refine (alive_calls w).mono ?_
  rintro e w1 ⟨rfl, hb1⟩
  have HB1 := Aside0.mk hb1
  clear hb1
  go_wp2_with fail
  refine (HB0.out w1 HB1.out).mono ?_
  rintro e w2 ⟨hb2, A0, A1, A2, A3, A4, c0, c1, c2, c3, c4, o, rfl, h5⟩
  have hal := below_alloc (Below.refl _ w2) (bx A0 A1 A2 A3 A4 c0 c1 c2 c3 c4 D)
  have HB2 := Aside0.mk (below_step (below_step HB1.out hb2) hal)
  have HX5 := Aside0.mk (blk_new w2 (bx A0 A1 A2 A3 A4 c0 c1 c2 c3 c4 D))
  have H5 := Aside0.mk (h5.below hal)
  clear hb2 h5 HB0 HB1 hal
  go_wp2_with fail
  generalize w2.alloc (.cells #[.slice A0 D.code.length c0, .slice A1 D.origs.length c1, .slice A2 D.dests.length c2, .slice A3 D.loops.length c3, .slice A4 D.cases.length c4] 26) = w3 at HB2 HX5 H5 ⊢
  generalize w2.heap.size = g5 at HX5 ⊢
  refine (HB0'.out w3 HB2.out).mono ?_
  rintro e w4 ⟨hb4, B0, B1, B2, B3, B4, b0, b1, b2, b3, b4, ox, rfl, h5x⟩
  have hal := below_alloc (Below.refl _ w4) (bx B0 B1 B2 B3 B4 b0 b1 b2 b3 b4 X)
  have HB4 := Aside0.mk (below_step (below_step HB2.out hb4) hal)
  have HX5' := Aside0.mk (blk_below (blk_below HX5.out hb4) hal)
  have H5' := Aside0.mk ((H5.out.below hb4).below hal)
  have HX8 := Aside0.mk (blk_new w4 (bx B0 B1 B2 B3 B4 b0 b1 b2 b3 b4 X))
  have H8 := Aside0.mk (h5x.below hal)
  clear hb4 h5x HB0' HB2 HX5 H5 hal
  have k0 := (blk_cell HX8.out 0).trans rfl
  have k1 := (blk_cell HX8.out 1).trans rfl
  have k2 := (blk_cell HX8.out 2).trans rfl
  have k3 := (blk_cell HX8.out 3).trans rfl
  have k4 := (blk_cell HX8.out 4).trans rfl
  go_wp2_with fail
  clear k0 k1 k2 k3 k4
  generalize w4.alloc (.cells #[.slice B0 X.code.length b0, .slice B1 X.origs.length b1, .slice B2 X.dests.length b2, .slice B3 X.loops.length b3, .slice B4 X.cases.length b4] 26) = w5 at HB4 HX5' H5' HX8 H8 ⊢
  generalize w4.heap.size = g8 at HX8 ⊢
  refine (finish_calls B0 B1 B2 B3 B4 b0 b1 b2 b3 b4 X.code X.origs X.dests X.loops X.cases w5 H8.out.drc (HNX.out.small (by omega))).mono ?_
  rintro e w6 hP
  obtain ⟨r, hfin⟩ : ∃ r, finP X.code X.origs X.dests X.loops X.cases = r := ⟨_, rfl⟩
  have HFin := Aside0.mk hfin
  rw [hfin] at hP
  clear hfin
  cases r with
  | inr c2 =>
    obtain ⟨hb6, rfl⟩ := hP
    have hc := fin_inr HFX.out HFin.out
    subst hc
    have HB6 := Aside0.mk (below_step HB4.out hb6)
    clear hb6
    by_cases hc : c = 0
    · have q1 : (c == 0) = true := by simpa using hc
      have q2 : (c != 0) = false := by simpa using hc
      by_cases hc' : c' = 0
      · have q3 : (c' == 0) = true := by simpa using hc'
        have q4 : (c' != 0) = false := by simpa using hc'
        clear hc hc'
        go_wp2_with fail
        go_ret
        exact ⟨rfl, HB6.out⟩
      · have q3 : (c' == 0) = false := by simpa using hc'
        have q4 : (c' != 0) = true := by simpa using hc'
        clear hc hc'
        go_wp2_with fail
        go_ret
        exact ⟨rfl, HB6.out⟩
    · have q1 : (c == 0) = false := by simpa using hc
      have q2 : (c != 0) = true := by simpa using hc
      clear hc
      go_wp2_with fail
      go_ret
      exact ⟨rfl, HB6.out⟩
  | inl code =>
    obtain ⟨hb6, C, cc, rfl, hR⟩ := hP
    have hcode := fin_inl HFX.out HFin.out
    subst hcode
    have HB6 := Aside0.mk (below_step HB4.out hb6)
    have HC6 := Aside0.mk (Kd.R_reads' hR).2.2
    have HX6 := Aside0.mk (blk_below HX5'.out hb6)
    have H6 := Aside0.mk (H5'.out.below hb6)
    clear hb6 hR HX8 H8 HX5' H5' HB4
    have hlX : X.code.length ≤ 256 := HFX.out.len
    have hlD : D.code.length ≤ 256 := HFD.out.len
    by_cases hc : c = 0
    · by_cases hc' : c' = 0
      · by_cases hl : D.code.length + X.code.length ≤ 256
        · subst hc hc'
          obtain ⟨m, hm⟩ := between HFD.out HRX.out HFin.out hl
          have hN2 : 1048576 + l'.length ≤ 1099511627776 := by have := HN'.out; omega
          have HBy := Aside0.mk (build_calls D A0 A1 A2 A3 A4 c0 c1 c2 c3 c4 o A' cl' 1048576 l' w6 (H6.out.lower (Nat.zero_le _)) (Kd.C_below HL'.out HB6.out) Hn'.out HND.out hN2)
          rw [hm] at HBy
          have HNY := Aside0.mk (bnd_between (c := X.code.map (shI D.code.length)) HND.out (by simpa using hl) (by decide))
          have q5 : decide ((256 : Int) - (X.code.length : Int) < (D.code.length : Int)) = false := decide_eq_false (by omega)
          have k0 := (blk_cell HX6.out 0).trans rfl
          have k1 := (blk_cell HX6.out 1).trans rfl
          have k2 := (blk_cell HX6.out 2).trans rfl
          have k3 := (blk_cell HX6.out 3).trans rfl
          have k4 := (blk_cell HX6.out 4).trans rfl
          clear hm hN2 HRX HFin HFX HNX
          have HSL : Aside0 (∀ x ∈ X.code, 3 ≤ x.f0 → x.f0 ≤ 10 → 0 ≤ x.f1 ∧ x.f1 ≤ 256) := ⟨fun x hx h1 h2 => by have := HSX.out x hx h1 h2; omega⟩
          clear HSX
          go_wp2_with fail
          clear k0 k1 k2 k3 k4 q5
          generalize hY : (⟨D.code ++ X.code.map (shI D.code.length), D.origs, D.dests, D.loops, D.cases⟩ : Dr) = Y at HBy HNY
          have HY := Aside0.mk hY
          clear hY
          refine HBy.out.mono ?_
          rintro e w7 ⟨hb7, Y0, Y1, Y2, Y3, Y4, y0, y1, y2, y3, y4, oy, rfl, h5y⟩
          have hal := below_alloc (Below.refl _ w7) (bx Y0 Y1 Y2 Y3 Y4 y0 y1 y2 y3 y4 Y)
          have HB7 := Aside0.mk (below_step (below_step HB6.out hb7) hal)
          have HX7 := Aside0.mk (blk_below (blk_below HX6.out hb7) hal)
          have H7 := Aside0.mk ((H6.out.below hb7).below hal)
          have HC7 := Aside0.mk (Kd.C_below (Kd.C_below HC6.out hb7) hal)
          have HX13 := Aside0.mk (blk_new w7 (bx Y0 Y1 Y2 Y3 Y4 y0 y1 y2 y3 y4 Y))
          have H13 := Aside0.mk (h5y.below hal)
          clear hb7 h5y HB6 HX6 H6 HC6 HBy hal HL' Hn' HN'
          have k0 := (blk_cell HX7.out 0).trans rfl
          have k1 := (blk_cell HX7.out 1).trans rfl
          have k2 := (blk_cell HX7.out 2).trans rfl
          have k3 := (blk_cell HX7.out 3).trans rfl
          have k4 := (blk_cell HX7.out 4).trans rfl
          go_wp2_with fail
          clear k0 k1 k2 k3 k4
          generalize w7.alloc (.cells #[.slice Y0 Y.code.length y0, .slice Y1 Y.origs.length y1, .slice Y2 Y.dests.length y2, .slice Y3 Y.loops.length y3, .slice Y4 Y.cases.length y4] 26) = w8 at HB7 HX7 H7 HC7 HX13 H13 ⊢
          generalize w7.heap.size = g13 at HX13 ⊢
          refine (copy_calls A0 A1 A2 A3 A4 c0 c1 c2 c3 c4 D.code D.origs D.dests D.loops D.cases w8 H7.out.drc (HND.out.small (by omega)) (HND.out.room (by omega))).mono ?_
          rintro e w9 ⟨Z0, Z1, Z2, Z3, Z4, z0, z1, z2, z3, z4, oz, rfl, h5z, hb9⟩
          have hal := below_alloc (Below.refl _ w9) (bx Z0 Z1 Z2 Z3 Z4 z0 z1 z2 z3 z4 D)
          have HB9 := Aside0.mk (below_step hb9 hal)
          have HX16 := Aside0.mk (blk_new w9 (bx Z0 Z1 Z2 Z3 Z4 z0 z1 z2 z3 z4 D))
          have H16 := Aside0.mk (h5z.below hal)
          have hg16 : w8.heap.size ≤ w9.heap.size := hb9.size
          clear hb9 h5z hal
          go_wp2_with fail
          generalize w9.alloc (.cells #[.slice Z0 D.code.length z0, .slice Z1 D.origs.length z1, .slice Z2 D.dests.length z2, .slice Z3 D.loops.length z3, .slice Z4 D.cases.length z4] 26) = w10 at HB9 HX16 H16 ⊢
          generalize w9.heap.size = g16 at HX16 hg16 ⊢
          go_loopg [17] X.code.length (fun gg s17 wr => ∃ (kk : Nat) (Zc : Option Addr) (zc : Nat), kk ≤ X.code.length ∧ X.code.length - kk ≤ gg ∧ s17 = .int .i64 kk ∧ Aside0 (Below w8.heap.size w8 wr) ∧ Aside0 (wr.heap[g16]? = some (.cells #[.slice Zc (D.code.length + kk) zc, .slice Z1 D.origs.length z1, .slice Z2 D.dests.length z2, .slice Z3 D.loops.length z3, .slice Z4 D.cases.length z4] 26)) ∧ Aside0 (C5 wr w8.heap.size (.slice Zc (D.code.length + kk) zc) (.slice Z1 D.origs.length z1) (.slice Z2 D.dests.length z2) (.slice Z3 D.loops.length z3) (.slice Z4 D.cases.length z4) oz (D.code ++ (X.code.take kk).map (shI D.code.length)) D.origs D.dests D.loops D.cases))
          case atStart => exact ⟨0, Z0, z0, Nat.zero_le _, by omega, rfl, HB9, HX16, by simpa using H16⟩
          case round =>
            clear HB9 HX16 H16
            obtain ⟨kk, Zc, zc, hkk, hg, rfl, HBr, HZr, H5r⟩ := hrel
            by_cases hlt : kk < X.code.length
            · have hltz : (kk : Int) < (X.code.length : Int) := by omega
              have p2 : (0 ≤ (kk : Int)) = True := eq_true (by omega)
              have p3 : ((kk : Int) < (X.code.length : Int)) = True := eq_true hltz
              obtain ⟨ad, e, g0, g1⟩ := at_T37 (Kd.C_below HC7.out HBr.out) (kk : Int) (by omega) hltz
              cases e
              rw [Int.toNat_natCast] at g0 g1
              have hrd : rd_T37 X.code (kk : Int) = X.code[kk]'hlt := by simp [rd_T37, List.getD_eq_getElem?_getD, hlt]
              rw [hrd] at g0 g1
              have htk := Aside0.mk (show X.code.take (kk + 1) = X.code.take kk ++ [X.code[kk]'hlt] by rw [List.take_add_one, List.getElem?_eq_getElem hlt]; rfl)
              have hsl := HSL.out _ (List.getElem_mem hlt)
              clear hrd
              generalize X.code[kk]'hlt = x at g0 g1 hsl htk
              have hd0 : wr.cell? ⟨g5, 0, none⟩ = some (.slice A0 D.code.length c0) := (blk_cell (blk_below HX7.out HBr.out) 0).trans rfl
              have hd1 : (wr.alloc (.cells #[.int .i64 x.f0, .int .u32 x.f1] 37)).cell? ⟨g5, 0, none⟩ = some (.slice A0 D.code.length c0) := (blk_cell (blk_alloc (blk_below HX7.out HBr.out) _) 0).trans rfl
              have hz0 : wr.cell? ⟨g16, 0, none⟩ = some (.slice Zc (D.code.length + kk) zc) := (blk_cell HZr.out 0).trans rfl
              have n0 : (wr.alloc (.cells #[.int .i64 x.f0, .int .u32 x.f1] 37)).cell? ⟨wr.heap.size, 0, none⟩ = some (.int .i64 x.f0) := (blk_cell (blk_new wr _) 0).trans rfl
              have n1 : (wr.alloc (.cells #[.int .i64 x.f0, .int .u32 x.f1] 37)).cell? ⟨wr.heap.size, 1, none⟩ = some (.int .u32 x.f1) := (blk_cell (blk_new wr _) 1).trans rfl
              have nf : (wr.alloc (.cells #[.int .i64 x.f0, .int .u32 x.f1] 37)).frozen? ⟨wr.heap.size, 1, none⟩ = false := blk_frozen (blk_new wr _) 1
              have hwr : w8.heap.size ≤ wr.heap.size := HBr.out.size
              by_cases h3 : 3 ≤ x.f0
              · by_cases h10 : x.f0 ≤ 10
                · obtain ⟨s0, s1⟩ := hsl h3 h10
                  have hsh : sh D.code.length x = x.f1 + (D.code.length : Int) := by unfold sh; rw [if_pos ⟨h3, h10⟩]; omega
                  have q3 := decide_eq_true h3
                  have q10 := decide_eq_true h10
                  have hWB : Below wr.heap.size wr (wr.alloc (.cells #[.int .i64 x.f0, .int .u32 (x.f1 + (D.code.length : Int))] 37)) := below_alloc (Below.refl _ _) _
                  have m0 : (wr.alloc (.cells #[.int .i64 x.f0, .int .u32 (x.f1 + (D.code.length : Int))] 37)).cell? ⟨wr.heap.size, 0, none⟩ = some (.int .i64 x.f0) := (blk_cell (blk_new wr _) 0).trans rfl
                  have m1 : (wr.alloc (.cells #[.int .i64 x.f0, .int .u32 (x.f1 + (D.code.length : Int))] 37)).cell? ⟨wr.heap.size, 1, none⟩ = some (.int .u32 (x.f1 + (D.code.length : Int))) := (blk_cell (blk_new wr _) 1).trans rfl
                  have mz : (wr.alloc (.cells #[.int .i64 x.f0, .int .u32 (x.f1 + (D.code.length : Int))] 37)).cell? ⟨g16, 0, none⟩ = some (.slice Zc (D.code.length + kk) zc) := (blk_cell (blk_below HZr.out hWB) 0).trans rfl
                  clear hsl
                  have hWs := hWB.size
                  have h5W := Aside0.mk (H5r.out.below hWB)
                  have hZW := Aside0.mk (blk_below HZr.out hWB)
                  have hBW := Aside0.mk (below_step HBr.out hWB)
                  have hWsz : w8.heap.size ≤ ((wr.alloc (.cells #[.int .i64 x.f0, .int .u32 (x.f1 + (D.code.length : Int))] 37))).heap.size := Nat.le_trans hwr hWs
                  have HWB := Aside0.mk hWB
                  clear hWB hWs
                  have hxl : (D.code ++ (X.code.take kk).map (shI D.code.length)).length = D.code.length + kk := by simp; omega
                  have HXL := Aside0.mk hxl
                  clear hxl
                  have HSH := Aside0.mk hsh
                  clear hsh
                  go_wp2_with (at_builtin; refine R_append_at k37 (w0 := w8) (W := (wr.alloc (.cells #[.int .i64 x.f0, .int .u32 (x.f1 + (D.code.length : Int))] 37))) w8.heap.size (wr.heap.size + 1) (by simp) rfl _ _ 22 37 (.agg #[(.int .i64 0), (.int .u32 0)]) 16 rfl Try.underlying22 info37 rfl (by decide) (by decide) (.slice Zc (D.code.length + kk) zc) (D.code ++ (X.code.take kk).map (shI D.code.length)) ⟨x.f0, (x.f1 + (D.code.length : Int))⟩ [.int .i64 x.f0, .int .u32 (x.f1 + (D.code.length : Int))] (fun _ => True) (fun _ => False) rfl rfl (k37_mkM _ _ _ _) (fun _ h => h.elim) (fun _ _ => trivial) h5W.out.c3.hc hBW.out hWsz (by rw [HXL.out]; omega) ?_)
                  intro v1' w11 hR1 hB1 hg1
                  have hcode : D.code ++ ((X.code.map (shI D.code.length)).take kk ++ [(⟨x.f0, (x.f1 + (D.code.length : Int))⟩ : S37)]) = D.code ++ (X.code.take (kk + 1)).map (shI D.code.length) := by rw [htk.out, List.map_append, List.map_take]; show _ = D.code ++ (_ ++ [⟨x.f0, sh D.code.length x⟩]); rw [HSH.out]
                  rw [hcode] at hR1
                  obtain ⟨Z', z', rfl⟩ := Kd.R_slice hR1
                  have hl1 : (D.code ++ (X.code.take (kk + 1)).map (shI D.code.length)).length = D.code.length + (kk + 1) := by simp; omega
                  rw [hl1] at hR1 ⊢
                  have hbk := blk_grown hZW.out hg1 (Kd.R_ne h5W.out.c3.hc hZW.out (by decide))
                  have h5n := Aside0.mk ((h5W.out.coded hg1 hR1).set hbk 0 (.slice Z' (D.code.length + (kk + 1)) z'))
                  have hZn := Aside0.mk (blk_put hbk 0 (.slice Z' (D.code.length + (kk + 1)) z') rfl)
                  have hBn := Aside0.mk (hB1.setCell (p := ⟨g16, 0, none⟩) hg16 (.slice Z' (D.code.length + (kk + 1)) z'))
                  have hf := blk_frozen hbk 0
                  have hzc : w11.cell? ⟨g16, 0, none⟩ = some (.slice Zc (D.code.length + kk) zc) := (blk_cell hbk 0).trans rfl
                  clear hbk hR1 hB1 hg1 hcode hl1 h5W hZW hBW HWB HSH HXL HBr HZr H5r htk
                  go_wp2_with fail
                  go_roundg (X.code.length - (kk + 1))
                  case measure => omega
                  case rel => exact ⟨kk + 1, Z', z', by omega, by omega, by go_num, hBn, hZn, h5n⟩
                · have hsh : sh D.code.length x = x.f1 := by unfold sh; rw [if_neg (by omega)]
                  have q3 := decide_eq_true h3
                  have q10 := decide_eq_false h10
                  have hWB : Below wr.heap.size wr (wr.alloc (.cells #[.int .i64 x.f0, .int .u32 x.f1] 37)) := below_alloc (Below.refl _ _) _
                  have mz : (wr.alloc (.cells #[.int .i64 x.f0, .int .u32 x.f1] 37)).cell? ⟨g16, 0, none⟩ = some (.slice Zc (D.code.length + kk) zc) := (blk_cell (blk_below HZr.out hWB) 0).trans rfl
                  clear hsl
                  have hWs := hWB.size
                  have h5W := Aside0.mk (H5r.out.below hWB)
                  have hZW := Aside0.mk (blk_below HZr.out hWB)
                  have hBW := Aside0.mk (below_step HBr.out hWB)
                  have hWsz : w8.heap.size ≤ ((wr.alloc (.cells #[.int .i64 x.f0, .int .u32 x.f1] 37))).heap.size := Nat.le_trans hwr hWs
                  have HWB := Aside0.mk hWB
                  clear hWB hWs
                  have hxl : (D.code ++ (X.code.take kk).map (shI D.code.length)).length = D.code.length + kk := by simp; omega
                  have HXL := Aside0.mk hxl
                  clear hxl
                  have HSH := Aside0.mk hsh
                  clear hsh
                  go_wp2_with (at_builtin; refine R_append_at k37 (w0 := w8) (W := (wr.alloc (.cells #[.int .i64 x.f0, .int .u32 x.f1] 37))) w8.heap.size (wr.heap.size + 1) (by simp) rfl _ _ 22 37 (.agg #[(.int .i64 0), (.int .u32 0)]) 16 rfl Try.underlying22 info37 rfl (by decide) (by decide) (.slice Zc (D.code.length + kk) zc) (D.code ++ (X.code.take kk).map (shI D.code.length)) ⟨x.f0, x.f1⟩ [.int .i64 x.f0, .int .u32 x.f1] (fun _ => True) (fun _ => False) rfl rfl (k37_mkM _ _ _ _) (fun _ h => h.elim) (fun _ _ => trivial) h5W.out.c3.hc hBW.out hWsz (by rw [HXL.out]; omega) ?_)
                  intro v1' w11 hR1 hB1 hg1
                  have hcode : D.code ++ ((X.code.map (shI D.code.length)).take kk ++ [(⟨x.f0, x.f1⟩ : S37)]) = D.code ++ (X.code.take (kk + 1)).map (shI D.code.length) := by rw [htk.out, List.map_append, List.map_take]; show _ = D.code ++ (_ ++ [⟨x.f0, sh D.code.length x⟩]); rw [HSH.out]
                  rw [hcode] at hR1
                  obtain ⟨Z', z', rfl⟩ := Kd.R_slice hR1
                  have hl1 : (D.code ++ (X.code.take (kk + 1)).map (shI D.code.length)).length = D.code.length + (kk + 1) := by simp; omega
                  rw [hl1] at hR1 ⊢
                  have hbk := blk_grown hZW.out hg1 (Kd.R_ne h5W.out.c3.hc hZW.out (by decide))
                  have h5n := Aside0.mk ((h5W.out.coded hg1 hR1).set hbk 0 (.slice Z' (D.code.length + (kk + 1)) z'))
                  have hZn := Aside0.mk (blk_put hbk 0 (.slice Z' (D.code.length + (kk + 1)) z') rfl)
                  have hBn := Aside0.mk (hB1.setCell (p := ⟨g16, 0, none⟩) hg16 (.slice Z' (D.code.length + (kk + 1)) z'))
                  have hf := blk_frozen hbk 0
                  have hzc : w11.cell? ⟨g16, 0, none⟩ = some (.slice Zc (D.code.length + kk) zc) := (blk_cell hbk 0).trans rfl
                  clear hbk hR1 hB1 hg1 hcode hl1 h5W hZW hBW HWB HSH HXL HBr HZr H5r htk
                  go_wp2_with fail
                  go_roundg (X.code.length - (kk + 1))
                  case measure => omega
                  case rel => exact ⟨kk + 1, Z', z', by omega, by omega, by go_num, hBn, hZn, h5n⟩
              · have hsh : sh D.code.length x = x.f1 := by unfold sh; rw [if_neg (by omega)]
                have q3 := decide_eq_false h3
                have hWB : Below wr.heap.size wr (wr.alloc (.cells #[.int .i64 x.f0, .int .u32 x.f1] 37)) := below_alloc (Below.refl _ _) _
                have mz : (wr.alloc (.cells #[.int .i64 x.f0, .int .u32 x.f1] 37)).cell? ⟨g16, 0, none⟩ = some (.slice Zc (D.code.length + kk) zc) := (blk_cell (blk_below HZr.out hWB) 0).trans rfl
                clear hsl
                have hWs := hWB.size
                have h5W := Aside0.mk (H5r.out.below hWB)
                have hZW := Aside0.mk (blk_below HZr.out hWB)
                have hBW := Aside0.mk (below_step HBr.out hWB)
                have hWsz : w8.heap.size ≤ ((wr.alloc (.cells #[.int .i64 x.f0, .int .u32 x.f1] 37))).heap.size := Nat.le_trans hwr hWs
                have HWB := Aside0.mk hWB
                clear hWB hWs
                have hxl : (D.code ++ (X.code.take kk).map (shI D.code.length)).length = D.code.length + kk := by simp; omega
                have HXL := Aside0.mk hxl
                clear hxl
                have HSH := Aside0.mk hsh
                clear hsh
                go_wp2_with (at_builtin; refine R_append_at k37 (w0 := w8) (W := (wr.alloc (.cells #[.int .i64 x.f0, .int .u32 x.f1] 37))) w8.heap.size (wr.heap.size + 1) (by simp) rfl _ _ 22 37 (.agg #[(.int .i64 0), (.int .u32 0)]) 16 rfl Try.underlying22 info37 rfl (by decide) (by decide) (.slice Zc (D.code.length + kk) zc) (D.code ++ (X.code.take kk).map (shI D.code.length)) ⟨x.f0, x.f1⟩ [.int .i64 x.f0, .int .u32 x.f1] (fun _ => True) (fun _ => False) rfl rfl (k37_mkM _ _ _ _) (fun _ h => h.elim) (fun _ _ => trivial) h5W.out.c3.hc hBW.out hWsz (by rw [HXL.out]; omega) ?_)
                intro v1' w11 hR1 hB1 hg1
                have hcode : D.code ++ ((X.code.map (shI D.code.length)).take kk ++ [(⟨x.f0, x.f1⟩ : S37)]) = D.code ++ (X.code.take (kk + 1)).map (shI D.code.length) := by rw [htk.out, List.map_append, List.map_take]; show _ = D.code ++ (_ ++ [⟨x.f0, sh D.code.length x⟩]); rw [HSH.out]
                rw [hcode] at hR1
                obtain ⟨Z', z', rfl⟩ := Kd.R_slice hR1
                have hl1 : (D.code ++ (X.code.take (kk + 1)).map (shI D.code.length)).length = D.code.length + (kk + 1) := by simp; omega
                rw [hl1] at hR1 ⊢
                have hbk := blk_grown hZW.out hg1 (Kd.R_ne h5W.out.c3.hc hZW.out (by decide))
                have h5n := Aside0.mk ((h5W.out.coded hg1 hR1).set hbk 0 (.slice Z' (D.code.length + (kk + 1)) z'))
                have hZn := Aside0.mk (blk_put hbk 0 (.slice Z' (D.code.length + (kk + 1)) z') rfl)
                have hBn := Aside0.mk (hB1.setCell (p := ⟨g16, 0, none⟩) hg16 (.slice Z' (D.code.length + (kk + 1)) z'))
                have hf := blk_frozen hbk 0
                have hzc : w11.cell? ⟨g16, 0, none⟩ = some (.slice Zc (D.code.length + kk) zc) := (blk_cell hbk 0).trans rfl
                clear hbk hR1 hB1 hg1 hcode hl1 h5W hZW hBW HWB HSH HXL HBr HZr H5r htk
                go_wp2_with fail
                go_roundg (X.code.length - (kk + 1))
                case measure => omega
                case rel => exact ⟨kk + 1, Z', z', by omega, by omega, by go_num, hBn, hZn, h5n⟩
            · have hltz : ¬ (kk : Int) < (X.code.length : Int) := by omega
              have : kk = X.code.length := by omega
              subst this
              have HYr := Aside0.mk (blk_below HX13.out HBr.out)
              have H5y := Aside0.mk (H13.out.below HBr.out)
              have hl1 : D.code.length + X.code.length = Y.code.length := by rw [← HY.out]; simp
              have hcd : D.code ++ (X.code.take X.code.length).map (shI D.code.length) = Y.code := by rw [← HY.out, List.take_length]
              have e1 : D.origs = Y.origs := by rw [← HY.out]
              have e2 : D.dests = Y.dests := by rw [← HY.out]
              have e3 : D.loops = Y.loops := by rw [← HY.out]
              have e4 : D.cases = Y.cases := by rw [← HY.out]
              rw [hl1, e1, e2, e3, e4] at HZr
              rw [hcd, hl1, e1, e2, e3, e4] at H5r
              clear hl1 hcd e1 e2 e3 e4
              have k0 := (blk_cell HYr.out 0).trans rfl
              have k1 := (blk_cell HYr.out 1).trans rfl
              have k2 := (blk_cell HYr.out 2).trans rfl
              have k3 := (blk_cell HYr.out 3).trans rfl
              have k4 := (blk_cell HYr.out 4).trans rfl
              have j0 := (blk_cell HZr.out 0).trans rfl
              have j1 := (blk_cell HZr.out 1).trans rfl
              have j2 := (blk_cell HZr.out 2).trans rfl
              have j3 := (blk_cell HZr.out 3).trans rfl
              have j4 := (blk_cell HZr.out 4).trans rfl
              go_wp2_with fail
              refine (same_calls H5y.out.drc H5r.out.drc HNY.out (by omega)).mono ?_
              rintro e w12 ⟨rfl, hb⟩
              have HBe := Aside0.mk (below_step HB7.out (HBr.out.trans (Below.mono hb HBr.out.size)))
              clear hb
              go_wp2_with fail
              go_ret
              exact ⟨rfl, HBe.out⟩
        · have q1 : (c == 0) = true := by simpa using hc
          have q2 : (c != 0) = false := by simpa using hc
          have q3 : (c' == 0) = true := by simpa using hc'
          have q4 : (c' != 0) = false := by simpa using hc'
          have q5 : decide ((256 : Int) - (X.code.length : Int) < (D.code.length : Int)) = true := decide_eq_true (by omega)
          have k0 := (blk_cell HX6.out 0).trans rfl
          clear hc hc' hl
          go_wp2_with fail
          go_ret
          exact ⟨rfl, HB6.out⟩
      · have q1 : (c == 0) = true := by simpa using hc
        have q2 : (c != 0) = false := by simpa using hc
        have q3 : (c' == 0) = false := by simpa using hc'
        have q4 : (c' != 0) = true := by simpa using hc'
        clear hc hc'
        go_wp2_with fail
        go_ret
        exact ⟨rfl, HB6.out⟩
    · have q1 : (c == 0) = false := by simpa using hc
      have q2 : (c != 0) = true := by simpa using hc
      clear hc
      go_wp2_with fail
      go_ret
      exact ⟨rfl, HB6.out⟩
end Go.Proofs.Ytmglkgjnhoojaaa.PCodeRows
