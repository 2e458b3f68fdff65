/- The builder's branch: if, ahead, then, begin, again, until. -/
import Derived.Test.YtmglkgjnhoojaaaBd
import Derived.Test.YtmglkgjnhoojaaaLay
namespace Go.Proofs.Ytmglkgjnhoojaaa.PCodeRows
open Go.RowKit Go.Proofs.YtmglkgjnhoojaaaW.PrintWords Go.Proofs.YtmglkgjnhoojaaaW.PrintLast Go.Proofs.YtmglkgjnhoojaaaW.PrintMore
set_option linter.unusedVariables false
set_option linter.unusedSimpArgs false
theorem infoI : (Try.prog.info? 3).map (fun i => (i.zero, i.size, i.bytes)) = some (some (.int .i64 0), 1, 8) := by kernel_rfl
theorem ints_reps {W : World} {base : Nat} {ok : Nat → Prop} (l : List Int) : Reps ((Kd.int .i64).M W base ok) (Kd.int .i64).sz l (l.map fun x => Value.int .i64 x) := by
  have h1 : (Kd.int .i64).sz = 1 := rfl
  refine ⟨by rw [h1, List.length_map, Nat.mul_one], fun j p hj => ?_⟩
  rw [h1, Nat.mul_one]
  have hl : j < l.length := by
    by_cases h : j < l.length
    · exact h
    · rw [List.getElem?_eq_none (by omega)] at hj; cases hj
  have e : ((l.map fun x => Value.int .i64 x).drop j).take 1 = [Value.int .i64 p] := by
    rw [List.getElem?_eq_getElem hl] at hj
    injection hj with hj
    rw [List.drop_eq_getElem_cons (by simpa using hl)]
    simp [hj]
  rw [e]
  rfl
/-- A row that is written out. -/
theorem lit_R (W : World) (base : Nat) (hb : base ≤ W.heap.size) (l : List Int) (hl : l.length ≤ 140737488351232) :
    (Kd.int .i64).R 3 (W.alloc (.cells (l.map fun x => Value.int .i64 x).toArray 3)) base (fun _ => True) (.slice (some ⟨W.heap.size, 0, none⟩) l.length l.length) l := by
  refine ⟨fun _ _ => trivial, l.map fun x => Value.int .i64 x, ?_, ?_⟩
  · have h2 := World.ownsRow_lit (base := base) (e := 3) (size := (Kd.int .i64).sz) W (l.map fun x => Value.int .i64 x).toArray l.length hb (by have : maxLen = 9223372036854775807 := rfl; omega) (by show (l.map fun x => Value.int .i64 x).toArray.size = l.length * 1; simp)
    simpa using h2
  · exact ints_reps l
section
variable {w : World} {base bb : Nat} {v0 v1 v2 v3 v4 : Value} {o : Nat → Nat} {code : List S37} {origs dests xs : List Int} {loops cases : List S59}
/-- A builder's content. -/
structure Dr where
  code : List S37
  origs : List Int
  dests : List Int
  loops : List S59
  cases : List S59
/-- What an act leaves: a builder, or an error. -/
def BPost (base bb : Nat) (w : World) (r : Dr ⊕ Int) (e : Ending) (w' : World) : Prop :=
  Below base w w' ∧ match r with
    | .inl d => e = .returned (.int .i64 0) ∧ ∃ v0 v1 v2 v3 v4 o, BD w' base bb v0 v1 v2 v3 v4 o d.code d.origs d.dests d.loops d.cases
    | .inr c => e = .returned (.int .i64 c)
def layP (code : List S37) (kind n : Int) (f : List S37 → Dr) : Dr ⊕ Int := if code.length < 256 then .inl (f (code ++ [⟨kind, n % 4294967296⟩])) else .inr 3
theorem lay_bd (h : BD w base bb v0 v1 v2 v3 v4 o code origs dests loops cases) (kind n : Int) (hl : code.length < 256) :
    Calls Try.prog 35 #[.pointer (some ⟨bb, 0, none⟩), .int .i64 kind, .int .i64 n] w fun e w' => e = .returned (.tuple #[.int .i64 code.length, .int .i64 0]) ∧ ∃ v0', BD w' base bb v0' v1 v2 v3 v4 o (code ++ [⟨kind, n % 4294967296⟩]) origs dests loops cases ∧ Below base w w' := by
  refine (lay_calls bb base v0 v1 v2 v3 v4 code kind n w (fun _ => True) h.box h.hbb h.hc (fun _ _ => trivial) hl).mono ?_
  rintro e w' ⟨v0', rfl, hb, hR, hK, hB⟩
  exact ⟨rfl, v0', h.coded hK hb hR, hB⟩
theorem lay_bd_long (h : BD w base bb v0 v1 v2 v3 v4 o code origs dests loops cases) (kind n : Int) (hl : ¬ code.length < 256) :
    Calls Try.prog 35 #[.pointer (some ⟨bb, 0, none⟩), .int .i64 kind, .int .i64 n] w fun e w' => e = .returned (.tuple #[.int .i64 0, .int .i64 3]) ∧ w' = w := by
  obtain ⟨A, c, rfl⟩ := Kd.R_slice h.hc
  exact lay_long bb A code.length c v1 v2 v3 v4 kind n w h.box (by omega)
theorem push1 (h : BD w base bb v0 v1 v2 v3 v4 o code origs dests loops cases) {P : Program} {ops : Array Oper} {rest : List Oper} {Q : Exit → Act → World → Prop} {a : Act} {q : Oper} {s x : Operand} (n : Int) {A : Option Addr} {c : Nat} (hv : v1 = .slice A origs.length c)
    (ht : P.underlying 23 = some (.slice 3)) (hi : (P.info? 3).map (fun i => (i.zero, i.size, i.bytes)) = some (some (.int .i64 0), 1, 8)) (hgd : q.guard = none) (hq : q.op = .call { callee := .builtin .append, args := #[s, x], argTypes := #[23, 23] }) (hs : a.eval s = v1) (hx : a.eval x = .slice (some ⟨w.heap.size, 0, none⟩) 1 1) (hl : origs.length < 4398046511104)
    (k : ∀ A1 c1 w2, BD (w2.setCell ⟨bb, 1, none⟩ (.slice A1 (origs.length + 1) c1)) base bb v0 (.slice A1 (origs.length + 1) c1) v2 v3 v4 (new_ w o 1) code (origs ++ [n]) dests loops cases → Below base w w2 → w2.frozen? ⟨bb, 1, none⟩ = false → w2.cell? ⟨bb, 1, none⟩ = some (.slice A origs.length c) → wpList P ops Q rest (a.put q.dst (.slice A1 (origs.length + 1) c1)) w2) :
    wpList P ops Q (q :: rest) a (w.alloc (.cells #[.int .i64 n] 3)) := by
  refine Kd.R_append (Kd.int .i64) (w0 := w) (W := w) base hgd s x 23 3 (.int .i64 0) 8 hq ht hi rfl (by decide) (by decide) v1 origs n [.int .i64 n] (fun k => new_ w o 1 k = 1) (fun _ => False) hs hx rfl (fun _ h => h.elim) (fun k hk => new_new hk) (R_lt_mono h.ho (fun k hk hlt => new_old hk hlt)) (Below.refl _ _) (Nat.le_of_lt (Nat.lt_of_le_of_lt h.hbb h.lt)) (by omega) ?_
  intro v1' w2 hR2 hB2 hg hat
  have h2 := h.app1 hR2 hg
  have hb := blk_grown h.box hg (Kd.R_ne h.ho h.box (by decide))
  have hf : w2.frozen? ⟨bb, 1, none⟩ = false := blk_frozen hb 1
  have hb2 : w2.cell? ⟨bb, 1, none⟩ = some v1 := (blk_cell hb 1).trans rfl
  obtain ⟨A1, c1, rfl⟩ := Kd.R_slice hR2
  have hz : (origs ++ [n]).length = origs.length + 1 := by simp
  rw [hz] at h2 ⊢
  exact k A1 c1 w2 h2 hB2 hf (hv ▸ hb2)
theorem pop1_calls {x : Int} (h : BD w base bb v0 v1 v2 v3 v4 o code (xs ++ [x]) dests loops cases) :
    Calls Try.prog 39 #[.pointer (some ⟨bb, 1, none⟩)] w fun e w' => e = .returned (.tuple #[.int .i64 x, .bool true]) ∧ ∃ v1', BD w' base bb v0 v1' v2 v3 v4 o code xs dests loops cases ∧ Below base w w' := by
  obtain ⟨A, c, rfl, hc, hC⟩ := Kd.R_reads h.ho
  have hz : (xs ++ [x]).length = xs.length + 1 := by simp
  rw [hz] at h hc hC
  refine (lastInt_calls bb 1 A xs.length c xs x w _ h.box rfl hc hC).mono ?_
  rintro e w' ⟨rfl, m, rfl⟩
  exact ⟨rfl, _, h.pop1 m, (pw_below_drewN' (Below.refl _ _) m).setCell h.hbb _⟩
theorem pop1_empty (h : BD w base bb v0 v1 v2 v3 v4 o code [] dests loops cases) :
    Calls Try.prog 39 #[.pointer (some ⟨bb, 1, none⟩)] w fun e w' => e = .returned (.tuple #[.int .i64 0, .bool false]) ∧ w' = w := by
  obtain ⟨A, c, rfl⟩ := Kd.R_slice h.ho
  exact lastInt_empty bb 1 A c w _ h.box rfl
theorem pop2_calls {x : Int} (h : BD w base bb v0 v1 v2 v3 v4 o code origs (xs ++ [x]) loops cases) :
    Calls Try.prog 39 #[.pointer (some ⟨bb, 2, none⟩)] w fun e w' => e = .returned (.tuple #[.int .i64 x, .bool true]) ∧ ∃ v2', BD w' base bb v0 v1 v2' v3 v4 o code origs xs loops cases ∧ Below base w w' := by
  obtain ⟨A, c, rfl, hc, hC⟩ := Kd.R_reads h.hd
  have hz : (xs ++ [x]).length = xs.length + 1 := by simp
  rw [hz] at h hc hC
  refine (lastInt_calls bb 2 A xs.length c xs x w _ h.box rfl hc hC).mono ?_
  rintro e w' ⟨rfl, m, rfl⟩
  exact ⟨rfl, _, h.pop2 m, (pw_below_drewN' (Below.refl _ _) m).setCell h.hbb _⟩
theorem pop2_empty (h : BD w base bb v0 v1 v2 v3 v4 o code origs [] loops cases) :
    Calls Try.prog 39 #[.pointer (some ⟨bb, 2, none⟩)] w fun e w' => e = .returned (.tuple #[.int .i64 0, .bool false]) ∧ w' = w := by
  obtain ⟨A, c, rfl⟩ := Kd.R_slice h.hd
  exact lastInt_empty bb 2 A c w _ h.box rfl
theorem aim_bd (h : BD w base bb v0 v1 v2 v3 v4 o code origs dests loops cases) {base2 : Nat} {okl : Nat → Prop} {vl : Value} {l : List Int} (hL : Kd.R (Kd.int .i64) 3 w base2 okl vl l) (hin : ∀ x ∈ l, 0 ≤ x ∧ x < (code.length : Int)) (h256 : code.length ≤ 256) :
    Calls Try.prog 40 #[.pointer (some ⟨bb, 0, none⟩), vl] w fun e w' => e = .returned (.tuple #[]) ∧ BD w' base bb v0 v1 v2 v3 v4 o (aimed code.length code l) origs dests loops cases ∧ Below base w w' := by
  refine (aim_calls bb base base2 v0 v1 v2 v3 v4 vl code (fun _ => True) okl l w h.box h.hc hL hin h256).mono ?_
  rintro e w' ⟨rfl, hR, hK, hB⟩
  refine ⟨rfl, h.coded (hK.mono (fun k hk => .inr hk)) ?_ hR, hB⟩
  exact blk_kept h.box hK (Kd.R_ne h.hc h.box (by decide))
theorem two1 (h : BD w base bb v0 v1 v2 v3 v4 o code origs dests loops cases) {P : Program} {ops : Array Oper} {rest : List Oper} {Q : Exit → Act → World → Prop} {a : Act} {q : Oper} {s x : Operand} (n m : Int) {A : Option Addr} {c : Nat} (hv : v1 = .slice A origs.length c)
    (ht : P.underlying 23 = some (.slice 3)) (hi : (P.info? 3).map (fun i => (i.zero, i.size, i.bytes)) = some (some (.int .i64 0), 1, 8)) (hgd : q.guard = none) (hq : q.op = .call { callee := .builtin .append, args := #[s, x], argTypes := #[23, 23] }) (hs : a.eval s = v1) (hx : a.eval x = .slice (some ⟨w.heap.size, 0, none⟩) 2 2) (hl : origs.length < 4398046511104)
    (k : ∀ A1 c1 w2 o', BD (w2.setCell ⟨bb, 1, none⟩ (.slice A1 (origs.length + 2) c1)) base bb v0 (.slice A1 (origs.length + 2) c1) v2 v3 v4 o' code (origs ++ [n, m]) dests loops cases → Below base w w2 → w2.frozen? ⟨bb, 1, none⟩ = false → w2.cell? ⟨bb, 1, none⟩ = some (.slice A origs.length c) → wpList P ops Q rest (a.put q.dst (.slice A1 (origs.length + 2) c1)) w2) :
    wpList P ops Q (q :: rest) a (w.alloc (.cells #[.int .i64 n, .int .i64 m] 3)) := by
  have hbw : base ≤ w.heap.size := Nat.le_of_lt (Nat.lt_of_le_of_lt h.hbb h.lt)
  have hL := lit_R w base hbw [n, m] (by simp)
  have hLr := (Kd.R_reads' hL).2.2
  have hW : Below w.heap.size w (w.alloc (.cells #[.int .i64 n, .int .i64 m] 3)) := below_alloc (Below.refl _ _) _
  have h1 := h.below hW
  have hbW := Below.mono hW hbw
  have hsz : base ≤ (w.alloc (.cells #[.int .i64 n, .int .i64 m] 3)).heap.size := Nat.le_trans hbw hW.size
  have hL2 : (Kd.int .i64).C (w.alloc (.cells #[.int .i64 n, .int .i64 m] 3)) (some ⟨w.heap.size, 0, none⟩) 2 [n, m] := hLr
  clear hL hLr
  generalize w.alloc (.cells #[.int .i64 n, .int .i64 m] 3) = W at h1 hbW hsz hL2 ⊢
  refine Kd.R_append_rows (Kd.int .i64) (Rr := (Kd.int .i64).K W) (w0 := W) (W := W) base hgd s x 23 3 (.int .i64 0) 8 hq ht hi rfl (by decide) (by decide) v1 origs [n, m] (some ⟨w.heap.size, 0, none⟩) 2 2 (fun k => new_ W o 1 k = 1) (fun _ => False) hs hx (R_lt_mono h1.ho (fun k hk hlt => new_old hk hlt)) hL2 (fun x cs h => h) (fun _ h => h.elim) (fun k hk => new_new hk) (Below.refl _ _) hsz (by omega) ?_
  intro v1' w2 hR2 hB2 hg hat
  have h2 := h1.app1 hR2 hg
  have hb := blk_grown h1.box hg (Kd.R_ne h1.ho h1.box (by decide))
  have hf : w2.frozen? ⟨bb, 1, none⟩ = false := blk_frozen hb 1
  have hb2 : w2.cell? ⟨bb, 1, none⟩ = some v1 := (blk_cell hb 1).trans rfl
  obtain ⟨A1, c1, rfl⟩ := Kd.R_slice hR2
  have hz : (origs ++ [n, m]).length = origs.length + 2 := by simp
  rw [hz] at h2 ⊢
  exact k A1 c1 w2 _ h2 (hbW.trans hB2) hf (hv ▸ hb2)
set_option maxHeartbeats 2000000 in
theorem if_calls (h : BD w base bb v0 v1 v2 v3 v4 o code origs dests loops cases) (ho : origs.length < 4398046511104) :
    Calls Try.prog 23 #[.pointer (some ⟨bb, 0, none⟩), .int .i64 1] w (BPost base bb w (layP code 4 0 fun c => ⟨c, origs ++ [(code.length : Int)], dests, loops, cases⟩)) := by
  unfold layP
  by_cases hl : code.length < 256
  · rw [if_pos hl]
    generalize hr : (Sum.inl _ : Dr ⊕ Int) = r
    have HR := Aside0.mk hr
    clear hr
    go_enter Try.func23, Try.ntmps23
    go_wp2_with fail
    refine (lay_bd h 4 0 hl).mono ?_
    rintro e w1 ⟨rfl, v0', h1, hB1⟩
    obtain ⟨A, c, rfl⟩ := Kd.R_slice h1.ho
    have hb1 : w1.cell? ⟨bb, 1, none⟩ = some (.slice A origs.length c) := (blk_cell h1.box 1).trans rfl
    go_wp2_with (at_builtin; refine push1 h1 (code.length : Int) rfl Try.underlying23 infoI rfl rfl rfl rfl ho ?_)
    intro A1 c1 w2 h2 hB2 hf hb2
    go_wp2_with fail
    refine bodyPost_ret (v := .int .i64 0) (by simp [results, Try.results23, go_sem]) rfl ?_
    rw [← HR.out]
    exact ⟨hB1.trans (hB2.setCell h.hbb _), rfl, _, _, _, _, _, _, h2⟩
  · rw [if_neg hl]
    generalize hr : (Sum.inr _ : Dr ⊕ Int) = r
    have HR := Aside0.mk hr
    clear hr
    go_enter Try.func23, Try.ntmps23
    go_wp2_with fail
    refine (lay_bd_long h 4 0 hl).mono ?_
    rintro e w1 ⟨rfl, rfl⟩
    obtain ⟨A, c, rfl⟩ := Kd.R_slice h.ho
    have hb1 : w1.cell? ⟨bb, 1, none⟩ = some (.slice A origs.length c) := (blk_cell h.box 1).trans rfl
    go_wp2_with (at_builtin; refine push1 h 0 rfl Try.underlying23 infoI rfl rfl rfl rfl ho ?_)
    intro A1 c1 w2 h2 hB2 hf hb2
    go_wp2_with fail
    refine bodyPost_ret (v := .int .i64 3) (by simp [results, Try.results23, go_sem]) rfl ?_
    rw [← HR.out]
    exact ⟨hB2.setCell h.hbb _, rfl⟩
set_option maxHeartbeats 2000000 in
theorem ahead_calls {x : Int} (h : BD w base bb v0 v1 v2 v3 v4 o code (xs ++ [x]) dests loops cases) (ho : xs.length < 4398046511104) :
    Calls Try.prog 23 #[.pointer (some ⟨bb, 0, none⟩), .int .i64 2] w (BPost base bb w (layP code 3 0 fun c => ⟨c, xs ++ [(code.length : Int), x], dests, loops, cases⟩)) := by
  unfold layP
  by_cases hl : code.length < 256
  · rw [if_pos hl]
    generalize hr : (Sum.inl _ : Dr ⊕ Int) = r
    have HR := Aside0.mk hr
    clear hr
    go_enter Try.func23, Try.ntmps23
    go_wp2_with fail
    refine (pop1_calls h).mono ?_
    rintro e w0 ⟨rfl, v1', h0, hB0⟩
    go_wp2_with fail
    refine (lay_bd h0 3 0 hl).mono ?_
    rintro e w1 ⟨rfl, v0', h1, hB1⟩
    obtain ⟨A, c, rfl⟩ := Kd.R_slice h1.ho
    have hb1 : w1.cell? ⟨bb, 1, none⟩ = some (.slice A xs.length c) := (blk_cell h1.box 1).trans rfl
    go_wp2_with (at_builtin; refine two1 h1 (code.length : Int) x rfl Try.underlying23 infoI rfl rfl rfl rfl ho ?_)
    intro A1 c1 w2 o' h2 hB2 hf hb2
    go_wp2_with fail
    refine bodyPost_ret (v := .int .i64 0) (by simp [results, Try.results23, go_sem]) rfl ?_
    rw [← HR.out]
    exact ⟨(hB0.trans hB1).trans (hB2.setCell h.hbb _), rfl, _, _, _, _, _, _, h2⟩
  · rw [if_neg hl]
    generalize hr : (Sum.inr _ : Dr ⊕ Int) = r
    have HR := Aside0.mk hr
    clear hr
    go_enter Try.func23, Try.ntmps23
    go_wp2_with fail
    refine (pop1_calls h).mono ?_
    rintro e w0 ⟨rfl, v1', h0, hB0⟩
    go_wp2_with fail
    refine (lay_bd_long h0 3 0 hl).mono ?_
    rintro e w1 ⟨rfl, rfl⟩
    obtain ⟨A, c, rfl⟩ := Kd.R_slice h0.ho
    have hb1 : w1.cell? ⟨bb, 1, none⟩ = some (.slice A xs.length c) := (blk_cell h0.box 1).trans rfl
    go_wp2_with (at_builtin; refine two1 h0 0 x rfl Try.underlying23 infoI rfl rfl rfl rfl ho ?_)
    intro A1 c1 w2 o' h2 hB2 hf hb2
    go_wp2_with fail
    refine bodyPost_ret (v := .int .i64 3) (by simp [results, Try.results23, go_sem]) rfl ?_
    rw [← HR.out]
    exact ⟨hB0.trans (hB2.setCell h.hbb _), rfl⟩
set_option maxHeartbeats 2000000 in
theorem ahead_empty (h : BD w base bb v0 v1 v2 v3 v4 o code [] dests loops cases) : Calls Try.prog 23 #[.pointer (some ⟨bb, 0, none⟩), .int .i64 2] w (BPost base bb w (.inr 13)) := by
  go_enter Try.func23, Try.ntmps23
  go_wp2_with fail
  refine (pop1_empty h).mono ?_
  rintro e w0 ⟨rfl, rfl⟩
  go_wp2_with fail
  exact bodyPost_ret (v := .int .i64 13) (by simp [results, Try.results23, go_sem]) rfl ⟨Below.refl _ _, rfl⟩
set_option maxHeartbeats 2000000 in
theorem then_empty (h : BD w base bb v0 v1 v2 v3 v4 o code [] dests loops cases) : Calls Try.prog 23 #[.pointer (some ⟨bb, 0, none⟩), .int .i64 3] w (BPost base bb w (.inr 13)) := by
  go_enter Try.func23, Try.ntmps23
  go_wp2_with fail
  refine (pop1_empty h).mono ?_
  rintro e w0 ⟨rfl, rfl⟩
  go_wp2_with fail
  exact bodyPost_ret (v := .int .i64 13) (by simp [results, Try.results23, go_sem]) rfl ⟨Below.refl _ _, rfl⟩
set_option maxHeartbeats 2000000 in
theorem then_calls {x : Int} (h : BD w base bb v0 v1 v2 v3 v4 o code (xs ++ [x]) dests loops cases) (hx : 0 ≤ x ∧ x < (code.length : Int)) (h256 : code.length ≤ 256) :
    Calls Try.prog 23 #[.pointer (some ⟨bb, 0, none⟩), .int .i64 3] w (BPost base bb w (.inl ⟨aimed code.length code [x], xs, dests, loops, cases⟩)) := by
  go_enter Try.func23, Try.ntmps23
  go_wp2_with fail
  refine (pop1_calls h).mono ?_
  rintro e w0 ⟨rfl, v1', h0, hB0⟩
  go_wp2_with fail
  have hL := lit_R w0 0 (Nat.zero_le _) [x] (by simp)
  have hbw : base ≤ w0.heap.size := Nat.le_of_lt (Nat.lt_of_le_of_lt h0.hbb h0.lt)
  refine (aim_bd (h0.below (below_alloc (Below.refl _ _) (.cells #[.int .i64 x] 3))) hL (by intro y hy; simp at hy; subst hy; exact hx) h256).mono ?_
  rintro e w1 ⟨rfl, h1, hB1⟩
  go_wp2_with fail
  exact bodyPost_ret (v := .int .i64 0) (by simp [results, Try.results23, go_sem]) rfl ⟨(hB0.alloc hbw _).trans hB1, rfl, _, _, _, _, _, _, h1⟩
set_option maxHeartbeats 2000000 in
theorem again_empty (h : BD w base bb v0 v1 v2 v3 v4 o code origs [] loops cases) : Calls Try.prog 23 #[.pointer (some ⟨bb, 0, none⟩), .int .i64 5] w (BPost base bb w (.inr 13)) := by
  go_enter Try.func23, Try.ntmps23
  go_wp2_with fail
  refine (pop2_empty h).mono ?_
  rintro e w0 ⟨rfl, rfl⟩
  go_wp2_with fail
  exact bodyPost_ret (v := .int .i64 13) (by simp [results, Try.results23, go_sem]) rfl ⟨Below.refl _ _, rfl⟩
set_option maxHeartbeats 2000000 in
theorem again_calls {x : Int} (h : BD w base bb v0 v1 v2 v3 v4 o code origs (xs ++ [x]) loops cases) :
    Calls Try.prog 23 #[.pointer (some ⟨bb, 0, none⟩), .int .i64 5] w (BPost base bb w (layP code 3 x fun c => ⟨c, origs, xs, loops, cases⟩)) := by
  unfold layP
  by_cases hl : code.length < 256
  · rw [if_pos hl]
    generalize hr : (Sum.inl _ : Dr ⊕ Int) = r
    have HR := Aside0.mk hr
    clear hr
    go_enter Try.func23, Try.ntmps23
    go_wp2_with fail
    refine (pop2_calls h).mono ?_
    rintro e w0 ⟨rfl, v2', h0, hB0⟩
    go_wp2_with fail
    refine (lay_bd h0 3 x hl).mono ?_
    rintro e w1 ⟨rfl, v0', h1, hB1⟩
    go_wp2_with fail
    refine bodyPost_ret (v := .int .i64 0) (by simp [results, Try.results23, go_sem]) rfl ?_
    rw [← HR.out]
    exact ⟨hB0.trans hB1, rfl, _, _, _, _, _, _, h1⟩
  · rw [if_neg hl]
    generalize hr : (Sum.inr _ : Dr ⊕ Int) = r
    have HR := Aside0.mk hr
    clear hr
    go_enter Try.func23, Try.ntmps23
    go_wp2_with fail
    refine (pop2_calls h).mono ?_
    rintro e w0 ⟨rfl, v2', h0, hB0⟩
    go_wp2_with fail
    refine (lay_bd_long h0 3 x hl).mono ?_
    rintro e w1 ⟨rfl, rfl⟩
    go_wp2_with fail
    refine bodyPost_ret (v := .int .i64 3) (by simp [results, Try.results23, go_sem]) rfl ?_
    rw [← HR.out]
    exact ⟨hB0, rfl⟩
set_option maxHeartbeats 2000000 in
theorem until_empty (h : BD w base bb v0 v1 v2 v3 v4 o code origs [] loops cases) : Calls Try.prog 23 #[.pointer (some ⟨bb, 0, none⟩), .int .i64 6] w (BPost base bb w (.inr 13)) := by
  go_enter Try.func23, Try.ntmps23
  go_wp2_with fail
  refine (pop2_empty h).mono ?_
  rintro e w0 ⟨rfl, rfl⟩
  go_wp2_with fail
  exact bodyPost_ret (v := .int .i64 13) (by simp [results, Try.results23, go_sem]) rfl ⟨Below.refl _ _, rfl⟩
set_option maxHeartbeats 2000000 in
theorem until_calls {x : Int} (h : BD w base bb v0 v1 v2 v3 v4 o code origs (xs ++ [x]) loops cases) :
    Calls Try.prog 23 #[.pointer (some ⟨bb, 0, none⟩), .int .i64 6] w (BPost base bb w (layP code 4 x fun c => ⟨c, origs, xs, loops, cases⟩)) := by
  unfold layP
  by_cases hl : code.length < 256
  · rw [if_pos hl]
    generalize hr : (Sum.inl _ : Dr ⊕ Int) = r
    have HR := Aside0.mk hr
    clear hr
    go_enter Try.func23, Try.ntmps23
    go_wp2_with fail
    refine (pop2_calls h).mono ?_
    rintro e w0 ⟨rfl, v2', h0, hB0⟩
    go_wp2_with fail
    refine (lay_bd h0 4 x hl).mono ?_
    rintro e w1 ⟨rfl, v0', h1, hB1⟩
    go_wp2_with fail
    refine bodyPost_ret (v := .int .i64 0) (by simp [results, Try.results23, go_sem]) rfl ?_
    rw [← HR.out]
    exact ⟨hB0.trans hB1, rfl, _, _, _, _, _, _, h1⟩
  · rw [if_neg hl]
    generalize hr : (Sum.inr _ : Dr ⊕ Int) = r
    have HR := Aside0.mk hr
    clear hr
    go_enter Try.func23, Try.ntmps23
    go_wp2_with fail
    refine (pop2_calls h).mono ?_
    rintro e w0 ⟨rfl, v2', h0, hB0⟩
    go_wp2_with fail
    refine (lay_bd_long h0 4 x hl).mono ?_
    rintro e w1 ⟨rfl, rfl⟩
    go_wp2_with fail
    refine bodyPost_ret (v := .int .i64 3) (by simp [results, Try.results23, go_sem]) rfl ?_
    rw [← HR.out]
    exact ⟨hB0, rfl⟩
end
end Go.Proofs.Ytmglkgjnhoojaaa.PCodeRows
