/- The reference's Same (14) and SameOps (19): of the same they answer true. -/
import Derived.Test.YtmglkgjnhoojaaatkF
import Derived.Test.YtmglkgjnhoojaaatkA
namespace Go.Proofs.Ytmglkgjnhoojaaa.PCodeRows
open Go.RowKit Go.Proofs.YtmglkgjnhoojaaaW.PrintWords Go.Proofs.YtmglkgjnhoojaaaW.PrintLast Go.Proofs.YtmglkgjnhoojaaaW.PrintMore
set_option linter.unusedVariables false
set_option linter.unusedSimpArgs false
theorem wrap_succ {i : Nat} (h : i < 9223372036854775807) : wrap64 ((i : Int) + 1) = ((i + 1 : Nat) : Int) := by unfold wrap64; omega
theorem sameOps_l (l : List S37) (hl : l.length ≤ 9223372036854775807) : ∀ m i k : Nat, i + m = l.length → m < k → tinderref10_SameOps.l0 k l l (i : Int) = some true := by
  intro m
  induction m with
  | zero =>
    intro i k hi hk
    obtain ⟨k, rfl⟩ : ∃ j, k = j + 1 := ⟨k - 1, by omega⟩
    rw [tinderref10_SameOps.l0, if_neg (by omega)]
  | succ m ih =>
    intro i k hi hk
    obtain ⟨k, rfl⟩ : ∃ j, k = j + 1 := ⟨k - 1, by omega⟩
    rw [tinderref10_SameOps.l0, if_pos (by omega), if_pos (by omega), if_pos (by omega), if_neg (by simp), wrap_succ (by omega)]
    exact ih (i + 1) k (by omega) (by omega)
theorem sameOps_f (l : List S37) (hl : l.length ≤ 9223372036854775807) (k : Nat) (hk : l.length < k) : tinderref10_SameOps.f k l l = some true := by
  unfold tinderref10_SameOps.f
  rw [if_pos rfl]
  exact sameOps_l l hl l.length 0 k (by omega) hk
theorem sameInts_l (l : List Int) (hl : l.length ≤ 9223372036854775807) : ∀ m i k : Nat, i + m = l.length → m < k → tinderref10_sameInts.l0 k l l (i : Int) = some true := by
  intro m
  induction m with
  | zero =>
    intro i k hi hk
    obtain ⟨k, rfl⟩ : ∃ j, k = j + 1 := ⟨k - 1, by omega⟩
    rw [tinderref10_sameInts.l0, if_neg (by omega)]
  | succ m ih =>
    intro i k hi hk
    obtain ⟨k, rfl⟩ : ∃ j, k = j + 1 := ⟨k - 1, by omega⟩
    rw [tinderref10_sameInts.l0, if_pos (by omega), if_pos (by omega), if_pos (by omega), if_pos rfl, wrap_succ (by omega)]
    exact ih (i + 1) k (by omega) (by omega)
theorem sameInts_f (l : List Int) (hl : l.length ≤ 9223372036854775807) (k : Nat) (hk : l.length < k) : tinderref10_sameInts.f k l l = some true := by
  unfold tinderref10_sameInts.f
  rw [if_pos rfl]
  exact sameInts_l l hl l.length 0 k (by omega) hk
theorem sameOpen_l (l : List S59) (hl : l.length ≤ 9223372036854775807) (B : Nat) (hB : B ≤ 9223372036854775807) (ho : ∀ x ∈ l, x.f1.length ≤ B) : ∀ m i k : Nat, i + m = l.length → m + B < k → tinderref10_sameOpen.l0 k l l (i : Int) = some true := by
  intro m
  induction m with
  | zero =>
    intro i k hi hk
    obtain ⟨k, rfl⟩ : ∃ j, k = j + 1 := ⟨k - 1, by omega⟩
    rw [tinderref10_sameOpen.l0, if_neg (by omega)]
  | succ m ih =>
    intro i k hi hk
    obtain ⟨k, rfl⟩ : ∃ j, k = j + 1 := ⟨k - 1, by omega⟩
    have hlt : i < l.length := by omega
    have e : rd_T59 l (i : Int) = l[i] := by simp [rd_T59, List.getD_eq_getElem?_getD, hlt]
    have hx := ho _ (List.getElem_mem hlt)
    rw [tinderref10_sameOpen.l0, if_pos (by omega), if_pos (by omega), if_pos (by omega), if_pos rfl, e, sameInts_f _ (by omega) k (by omega), Option.bind_some, if_pos rfl, wrap_succ (by omega)]
    exact ih (i + 1) k (by omega) (by omega)
theorem sameOpen_f (l : List S59) (hl : l.length ≤ 9223372036854775807) (B : Nat) (hB : B ≤ 9223372036854775807) (ho : ∀ x ∈ l, x.f1.length ≤ B) (k : Nat) (hk : l.length + B < k) : tinderref10_sameOpen.f k l l = some true := by
  unfold tinderref10_sameOpen.f
  rw [if_pos rfl]
  exact sameOpen_l l hl B hB ho l.length 0 k (by omega) hk
theorem same_f {d : Dr} {N : Nat} (h : Bnd d N) (hN : N ≤ 1099511627776) : tinderref10_Same.f (N + N + 1) d.code d.origs d.dests d.loops d.cases d.code d.origs d.dests d.loops d.cases = some true := by
  have h0 := h.code
  have h1 := h.origs
  have h2 := h.dests
  have h3 := h.loops
  have h4 := h.cases
  unfold tinderref10_Same.f
  rw [sameOps_f _ (by omega) _ (by omega), Option.bind_some, if_pos rfl, sameInts_f _ (by omega) _ (by omega), Option.bind_some, if_pos rfl, sameInts_f _ (by omega) _ (by omega), Option.bind_some, if_pos rfl, sameOpen_f _ (by omega) N (by omega) h.louts _ (by omega), Option.bind_some, if_pos rfl, sameOpen_f _ (by omega) N (by omega) h.couts _ (by omega), Option.bind_some]
theorem same_calls {A0 A1 A2 A3 A4 B0 B1 B2 B3 B4 : Option Addr} {c0 c1 c2 c3 c4 b0 b1 b2 b3 b4 N : Nat} {d : Dr} {w : World} (h : DrC w A0 A1 A2 A3 A4 c0 c1 c2 c3 c4 d.code d.origs d.dests d.loops d.cases) (h' : DrC w B0 B1 B2 B3 B4 b0 b1 b2 b3 b4 d.code d.origs d.dests d.loops d.cases) (hN : Bnd d N) (hN2 : N ≤ 1099511627776) :
    Calls Try.prog 14 #[drV A0 A1 A2 A3 A4 c0 c1 c2 c3 c4 d.code.length d.origs.length d.dests.length d.loops.length d.cases.length, drV B0 B1 B2 B3 B4 b0 b1 b2 b3 b4 d.code.length d.origs.length d.dests.length d.loops.length d.cases.length] w fun e w' => e = .returned (.bool true) ∧ Below w.heap.size w w' :=
  tinderref10_Same.calls (N + N + 1) A0 c0 _ A1 c1 _ A2 c2 _ A3 c3 _ A4 c4 _ B0 b0 _ B1 b1 _ B2 b2 _ B3 b3 _ B4 b4 _ true w h.r0 h.l0 h.r1 h.l1 h.r2 h.l2 h.r3 h.l3 h.r4 h.l4 h'.r0 h'.l0 h'.r1 h'.l1 h'.r2 h'.l2 h'.r3 h'.l3 h'.r4 h'.l4 (same_f hN hN2)
end Go.Proofs.Ytmglkgjnhoojaaa.PCodeRows
/- The reference's Copy (9): a draft with rows of its own, each in blocks of its own. -/
namespace Go.Proofs.Ytmglkgjnhoojaaa.PCodeRows
open Go.RowKit Go.Proofs.YtmglkgjnhoojaaaW.PrintWords Go.Proofs.YtmglkgjnhoojaaaW.PrintLast Go.Proofs.YtmglkgjnhoojaaaW.PrintMore
set_option linter.unusedVariables false
set_option linter.unusedSimpArgs false
/-- Behind an append to the code's row. -/
theorem C5.coded {w w1 : World} {base : Nat} {v0 v1 v2 v3 v4 v' : Value} {o : Nat → Nat} {code code' : List S37} {origs dests : List Int} {loops cases : List S59} (h : C5 w base v0 v1 v2 v3 v4 o code origs dests loops cases) (hg : w.grownBy w1 v0.ownBlock) (hR : Kd.R k37 37 w1 base (fun _ => True) v' code') :
    C5 w1 base v' v1 v2 v3 v4 o code' origs dests loops cases := by
  have hK : Kept w w1 (fun k => some k = v0.ownBlock) := ⟨hg.size, fun k hk hn => hg.block k hk hn⟩
  have away : ∀ {k q : Nat} {cells : Array Value}, q = 3 ∨ q = 59 → w.heap[k]? = some (.cells cells q (0, 0)) → ¬ some k = v0.ownBlock := by
    intro k q cells hq hk hk2
    obtain ⟨c2, h2⟩ := Kd.R_typed h.c3.hc k hk2.symm
    have := h2.symm.trans hk
    injection this with this
    injection this with _ h3
    rcases hq with rfl | rfl <;> exact absurd h3 (by decide)
  exact ⟨⟨hR, R_kept h.c3.ho hK (fun k q cells _ hq hc => away (q3 hq) hc), R_kept h.c3.hd hK (fun k q cells _ hq hc => away (q3 hq) hc)⟩, S_kept h.hl hK (fun k q cells _ hq hc => away (q59 hq) hc), S_kept h.hs hK (fun k q cells _ hq hc => away (q59 hq) hc)⟩
theorem R_append_at {α : Type} {P : Program} {ops : Array Oper} {rest : List Oper} {o : Oper} {a : Act} {Q : Exit → Act → World → Prop} (d : Kd α) {w0 W : World} (base g : Nat) (hW : W.heap.size = g) (hgd : o.guard = none) (s x : Operand) (t e : TypeId) (z : Value) (bytes : Nat)
    (ho : o.op = .call { callee := .builtin .append, args := #[s, x], argTypes := #[t, t] })
    (ht : P.underlying t = some (.slice e)) (hinfo : (P.info? e).map (fun i => (i.zero, i.size, i.bytes)) = some (some z, d.sz, bytes)) (hz : z.cells.size = d.sz) (hs0 : 0 < d.sz) (hb0 : 0 < bytes)
    (v : Value) (xs : List α) (p : α) (cs : List Value) (ok okp : Nat → Prop) (hs : a.eval s = v) (hx : a.eval x = .slice (some ⟨g, 0, none⟩) 1 1) (hp : d.M W base okp p cs) (hokp : ∀ k, okp k → ok k ∧ some k ≠ v.ownBlock) (hfresh : ∀ k, W.heap.size ≤ k → ok k)
    (HO : d.R e W base ok v xs) (HB : Below base w0 W) (hbase : base ≤ W.heap.size) (hl : (xs.length + 1) * bytes ≤ 140737488355328)
    (h : ∀ v1 w1, d.R e w1 base ok v1 (xs ++ [p]) → Below base w0 w1 → W.grownBy w1 v.ownBlock → wpList P ops Q rest (a.put o.dst v1) w1) :
    wpList P ops Q (o :: rest) a (W.alloc (.cells cs.toArray e)) := by
  subst hW
  exact Kd.R_append d base hgd s x t e z bytes ho ht hinfo hz hs0 hb0 v xs p cs ok okp hs hx hp hokp hfresh HO HB hbase hl (fun v1 w1 h1 h2 h3 _ => h v1 w1 h1 h2 h3)
theorem copyOpen_l (l : List S59) (hl : l.length < 4398046511104) (ho : ∀ x ∈ l, x.f1.length < 17592186044416) : ∀ m i : Nat, i + m = l.length → tinderref10_copyOpen.l0 (m + 1) l (l.take i) (i : Int) = some l := by
  intro m
  induction m with
  | zero =>
    intro i hi
    simp only [tinderref10_copyOpen.l0]
    rw [if_neg (by omega), List.take_of_length_le (by omega)]
  | succ m ih =>
    intro i hi
    have hlt : i < l.length := by omega
    have e : rd_T59 l (i : Int) = l[i] := by simp [rd_T59, List.getD_eq_getElem?_getD, hlt]
    have hx := ho _ (List.getElem_mem hlt)
    have ht : l.take (i + 1) = l.take i ++ [l[i]] := by rw [List.take_add_one, List.getElem?_eq_getElem hlt]; rfl
    have hw : wrap64 ((i : Int) + 1) = ((i + 1 : Nat) : Int) := by unfold wrap64; omega
    rw [tinderref10_copyOpen.l0, if_pos (by omega), if_pos (by omega), e, if_pos (by simp; omega), if_pos (by rw [List.length_take]; omega), hw]
    have h2 := ih (i + 1) (by omega)
    rw [ht] at h2
    exact h2
theorem copyOpen_f (l : List S59) (hl : l.length < 4398046511104) (ho : ∀ x ∈ l, x.f1.length < 17592186044416) : tinderref10_copyOpen.f (l.length + 1) l = some l := by
  have := copyOpen_l l hl ho l.length 0 (by omega)
  simpa [tinderref10_copyOpen.f] using this
theorem copyOpen_calls (A : Option Addr) (c : Nat) (l : List S59) (w : World) (h : Kd.C k59 w A l.length l) (hc : l.length ≤ c) (hl : l.length < 4398046511104 - 1) (ho : ∀ x ∈ l, x.f1.length < 4398046511104 - 1) :
    Calls Try.prog 21 #[.slice A l.length c] w fun e w' => ∃ v, e = .returned v ∧ Kd.S k59 59 w' w.heap.size (fun _ => True) v l ∧ Below w.heap.size w w' :=
  tinderref10_copyOpen.calls (l.length + 1) A c l l w h hc (copyOpen_f l (by omega) (fun x hx => by have := ho x hx; omega))
theorem below_grown {W w1 : World} (hg : W.grownBy w1 (Value.slice none 0 0).ownBlock) : Below W.heap.size W w1 := ⟨hg.os, hg.tape, hg.output, hg.size, fun i hi => hg.block i hi (by simp [Value.ownBlock])⟩
theorem k37_KM {w : World} {base : Nat} {ok : Nat → Prop} : ∀ x cs, k37.K w x cs → k37.M w base ok x cs := fun x cs h => by have := k37_open h; subst this; exact k37_mkM _ _ _ x
set_option maxHeartbeats 4000000 in
theorem copy_calls (A0 A1 A2 A3 A4 : Option Addr) (c0 c1 c2 c3 c4 : Nat) (code : List S37) (origs dests : List Int) (loops cases : List S59) (w : World) (h : DrC w A0 A1 A2 A3 A4 c0 c1 c2 c3 c4 code origs dests loops cases) (hs : Small code origs dests loops cases) (hm : Room ⟨code, origs, dests, loops, cases⟩) :
    Calls Try.prog 9 #[drV A0 A1 A2 A3 A4 c0 c1 c2 c3 c4 code.length origs.length dests.length loops.length cases.length] w fun e w' => ∃ (B0 B1 B2 B3 B4 : Option Addr) (b0 b1 b2 b3 b4 : Nat) (o : Nat → Nat), e = .returned (drV B0 B1 B2 B3 B4 b0 b1 b2 b3 b4 code.length origs.length dests.length loops.length cases.length) ∧ C5 w' w.heap.size (.slice B0 code.length b0) (.slice B1 origs.length b1) (.slice B2 dests.length b2) (.slice B3 loops.length b3) (.slice B4 cases.length b4) o code origs dests loops cases ∧ Below w.heap.size w w' := by
  have HH := Aside0.mk h
  have HS := Aside0.mk hs
  have HM := Aside0.mk hm
  have hsz : (w.alloc (.cells #[.slice A0 code.length c0, .slice A1 origs.length c1, .slice A2 dests.length c2, .slice A3 loops.length c3, .slice A4 cases.length c4] 26)).heap.size = w.heap.size + 1 := by simp
  have hsz2 : ((w.alloc (.cells #[.slice A0 code.length c0, .slice A1 origs.length c1, .slice A2 dests.length c2, .slice A3 loops.length c3, .slice A4 cases.length c4] 26)).alloc (.cells #[.slice none 0 0, .slice none 0 0, .slice none 0 0, .slice none 0 0, .slice none 0 0] 26)).heap.size = w.heap.size + 1 + 1 := by simp
  have HD := blk_alloc (blk_alloc (blk_new w (.cells #[.slice A0 code.length c0, .slice A1 origs.length c1, .slice A2 dests.length c2, .slice A3 loops.length c3, .slice A4 cases.length c4] 26)) (.cells #[.slice none 0 0, .slice none 0 0, .slice none 0 0, .slice none 0 0, .slice none 0 0] 26)) (.cells #[.slice none 0 0, .slice none 0 0, .slice none 0 0, .slice none 0 0, .slice none 0 0] 26)
  have HR := blk_alloc (blk_new (w.alloc (.cells #[.slice A0 code.length c0, .slice A1 origs.length c1, .slice A2 dests.length c2, .slice A3 loops.length c3, .slice A4 cases.length c4] 26)) (.cells #[.slice none 0 0, .slice none 0 0, .slice none 0 0, .slice none 0 0, .slice none 0 0] 26)) (.cells #[.slice none 0 0, .slice none 0 0, .slice none 0 0, .slice none 0 0, .slice none 0 0] 26)
  rw [hsz] at HR
  have HX := blk_new ((w.alloc (.cells #[.slice A0 code.length c0, .slice A1 origs.length c1, .slice A2 dests.length c2, .slice A3 loops.length c3, .slice A4 cases.length c4] 26)).alloc (.cells #[.slice none 0 0, .slice none 0 0, .slice none 0 0, .slice none 0 0, .slice none 0 0] 26)) (.cells #[.slice none 0 0, .slice none 0 0, .slice none 0 0, .slice none 0 0, .slice none 0 0] 26)
  rw [hsz2] at HX
  have HB := below_alloc (below_alloc (below_alloc (Below.refl w.heap.size w) (.cells #[.slice A0 code.length c0, .slice A1 origs.length c1, .slice A2 dests.length c2, .slice A3 loops.length c3, .slice A4 cases.length c4] 26)) (.cells #[.slice none 0 0, .slice none 0 0, .slice none 0 0, .slice none 0 0, .slice none 0 0] 26)) (.cells #[.slice none 0 0, .slice none 0 0, .slice none 0 0, .slice none 0 0, .slice none 0 0] 26)
  clear h hs hm hsz hsz2
  have d0 : (((w.alloc (.cells #[.slice A0 code.length c0, .slice A1 origs.length c1, .slice A2 dests.length c2, .slice A3 loops.length c3, .slice A4 cases.length c4] 26)).alloc (.cells #[.slice none 0 0, .slice none 0 0, .slice none 0 0, .slice none 0 0, .slice none 0 0] 26)).alloc (.cells #[.slice none 0 0, .slice none 0 0, .slice none 0 0, .slice none 0 0, .slice none 0 0] 26)).cell? ⟨w.heap.size, 0, none⟩ = some (.slice A0 code.length c0) := (blk_cell HD 0).trans rfl
  have y0 : (((w.alloc (.cells #[.slice A0 code.length c0, .slice A1 origs.length c1, .slice A2 dests.length c2, .slice A3 loops.length c3, .slice A4 cases.length c4] 26)).alloc (.cells #[.slice none 0 0, .slice none 0 0, .slice none 0 0, .slice none 0 0, .slice none 0 0] 26)).alloc (.cells #[.slice none 0 0, .slice none 0 0, .slice none 0 0, .slice none 0 0, .slice none 0 0] 26)).cell? ⟨w.heap.size + 1 + 1, 0, none⟩ = some (.slice none 0 0) := (blk_cell HX 0).trans rfl
  replace HD := Aside0.mk HD
  replace HR := Aside0.mk HR
  replace HX := Aside0.mk HX
  replace HB := Aside0.mk HB
  go_enter Try.func9, Try.ntmps9
  go_wp2_with (at_builtin; refine Kd.R_append_rows k37 (Rr := k37.K (((w.alloc (.cells #[.slice A0 code.length c0, .slice A1 origs.length c1, .slice A2 dests.length c2, .slice A3 loops.length c3, .slice A4 cases.length c4] 26)).alloc (.cells #[.slice none 0 0, .slice none 0 0, .slice none 0 0, .slice none 0 0, .slice none 0 0] 26)).alloc (.cells #[.slice none 0 0, .slice none 0 0, .slice none 0 0, .slice none 0 0, .slice none 0 0] 26))) (w0 := (((w.alloc (.cells #[.slice A0 code.length c0, .slice A1 origs.length c1, .slice A2 dests.length c2, .slice A3 loops.length c3, .slice A4 cases.length c4] 26)).alloc (.cells #[.slice none 0 0, .slice none 0 0, .slice none 0 0, .slice none 0 0, .slice none 0 0] 26)).alloc (.cells #[.slice none 0 0, .slice none 0 0, .slice none 0 0, .slice none 0 0, .slice none 0 0] 26))) (W := (((w.alloc (.cells #[.slice A0 code.length c0, .slice A1 origs.length c1, .slice A2 dests.length c2, .slice A3 loops.length c3, .slice A4 cases.length c4] 26)).alloc (.cells #[.slice none 0 0, .slice none 0 0, .slice none 0 0, .slice none 0 0, .slice none 0 0] 26)).alloc (.cells #[.slice none 0 0, .slice none 0 0, .slice none 0 0, .slice none 0 0, .slice none 0 0] 26))) w.heap.size rfl _ _ 22 37 (.agg #[(.int .i64 0), (.int .u32 0)]) 16 rfl Try.underlying22 info37 rfl (by decide) (by decide) (.slice none 0 0) [] code A0 code.length c0 (fun _ => True) (fun _ => False) rfl rfl (Kd.R_nil _ _ _ _ _) (Kd.C_below HH.out.r0 HB.out) k37_KM (fun _ h => h.elim) (fun _ _ => trivial) (Below.refl _ _) HB.out.size (by simp; have := HS.out.s0; omega) ?_)
  intro v w4 hR0 hB0 hg0 hat0
  clear hat0 hB0
  obtain ⟨B0, b0, rfl⟩ := Kd.R_slice hR0
  have hb0 := below_grown hg0
  clear hg0 d0 y0
  have HX1 := Aside0.mk (blk_below HX.out hb0)
  have HD1 := Aside0.mk (blk_far (blk_below HD.out hb0) (p := ⟨w.heap.size + 1 + 1, 0, none⟩) (by show w.heap.size ≠ w.heap.size + 1 + 1; omega) (.slice B0 code.length b0))
  have HR1 := Aside0.mk (blk_far (blk_below HR.out hb0) (p := ⟨w.heap.size + 1 + 1, 0, none⟩) (by show w.heap.size + 1 ≠ w.heap.size + 1 + 1; omega) (.slice B0 code.length b0))
  have HX2 := Aside0.mk (blk_put HX1.out 0 (.slice B0 code.length b0) rfl)
  have HB1 := Aside0.mk ((below_step HB.out hb0).setCell (p := ⟨w.heap.size + 1 + 1, 0, none⟩) (by show w.heap.size ≤ w.heap.size + 1 + 1; omega) (.slice B0 code.length b0))
  have hf := blk_frozen HX1.out 0
  have x0 : w4.cell? ⟨w.heap.size + 1 + 1, 0, none⟩ = some (.slice none 0 0) := (blk_cell HX1.out 0).trans rfl
  have h0 := Aside0.mk (Kd.R_set hR0 HX1.out (fun q hq => n26a hq) 0 (.slice B0 code.length b0))
  clear hR0 hb0 HB HX HD HR
  have HB := HB1
  have HX := HX2
  have HD := HD1
  have HR := HR1
  clear HB1 HX1 HX2 HD1 HR1
  have d1 : (w4.setCell ⟨w.heap.size + 1 + 1, 0, none⟩ (.slice B0 code.length b0)).cell? ⟨w.heap.size, 1, none⟩ = some (.slice A1 origs.length c1) := (blk_cell HD.out 1).trans rfl
  have y1 : (w4.setCell ⟨w.heap.size + 1 + 1, 0, none⟩ (.slice B0 code.length b0)).cell? ⟨w.heap.size + 1 + 1, 1, none⟩ = some (.slice none 0 0) := (blk_cell HX.out 1).trans rfl
  go_wp2_with (at_builtin; refine Kd.R_append_rows (Kd.int .i64) (Rr := (Kd.int .i64).K (w4.setCell ⟨w.heap.size + 1 + 1, 0, none⟩ (.slice B0 code.length b0))) (w0 := (w4.setCell ⟨w.heap.size + 1 + 1, 0, none⟩ (.slice B0 code.length b0))) (W := (w4.setCell ⟨w.heap.size + 1 + 1, 0, none⟩ (.slice B0 code.length b0))) w.heap.size rfl _ _ 23 3 (.int .i64 0) 8 rfl Try.underlying23 infoI rfl (by decide) (by decide) (.slice none 0 0) [] origs A1 origs.length c1 (fun k => new_ (w4.setCell ⟨w.heap.size + 1 + 1, 0, none⟩ (.slice B0 code.length b0)) (fun _ => 0) 1 k = 1) (fun _ => False) rfl rfl (Kd.R_nil _ _ _ _ _) (Kd.C_below HH.out.r1 HB.out) (fun x cs h => h) (fun _ h => h.elim) (fun k hk => new_new hk) (Below.refl _ _) HB.out.size (by simp; have := HS.out.s1; omega) ?_)
  intro v w5 hR1 hB1 hg1 hat1
  clear hat1 hB1
  obtain ⟨B1, b1, rfl⟩ := Kd.R_slice hR1
  have hb1 := below_grown hg1
  clear hg1 d1 y1
  have HX1 := Aside0.mk (blk_below HX.out hb1)
  have HD1 := Aside0.mk (blk_far (blk_below HD.out hb1) (p := ⟨w.heap.size + 1 + 1, 1, none⟩) (by show w.heap.size ≠ w.heap.size + 1 + 1; omega) (.slice B1 origs.length b1))
  have HR1 := Aside0.mk (blk_far (blk_below HR.out hb1) (p := ⟨w.heap.size + 1 + 1, 1, none⟩) (by show w.heap.size + 1 ≠ w.heap.size + 1 + 1; omega) (.slice B1 origs.length b1))
  have HX2 := Aside0.mk (blk_put HX1.out 1 (.slice B1 origs.length b1) rfl)
  have HB1 := Aside0.mk ((below_step HB.out hb1).setCell (p := ⟨w.heap.size + 1 + 1, 1, none⟩) (by show w.heap.size ≤ w.heap.size + 1 + 1; omega) (.slice B1 origs.length b1))
  have hf := blk_frozen HX1.out 1
  have x1 : w5.cell? ⟨w.heap.size + 1 + 1, 1, none⟩ = some (.slice none 0 0) := (blk_cell HX1.out 1).trans rfl
  have h0' := Aside0.mk (Kd.R_set (Kd.R_below h0.out hb1) HX1.out (fun q hq => n26a hq) 1 (.slice B1 origs.length b1))
  have h1 := Aside0.mk (Kd.R_set hR1 HX1.out (fun q hq => n26b hq) 1 (.slice B1 origs.length b1))
  clear h0
  have h0 := h0'
  clear h0'
  clear hR1 hb1 HB HX HD HR
  have HB := HB1
  have HX := HX2
  have HD := HD1
  have HR := HR1
  clear HB1 HX1 HX2 HD1 HR1
  have d2 : (w5.setCell ⟨w.heap.size + 1 + 1, 1, none⟩ (.slice B1 origs.length b1)).cell? ⟨w.heap.size, 2, none⟩ = some (.slice A2 dests.length c2) := (blk_cell HD.out 2).trans rfl
  have y2 : (w5.setCell ⟨w.heap.size + 1 + 1, 1, none⟩ (.slice B1 origs.length b1)).cell? ⟨w.heap.size + 1 + 1, 2, none⟩ = some (.slice none 0 0) := (blk_cell HX.out 2).trans rfl
  go_wp2_with (at_builtin; refine Kd.R_append_rows (Kd.int .i64) (Rr := (Kd.int .i64).K (w5.setCell ⟨w.heap.size + 1 + 1, 1, none⟩ (.slice B1 origs.length b1))) (w0 := (w5.setCell ⟨w.heap.size + 1 + 1, 1, none⟩ (.slice B1 origs.length b1))) (W := (w5.setCell ⟨w.heap.size + 1 + 1, 1, none⟩ (.slice B1 origs.length b1))) w.heap.size rfl _ _ 23 3 (.int .i64 0) 8 rfl Try.underlying23 infoI rfl (by decide) (by decide) (.slice none 0 0) [] dests A2 dests.length c2 (fun k => new_ (w5.setCell ⟨w.heap.size + 1 + 1, 1, none⟩ (.slice B1 origs.length b1)) (new_ (w4.setCell ⟨w.heap.size + 1 + 1, 0, none⟩ (.slice B0 code.length b0)) (fun _ => 0) 1) 2 k = 2) (fun _ => False) rfl rfl (Kd.R_nil _ _ _ _ _) (Kd.C_below HH.out.r2 HB.out) (fun x cs h => h) (fun _ h => h.elim) (fun k hk => new_new hk) (Below.refl _ _) HB.out.size (by simp; have := HS.out.s2; omega) ?_)
  intro v w6 hR2 hB2 hg2 hat2
  clear hat2 hB2
  obtain ⟨B2, b2, rfl⟩ := Kd.R_slice hR2
  have hb2 := below_grown hg2
  clear hg2 d2 y2
  have HX1 := Aside0.mk (blk_below HX.out hb2)
  have HD1 := Aside0.mk (blk_far (blk_below HD.out hb2) (p := ⟨w.heap.size + 1 + 1, 2, none⟩) (by show w.heap.size ≠ w.heap.size + 1 + 1; omega) (.slice B2 dests.length b2))
  have HR1 := Aside0.mk (blk_far (blk_below HR.out hb2) (p := ⟨w.heap.size + 1 + 1, 2, none⟩) (by show w.heap.size + 1 ≠ w.heap.size + 1 + 1; omega) (.slice B2 dests.length b2))
  have HX2 := Aside0.mk (blk_put HX1.out 2 (.slice B2 dests.length b2) rfl)
  have HB1 := Aside0.mk ((below_step HB.out hb2).setCell (p := ⟨w.heap.size + 1 + 1, 2, none⟩) (by show w.heap.size ≤ w.heap.size + 1 + 1; omega) (.slice B2 dests.length b2))
  have hf := blk_frozen HX1.out 2
  have x2 : w6.cell? ⟨w.heap.size + 1 + 1, 2, none⟩ = some (.slice none 0 0) := (blk_cell HX1.out 2).trans rfl
  have h3 := Aside0.mk ((C3.mk (o := new_ (w5.setCell ⟨w.heap.size + 1 + 1, 1, none⟩ (.slice B1 origs.length b1)) (new_ (w4.setCell ⟨w.heap.size + 1 + 1, 0, none⟩ (.slice B0 code.length b0)) (fun _ => 0) 1) 2) (Kd.R_below h0.out hb2) (Kd.R_below (R_lt_mono h1.out (fun k hk hl => new_old hk hl)) hb2) hR2).set HX1.out 2 (.slice B2 dests.length b2))
  clear h0 h1
  clear hR2 hb2 HB HX HD HR
  have HB := HB1
  have HX := HX2
  have HD := HD1
  have HR := HR1
  clear HB1 HX1 HX2 HD1 HR1
  have d3 : (w6.setCell ⟨w.heap.size + 1 + 1, 2, none⟩ (.slice B2 dests.length b2)).cell? ⟨w.heap.size, 3, none⟩ = some (.slice A3 loops.length c3) := (blk_cell HD.out 3).trans rfl
  have y3 : (w6.setCell ⟨w.heap.size + 1 + 1, 2, none⟩ (.slice B2 dests.length b2)).cell? ⟨w.heap.size + 1 + 1, 3, none⟩ = some (.slice none 0 0) := (blk_cell HX.out 3).trans rfl
  go_wp2_with fail
  clear d3 y3
  generalize w6.setCell ⟨w.heap.size + 1 + 1, 2, none⟩ (.slice B2 dests.length b2) = W3 at HB HX HD HR h3 ⊢
  generalize new_ (w5.setCell ⟨w.heap.size + 1 + 1, 1, none⟩ (.slice B1 origs.length b1)) (new_ (w4.setCell ⟨w.heap.size + 1 + 1, 0, none⟩ (.slice B0 code.length b0)) (fun _ => 0) 1) 2 = o2 at h3
  refine (copyOpen_calls A3 c3 loops W3 (Kd.C_below HH.out.r3 HB.out) HH.out.l3 HM.out.loops HM.out.louts).mono ?_
  rintro e w7 ⟨v, rfl, hS, hb⟩
  obtain ⟨B3, b3, rfl⟩ := Kd.S_slice hS
  have HX1 := Aside0.mk (blk_below HX.out hb)
  have hn := Kd.S_set (Kd.S_lower (Kd.S_mono (Kd.S_bound hS) (ok' := fun k => new_ W3 o2 3 k = 3) (fun k hk => new_new hk.2.1)) HB.out.size) HX1.out (fun q hq => n26c hq) 3 (.slice B3 loops.length b3)
  have h3' := Aside0.mk ((h3.out.below hb 3 (by decide)).set HX1.out 3 (.slice B3 loops.length b3))
  have HD1 := Aside0.mk (blk_far (blk_below HD.out hb) (p := ⟨w.heap.size + 1 + 1, 3, none⟩) (by show w.heap.size ≠ w.heap.size + 1 + 1; omega) (.slice B3 loops.length b3))
  have HR1 := Aside0.mk (blk_far (blk_below HR.out hb) (p := ⟨w.heap.size + 1 + 1, 3, none⟩) (by show w.heap.size + 1 ≠ w.heap.size + 1 + 1; omega) (.slice B3 loops.length b3))
  have HB1 := Aside0.mk ((below_step HB.out hb).setCell (p := ⟨w.heap.size + 1 + 1, 3, none⟩) (by show w.heap.size ≤ w.heap.size + 1 + 1; omega) (.slice B3 loops.length b3))
  have HX2 := Aside0.mk (blk_put HX1.out 3 (.slice B3 loops.length b3) rfl)
  have hf := blk_frozen HX1.out 3
  have y3 : w7.cell? ⟨w.heap.size + 1 + 1, 3, none⟩ = some (.slice none 0 0) := (blk_cell HX1.out 3).trans rfl
  clear hS hb HX1 HB HX HD HR h3
  have HB := HB1
  have HX := HX2
  have HD := HD1
  have HR := HR1
  have h3 := h3'
  have hl := Aside0.mk hn
  clear HB1 HX2 HD1 HR1 h3' hn
  generalize new_ W3 o2 3 = o3 at h3 hl
  have d4 : (w7.setCell ⟨w.heap.size + 1 + 1, 3, none⟩ (.slice B3 loops.length b3)).cell? ⟨w.heap.size, 4, none⟩ = some (.slice A4 cases.length c4) := (blk_cell HD.out 4).trans rfl
  go_wp2_with fail
  clear d4
  generalize w7.setCell ⟨w.heap.size + 1 + 1, 3, none⟩ (.slice B3 loops.length b3) = W4 at HB HX HD HR h3 hl ⊢
  refine (copyOpen_calls A4 c4 cases W4 (Kd.C_below HH.out.r4 HB.out) HH.out.l4 HM.out.cases HM.out.couts).mono ?_
  rintro e w8 ⟨v, rfl, hS, hb⟩
  obtain ⟨B4, b4, rfl⟩ := Kd.S_slice hS
  have HX1 := Aside0.mk (blk_below HX.out hb)
  have hn := Kd.S_set (Kd.S_lower (Kd.S_mono (Kd.S_bound hS) (ok' := fun k => new_ W4 o3 4 k = 4) (fun k hk => new_new hk.2.1)) HB.out.size) HX1.out (fun q hq => n26c hq) 4 (.slice B4 cases.length b4)
  have h3' := Aside0.mk ((h3.out.below hb 4 (by decide)).set HX1.out 4 (.slice B4 cases.length b4))
  have hl' := Kd.S_set (Kd.S_below (S_lt_mono (ok' := fun k => new_ W4 o3 4 k = 3) hl.out (fun k hk hlt => new_old hk hlt)) hb) HX1.out (fun q hq => n26c hq) 4 (.slice B4 cases.length b4)
  have HD1 := Aside0.mk (blk_far (blk_below HD.out hb) (p := ⟨w.heap.size + 1 + 1, 4, none⟩) (by show w.heap.size ≠ w.heap.size + 1 + 1; omega) (.slice B4 cases.length b4))
  have HR1 := Aside0.mk (blk_far (blk_below HR.out hb) (p := ⟨w.heap.size + 1 + 1, 4, none⟩) (by show w.heap.size + 1 ≠ w.heap.size + 1 + 1; omega) (.slice B4 cases.length b4))
  have HB1 := Aside0.mk ((below_step HB.out hb).setCell (p := ⟨w.heap.size + 1 + 1, 4, none⟩) (by show w.heap.size ≤ w.heap.size + 1 + 1; omega) (.slice B4 cases.length b4))
  have HX2 := Aside0.mk (blk_put HX1.out 4 (.slice B4 cases.length b4) rfl)
  have hf := blk_frozen HX1.out 4
  have y4 : w8.cell? ⟨w.heap.size + 1 + 1, 4, none⟩ = some (.slice none 0 0) := (blk_cell HX1.out 4).trans rfl
  clear hS hb HX1 HB HX HD HR h3 hl
  have HB := HB1
  have HX := HX2
  have HD := HD1
  have HR := HR1
  have h3 := h3'
  have h5 := Aside0.mk (C5.mk h3.out hl' hn)
  clear HB1 HX2 HD1 HR1 h3' hn hl'
  obtain ⟨k0, k1, k2, k3, k4⟩ := cells5 (show (w8.setCell ⟨w.heap.size + 1 + 1, 4, none⟩ (.slice B4 cases.length b4)).heap[w.heap.size + 1 + 1]? = some (.cells #[.slice B0 code.length b0, .slice B1 origs.length b1, .slice B2 dests.length b2, .slice B3 loops.length b3, .slice B4 cases.length b4] _ _) from HX.out)
  obtain ⟨r0, r1, r2, r3, r4⟩ := cells5 (show (w8.setCell ⟨w.heap.size + 1 + 1, 4, none⟩ (.slice B4 cases.length b4)).heap[w.heap.size + 1]? = some (.cells #[.slice none 0 0, .slice none 0 0, .slice none 0 0, .slice none 0 0, .slice none 0 0] _ _) from HR.out)
  obtain ⟨f0, f1, f2, f3, f4⟩ := frozen5 HR.out
  have HBn := Aside0.mk (below_put5 HB.out (Nat.le_succ w.heap.size) (.slice B0 code.length b0) (.slice B1 origs.length b1) (.slice B2 dests.length b2) (.slice B3 loops.length b3) (.slice B4 cases.length b4))
  have HRn := Aside0.mk (blk_put5 HR.out (.slice B0 code.length b0) (.slice B1 origs.length b1) (.slice B2 dests.length b2) (.slice B3 loops.length b3) (.slice B4 cases.length b4))
  have H5n := Aside0.mk (h5.out.put5 HR.out (.slice B0 code.length b0) (.slice B1 origs.length b1) (.slice B2 dests.length b2) (.slice B3 loops.length b3) (.slice B4 cases.length b4))
  clear HB HR HX HD h5 h3
  go_wp2_with fail
  obtain ⟨y0, y1, y2, y3, y4⟩ := cells5 HRn.out
  exact bodyPost_ret (v := drV B0 B1 B2 B3 B4 b0 b1 b2 b3 b4 code.length origs.length dests.length loops.length cases.length) (by simp [results, Try.results9, go_sem, y0, y1, y2, y3, y4]) rfl ⟨_, _, _, _, _, _, _, _, _, _, _, rfl, H5n.out, HBn.out⟩
end Go.Proofs.Ytmglkgjnhoojaaa.PCodeRows
