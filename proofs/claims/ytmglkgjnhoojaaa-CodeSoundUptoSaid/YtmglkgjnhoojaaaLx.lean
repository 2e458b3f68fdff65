/- The builder's loops and cases: an open one taken off, held in a box, put back. -/
import Derived.Test.YtmglkgjnhoojaaaBrA
namespace Go.Proofs.Ytmglkgjnhoojaaa.PCodeRows
open Go.RowKit Go.Proofs.YtmglkgjnhoojaaaW.PrintWords Go.Proofs.YtmglkgjnhoojaaaW.PrintLast Go.Proofs.YtmglkgjnhoojaaaW.PrintMore
set_option linter.unusedVariables false
set_option linter.unusedSimpArgs false
theorem ne53c {q : Nat} (h : q ∈ 37 :: k37.E) : q = 37 := by
  have : k37.E = [] := rfl
  rw [this] at h; simp at h; exact h
/-- A builder, and beside it an open one in a box of its own. -/
structure BX (w : World) (base bb xb : Nat) (v0 v1 v2 v3 v4 vx : Value) (o : Nat → Nat) (code : List S37) (origs dests : List Int) (loops cases : List S59) (at_ : Int) (outs : List Int) : Prop where
  bd : BD w base bb v0 v1 v2 v3 v4 o code origs dests loops cases
  xbox : w.heap[xb]? = some (.cells #[.int .i64 at_, vx] 59 (0, 0))
  hx : Kd.R (Kd.int .i64) 3 w base (fun k => o k = 5) vx outs
  xo : o xb = 6
  hxb : base ≤ xb
section
variable {w w1 : World} {base bb xb : Nat} {v0 v1 v2 v3 v4 vx v' : Value} {o : Nat → Nat} {code code' : List S37} {origs dests xs outs : List Int} {loops cases ls : List S59} {at_ : Int}
theorem BD.awayBox (h : BD w base bb v0 v1 v2 v3 v4 o code origs dests loops cases) {k q : Nat} {cells : Array Value} (hq : q = 3 ∨ q = 59 ∨ q = 37) (hk : w.heap[k]? = some (.cells cells q (0, 0))) : ¬ k = bb := by
  rintro rfl
  have := h.box.symm.trans hk
  injection this with this
  injection this with _ h3
  rcases hq with rfl | rfl | rfl <;> exact absurd h3 (by decide)
theorem BX.of (h : BD w base bb v0 v1 v2 v3 v4 o code origs dests loops cases) (hx : Kd.R (Kd.int .i64) 3 w base (fun k => o k = 5) vx outs) (hb : Below w.heap.size w w1) (hxb : w1.heap[w.heap.size]? = some (.cells #[.int .i64 at_, vx] 59 (0, 0))) :
    BX w1 base bb w.heap.size v0 v1 v2 v3 v4 vx (new_ w o 6) code origs dests loops cases at_ outs :=
  ⟨⟨blk_below h.box hb, h.hbb, Kd.R_below h.hc hb, Kd.R_below (R_lt_mono h.ho (fun k hk hl => new_old hk hl)) hb, Kd.R_below (R_lt_mono h.hd (fun k hk hl => new_old hk hl)) hb, Kd.S_below (S_lt_mono h.hl (fun k hk hl => new_old hk hl)) hb, Kd.S_below (S_lt_mono h.hs (fun k hk hl => new_old hk hl)) hb⟩,
    hxb, Kd.R_below (R_lt_mono hx (fun k hk hl => new_old hk hl)) hb, new_new (Nat.le_refl _), Nat.le_of_lt (Nat.lt_of_le_of_lt h.hbb h.lt)⟩
theorem BX.below (h : BX w base bb xb v0 v1 v2 v3 v4 vx o code origs dests loops cases at_ outs) (hb : Below w.heap.size w w1) : BX w1 base bb xb v0 v1 v2 v3 v4 vx o code origs dests loops cases at_ outs :=
  ⟨h.bd.below hb, blk_below h.xbox hb, Kd.R_below h.hx hb, h.xo, h.hxb⟩
theorem BX.coded (h : BX w base bb xb v0 v1 v2 v3 v4 vx o code origs dests loops cases at_ outs) (hK : Kept w w1 (fun k => k = bb ∨ some k = v0.ownBlock)) (hb : w1.heap[bb]? = some (.cells #[v', v1, v2, v3, v4] 53 (0, 0))) (hR : Kd.R k37 37 w1 base (fun _ => True) v' code') :
    BX w1 base bb xb v' v1 v2 v3 v4 vx o code' origs dests loops cases at_ outs :=
  ⟨h.bd.coded hK hb hR, blk_kept h.xbox hK (h.bd.away (.inr rfl) h.xbox), R_kept h.hx hK (fun k q cells _ hq hc => h.bd.away (q3 hq) hc), h.xo, h.hxb⟩
theorem lay_bx (h : BX w base bb xb v0 v1 v2 v3 v4 vx o code origs dests loops cases at_ outs) (kind n : Int) (hl : code.length < 256) :
    Calls Try.prog 35 #[.pointer (some ⟨bb, 0, none⟩), .int .i64 kind, .int .i64 n] w fun e w' => e = .returned (.tuple #[.int .i64 code.length, .int .i64 0]) ∧ ∃ v0', BX w' base bb xb v0' v1 v2 v3 v4 vx o (code ++ [⟨kind, n % 4294967296⟩]) origs dests loops cases at_ outs ∧ Below base w w' := by
  refine (lay_calls bb base v0 v1 v2 v3 v4 code kind n w (fun _ => True) h.bd.box h.bd.hbb h.bd.hc (fun _ _ => trivial) hl).mono ?_
  rintro e w' ⟨v0', rfl, hb, hR, hK, hB⟩
  exact ⟨rfl, v0', h.coded hK hb hR, hB⟩
theorem aim_bx (h : BX w base bb xb v0 v1 v2 v3 v4 vx o code origs dests loops cases at_ outs) {base2 : Nat} {okl : Nat → Prop} {vl : Value} {l : List Int} (hL : Kd.R (Kd.int .i64) 3 w base2 okl vl l) (hin : ∀ x ∈ l, 0 ≤ x ∧ x < (code.length : Int)) (h256 : code.length ≤ 256) :
    Calls Try.prog 40 #[.pointer (some ⟨bb, 0, none⟩), vl] w fun e w' => e = .returned (.tuple #[]) ∧ BX w' base bb xb v0 v1 v2 v3 v4 vx o (aimed code.length code l) origs dests loops cases at_ outs ∧ Below base w w' := by
  refine (aim_calls bb base base2 v0 v1 v2 v3 v4 vl code (fun _ => True) okl l w h.bd.box h.bd.hc hL hin h256).mono ?_
  rintro e w' ⟨rfl, hR, hK, hB⟩
  refine ⟨rfl, h.coded (hK.mono (fun k hk => .inr hk)) ?_ hR, hB⟩
  exact blk_kept h.bd.box hK (Kd.R_ne h.bd.hc h.bd.box (by decide))
/-- Behind an append to the open one's outs. -/
theorem BX.grown (h : BX w base bb xb v0 v1 v2 v3 v4 vx o code origs dests loops cases at_ outs) (hg : w.grownBy w1 vx.ownBlock) (hR : Kd.R (Kd.int .i64) 3 w1 base (fun k => new_ w o 5 k = 5) v' xs) :
    BD w1 base bb v0 v1 v2 v3 v4 (new_ w o 5) code origs dests loops cases ∧ w1.heap[xb]? = some (.cells #[.int .i64 at_, vx] 59 (0, 0)) ∧ new_ w o 5 xb = 6 := by
  have hne := Kd.R_ne h.hx h.bd.box (by decide)
  have hne2 := Kd.R_ne h.hx h.xbox (by decide)
  have key : ∀ i : Nat, i ≠ 5 → ∀ k, new_ w o 5 k = i → some k ≠ vx.ownBlock := by
    intro i hi k hk he
    have h1 := h.hx.1 k he.symm
    have h2 := Kd.R_lt h.hx k he.symm
    rw [new_old h1 h2] at hk
    exact hi hk.symm
  refine ⟨⟨blk_grown h.bd.box hg hne, h.bd.hbb, Kd.R_over' h.bd.hc (fun k hk => Kd.R_typed h.hx k hk) (by decide) hg, Kd.R_grown (R_lt_mono h.bd.ho (fun k hk hl => new_old hk hl)) hg (key 1 (by decide)), Kd.R_grown (R_lt_mono h.bd.hd (fun k hk hl => new_old hk hl)) hg (key 2 (by decide)), Kd.S_grown (S_lt_mono h.bd.hl (fun k hk hl => new_old hk hl)) hg (key 3 (by decide)), Kd.S_grown (S_lt_mono h.bd.hs (fun k hk hl => new_old hk hl)) hg (key 4 (by decide))⟩, blk_grown h.xbox hg hne2, new_old h.xo (blk_lt h.xbox)⟩
/-- A cell of the open one's box is set. -/
theorem BX.set0 (h : BX w base bb xb v0 v1 v2 v3 v4 vx o code origs dests loops cases at_ outs) (n : Int) : BX (w.setCell ⟨xb, 0, none⟩ (.int .i64 n)) base bb xb v0 v1 v2 v3 v4 vx o code origs dests loops cases n outs := by
  have hbx : bb ≠ xb := fun e => h.bd.awayBox (.inr (.inl rfl)) h.xbox e.symm
  exact ⟨⟨blk_far h.bd.box (p := ⟨xb, 0, none⟩) hbx _, h.bd.hbb, Kd.R_set h.bd.hc h.xbox (fun q hq => by have := ne53c hq; omega) 0 _, Kd.R_set h.bd.ho h.xbox (by decide) 0 _, Kd.R_set h.bd.hd h.xbox (by decide) 0 _, Kd.S_far h.bd.hl (p := ⟨xb, 0, none⟩) (fun k hk e => by have := h.xo; rw [show k = xb from e] at hk; omega) _, Kd.S_far h.bd.hs (p := ⟨xb, 0, none⟩) (fun k hk e => by have := h.xo; rw [show k = xb from e] at hk; omega) _⟩, blk_put h.xbox 0 _ rfl, Kd.R_set h.hx h.xbox (by decide) 0 _, h.xo, h.hxb⟩
theorem BX.mk1 (h : BD w base bb v0 v1 v2 v3 v4 o code origs dests loops cases) (hb : w.heap[xb]? = some (.cells #[.int .i64 at_, v'] 59 (0, 0))) (ho : o xb = 6) (hxb : base ≤ xb) (hR : Kd.R (Kd.int .i64) 3 w base (fun k => o k = 5) vx outs) :
    BX (w.setCell ⟨xb, 1, none⟩ vx) base bb xb v0 v1 v2 v3 v4 vx o code origs dests loops cases at_ outs := by
  have hbx : bb ≠ xb := fun e => h.awayBox (.inr (.inl rfl)) hb e.symm
  exact ⟨⟨blk_far h.box (p := ⟨xb, 1, none⟩) hbx _, h.hbb, Kd.R_set h.hc hb (fun q hq => by have := ne53c hq; omega) 1 _, Kd.R_set h.ho hb (by decide) 1 _, Kd.R_set h.hd hb (by decide) 1 _, Kd.S_far h.hl (p := ⟨xb, 1, none⟩) (fun k hk e => by rw [show k = xb from e] at hk; omega) _, Kd.S_far h.hs (p := ⟨xb, 1, none⟩) (fun k hk e => by rw [show k = xb from e] at hk; omega) _⟩, blk_put hb 1 _ rfl, Kd.R_set hR hb (by decide) 1 _, ho, hxb⟩
/-- An append to the open one's outs. -/
theorem pushX (h : BX w base bb xb v0 v1 v2 v3 v4 vx o code origs dests loops cases at_ outs) {P : Program} {ops : Array Oper} {rest : List Oper} {Q : Exit → Act → World → Prop} {a : Act} {q : Oper} {s x : Operand} (n : Int)
    (ht : P.underlying 23 = some (.slice 3)) (hi : (P.info? 3).map (fun i => (i.zero, i.size, i.bytes)) = some (some (.int .i64 0), 1, 8)) (hgd : q.guard = none) (hq : q.op = .call { callee := .builtin .append, args := #[s, x], argTypes := #[23, 23] }) (hs : a.eval s = vx) (hx : a.eval x = .slice (some ⟨w.heap.size, 0, none⟩) 1 1) (hl : outs.length < 4398046511104)
    (k : ∀ A1 c1 w2, BD w2 base bb v0 v1 v2 v3 v4 (new_ w o 5) code origs dests loops cases → w2.heap[xb]? = some (.cells #[.int .i64 at_, vx] 59 (0, 0)) → new_ w o 5 xb = 6 → Kd.R (Kd.int .i64) 3 w2 base (fun k => new_ w o 5 k = 5) (.slice A1 (outs.length + 1) c1) (outs ++ [n]) → Below base w w2 → wpList P ops Q rest (a.put q.dst (.slice A1 (outs.length + 1) c1)) w2) :
    wpList P ops Q (q :: rest) a (w.alloc (.cells #[.int .i64 n] 3)) := by
  refine Kd.R_append (Kd.int .i64) (w0 := w) (W := w) base hgd s x 23 3 (.int .i64 0) 8 hq ht hi rfl (by decide) (by decide) vx outs n [.int .i64 n] (fun k => new_ w o 5 k = 5) (fun _ => False) hs hx rfl (fun _ h => h.elim) (fun k hk => new_new hk) (R_lt_mono h.hx (fun k hk hlt => new_old hk hlt)) (Below.refl _ _) (Nat.le_of_lt (Nat.lt_of_le_of_lt h.bd.hbb h.bd.lt)) (by omega) ?_
  intro v1' w2 hR2 hB2 hg hat
  obtain ⟨g1, g2, g3⟩ := h.grown hg hR2
  obtain ⟨A1, c1, rfl⟩ := Kd.R_slice hR2
  have hz : (outs ++ [n]).length = outs.length + 1 := by simp
  rw [hz] at hR2 ⊢
  exact k A1 c1 w2 g1 g2 g3 hR2 hB2
theorem pushXS (h : BX w base bb xb v0 v1 v2 v3 v4 vx o code origs dests loops cases at_ outs) {P : Program} {ops : Array Oper} {Q : Exit → Act → World → Prop} {Kc : Act → World → Prop} {a : Act} {q : Oper} {s x : Operand} (n : Int)
    (ht : P.underlying 23 = some (.slice 3)) (hi : (P.info? 3).map (fun i => (i.zero, i.size, i.bytes)) = some (some (.int .i64 0), 1, 8)) (hw : Region.wanted q (yielded ops a.tmps) = true) (hq : q.op = .call { callee := .builtin .append, args := #[s, x], argTypes := #[23, 23] }) (hs : a.eval s = vx) (hx : a.eval x = .slice (some ⟨w.heap.size, 0, none⟩) 1 1) (hl : outs.length < 4398046511104)
    (k : ∀ A1 c1 w2, BD w2 base bb v0 v1 v2 v3 v4 (new_ w o 5) code origs dests loops cases → w2.heap[xb]? = some (.cells #[.int .i64 at_, vx] 59 (0, 0)) → new_ w o 5 xb = 6 → Kd.R (Kd.int .i64) 3 w2 base (fun k => new_ w o 5 k = 5) (.slice A1 (outs.length + 1) c1) (outs ++ [n]) → Below base w w2 → Kc (a.put q.dst (.slice A1 (outs.length + 1) c1)) w2) :
    if Region.wanted q (yielded ops a.tmps) = true then Oper.wp P q a (w.alloc (.cells #[.int .i64 n] 3)) Kc Q else Kc (a.put q.dst undef) (w.alloc (.cells #[.int .i64 n] 3)) := by
  refine Kd.R_append_step (Kd.int .i64) (w0 := w) (W := w) base hw s x 23 3 (.int .i64 0) 8 hq ht hi rfl (by decide) (by decide) vx outs n [.int .i64 n] (fun k => new_ w o 5 k = 5) (fun _ => False) hs hx rfl (fun _ h => h.elim) (fun k hk => new_new hk) (R_lt_mono h.hx (fun k hk hlt => new_old hk hlt)) (Below.refl _ _) (Nat.le_of_lt (Nat.lt_of_le_of_lt h.bd.hbb h.bd.lt)) (by omega) ?_
  intro v1' w2 hR2 hB2 hg hat
  obtain ⟨g1, g2, g3⟩ := h.grown hg hR2
  obtain ⟨A1, c1, rfl⟩ := Kd.R_slice hR2
  have hz : (outs ++ [n]).length = outs.length + 1 := by simp
  rw [hz] at hR2 ⊢
  exact k A1 c1 w2 g1 g2 g3 hR2 hB2
/-- What belongs to the open one belongs to the row that takes it. -/
def give (w : World) (o : Nat → Nat) (i k : Nat) : Nat := if k < w.heap.size then (if o k = 5 then i else o k) else i
theorem give_old {i j k : Nat} (h : o k = j) (hj : j ≠ 5) (hk : k < w.heap.size) : give w o i k = j := by unfold give; rw [if_pos hk, h, if_neg hj]
theorem give_x {i k : Nat} (h : o k = 5) (hk : k < w.heap.size) : give w o i k = i := by unfold give; rw [if_pos hk, if_pos h]
theorem give_new {i k : Nat} (hk : w.heap.size ≤ k) : give w o i k = i := by unfold give; rw [if_neg (by omega)]

/-- An open one taken off row 3. -/
theorem pop3_calls {x : S59} (h : BD w base bb v0 v1 v2 v3 v4 o code origs dests (ls ++ [x]) cases) :
    Calls Try.prog 41 #[.pointer (some ⟨bb, 3, none⟩)] w fun e w' => ∃ vx, e = .returned (.tuple #[.agg #[.int .i64 x.f0, vx], .bool true]) ∧ ∃ v' o', BD w' base bb v0 v1 v2 v' v4 o' code origs dests ls cases ∧ Kd.R (Kd.int .i64) 3 w' base (fun k => o' k = 5) vx x.f1 ∧ Below base w w' := by
  classical
  obtain ⟨A, c, rfl, hc, hC⟩ := Kd.S_reads h.hl
  have hz : (ls ++ [x]).length = ls.length + 1 := by simp
  rw [hz] at h hc hC
  obtain ⟨ad, e, _⟩ := hC.2.2 (by omega)
  subst e
  obtain ⟨g, rfl⟩ := Kd.R_head (Kd.S_R h.hl)
  obtain ⟨okx, cs, hS, hM, hox, hcl, hcc⟩ := S_last (z := z59) h.hl rfl
  obtain ⟨vx, rfl, hx⟩ := k59_openM hM
  have g0 : w.cell? ((⟨g, 0, none⟩ : Addr).add (ls.length * 2)) = some (.int .i64 x.f0) := hcc 0 _ rfl
  have g1 : w.cell? ⟨((⟨g, 0, none⟩ : Addr).add (ls.length * 2)).block, ((⟨g, 0, none⟩ : Addr).add (ls.length * 2)).off + 1, none⟩ = some vx := by
    have h1 : w.cell? ((⟨g, 0, none⟩ : Addr).add (ls.length * 2 + 1)) = some vx := hcc 1 _ rfl
    rw [add_at] at h1 ⊢
    exact h1
  obtain ⟨B, cB, rfl⟩ := Kd.R_slice hx
  refine (lastOpen_calls base bb 3 h.hbb ⟨g, 0, none⟩ ls.length c x.f0 B x.f1.length cB w _ h.box rfl hc (by have := hC.2.1; omega) g0 g1).mono ?_
  rintro e w' ⟨rfl, hb, hK, hB⟩
  have hno : ∀ k i, o k = i → i ≠ 3 → ¬ okx k := fun k i hk hi hkx => hi (by rw [← hk]; exact hox k hkx)
  refine ⟨_, rfl, .slice (some ⟨g, 0, none⟩) ls.length c, fun k => if okx k then 5 else o k, ⟨hb.trans rfl, h.hbb, R_kept h.hc hK (fun k q cells _ hq hk => h.awayBox (.inr (.inr (ne53c hq))) hk), ?_, ?_, ?_, ?_⟩, ?_, hB⟩
  · refine Kd.R_mono (R_kept h.ho hK (fun k q cells _ hq hk => h.awayBox ((q3 hq).imp_right .inl) hk)) (fun k hk => ?_)
    rw [if_neg (hno k 1 hk (by decide))]; exact hk
  · refine Kd.R_mono (R_kept h.hd hK (fun k q cells _ hq hk => h.awayBox ((q3 hq).imp_right .inl) hk)) (fun k hk => ?_)
    rw [if_neg (hno k 2 hk (by decide))]; exact hk
  · refine Kd.S_mono (S_kept hS hK (fun k q cells _ hq hk => h.awayBox ((q59 hq).imp_right .inl) hk)) (fun k hk => ?_)
    show (if okx k then 5 else o k) = 3
    rw [if_neg hk.2]; exact hk.1
  · refine Kd.S_mono (S_kept h.hs hK (fun k q cells _ hq hk => h.awayBox ((q59 hq).imp_right .inl) hk)) (fun k hk => ?_)
    rw [if_neg (hno k 4 hk (by decide))]; exact hk

  · refine Kd.R_mono (R_kept hx hK (fun k q cells _ hq hk => h.awayBox ((q3 hq).imp_right .inl) hk)) (fun k hk => ?_)
    show (if okx k then 5 else o k) = 5
    rw [if_pos hk]
theorem pop3_empty (h : BD w base bb v0 v1 v2 v3 v4 o code origs dests [] cases) :
    Calls Try.prog 41 #[.pointer (some ⟨bb, 3, none⟩)] w fun e w' => e = .returned (.tuple #[.agg #[.int .i64 0, .slice none 0 0], .bool false]) ∧ Below w.heap.size w w' := by
  obtain ⟨A, c, rfl⟩ := Kd.S_slice h.hl
  exact lastOpen_empty bb 3 A c w _ h.box rfl

/-- An open one taken off row 4. -/
theorem pop4_calls {x : S59} (h : BD w base bb v0 v1 v2 v3 v4 o code origs dests loops (ls ++ [x])) :
    Calls Try.prog 41 #[.pointer (some ⟨bb, 4, none⟩)] w fun e w' => ∃ vx, e = .returned (.tuple #[.agg #[.int .i64 x.f0, vx], .bool true]) ∧ ∃ v' o', BD w' base bb v0 v1 v2 v3 v' o' code origs dests loops ls ∧ Kd.R (Kd.int .i64) 3 w' base (fun k => o' k = 5) vx x.f1 ∧ Below base w w' := by
  classical
  obtain ⟨A, c, rfl, hc, hC⟩ := Kd.S_reads h.hs
  have hz : (ls ++ [x]).length = ls.length + 1 := by simp
  rw [hz] at h hc hC
  obtain ⟨ad, e, _⟩ := hC.2.2 (by omega)
  subst e
  obtain ⟨g, rfl⟩ := Kd.R_head (Kd.S_R h.hs)
  obtain ⟨okx, cs, hS, hM, hox, hcl, hcc⟩ := S_last (z := z59) h.hs rfl
  obtain ⟨vx, rfl, hx⟩ := k59_openM hM
  have g0 : w.cell? ((⟨g, 0, none⟩ : Addr).add (ls.length * 2)) = some (.int .i64 x.f0) := hcc 0 _ rfl
  have g1 : w.cell? ⟨((⟨g, 0, none⟩ : Addr).add (ls.length * 2)).block, ((⟨g, 0, none⟩ : Addr).add (ls.length * 2)).off + 1, none⟩ = some vx := by
    have h1 : w.cell? ((⟨g, 0, none⟩ : Addr).add (ls.length * 2 + 1)) = some vx := hcc 1 _ rfl
    rw [add_at] at h1 ⊢
    exact h1
  obtain ⟨B, cB, rfl⟩ := Kd.R_slice hx
  refine (lastOpen_calls base bb 4 h.hbb ⟨g, 0, none⟩ ls.length c x.f0 B x.f1.length cB w _ h.box rfl hc (by have := hC.2.1; omega) g0 g1).mono ?_
  rintro e w' ⟨rfl, hb, hK, hB⟩
  have hno : ∀ k i, o k = i → i ≠ 4 → ¬ okx k := fun k i hk hi hkx => hi (by rw [← hk]; exact hox k hkx)
  refine ⟨_, rfl, .slice (some ⟨g, 0, none⟩) ls.length c, fun k => if okx k then 5 else o k, ⟨hb.trans rfl, h.hbb, R_kept h.hc hK (fun k q cells _ hq hk => h.awayBox (.inr (.inr (ne53c hq))) hk), ?_, ?_, ?_, ?_⟩, ?_, hB⟩
  · refine Kd.R_mono (R_kept h.ho hK (fun k q cells _ hq hk => h.awayBox ((q3 hq).imp_right .inl) hk)) (fun k hk => ?_)
    rw [if_neg (hno k 1 hk (by decide))]; exact hk
  · refine Kd.R_mono (R_kept h.hd hK (fun k q cells _ hq hk => h.awayBox ((q3 hq).imp_right .inl) hk)) (fun k hk => ?_)
    rw [if_neg (hno k 2 hk (by decide))]; exact hk
  · refine Kd.S_mono (S_kept h.hl hK (fun k q cells _ hq hk => h.awayBox ((q59 hq).imp_right .inl) hk)) (fun k hk => ?_)
    rw [if_neg (hno k 3 hk (by decide))]; exact hk
  · refine Kd.S_mono (S_kept hS hK (fun k q cells _ hq hk => h.awayBox ((q59 hq).imp_right .inl) hk)) (fun k hk => ?_)
    show (if okx k then 5 else o k) = 4
    rw [if_neg hk.2]; exact hk.1

  · refine Kd.R_mono (R_kept hx hK (fun k q cells _ hq hk => h.awayBox ((q3 hq).imp_right .inl) hk)) (fun k hk => ?_)
    show (if okx k then 5 else o k) = 5
    rw [if_pos hk]
theorem pop4_empty (h : BD w base bb v0 v1 v2 v3 v4 o code origs dests loops []) :
    Calls Try.prog 41 #[.pointer (some ⟨bb, 4, none⟩)] w fun e w' => e = .returned (.tuple #[.agg #[.int .i64 0, .slice none 0 0], .bool false]) ∧ Below w.heap.size w w' := by
  obtain ⟨A, c, rfl⟩ := Kd.S_slice h.hs
  exact lastOpen_empty bb 4 A c w _ h.box rfl

theorem push3 (h : BD w base bb v0 v1 v2 v3 v4 o code origs dests loops cases) {P : Program} {ops : Array Oper} {rest : List Oper} {Q : Exit → Act → World → Prop} {a : Act} {q : Oper} {s x : Operand} (n : Int) (outs : List Int) (vx : Value) (hx0 : Kd.R (Kd.int .i64) 3 w base (fun k => o k = 5) vx outs)
    (ht : P.underlying 24 = some (.slice 59)) (hi : (P.info? 59).map (fun i => (i.zero, i.size, i.bytes)) = some (some (.agg #[.int .i64 0, .slice none 0 0]), 2, 32)) (hgd : q.guard = none) (hq : q.op = .call { callee := .builtin .append, args := #[s, x], argTypes := #[24, 24] }) (hs : a.eval s = v3) (hx : a.eval x = .slice (some ⟨w.heap.size, 0, none⟩) 1 1) (hl : loops.length < 4398046511104 - 1)
    (k : ∀ A1 c1 w2, BD (w2.setCell ⟨bb, 3, none⟩ (.slice A1 (loops.length + 1) c1)) base bb v0 v1 v2 (.slice A1 (loops.length + 1) c1) v4 (give w o 3) code origs dests (loops ++ [⟨n, outs⟩]) cases → Below base w w2 → w2.heap[bb]? = some (.cells #[v0, v1, v2, v3, v4] 53 (0, 0)) → (∀ g ob, w.heap[g]? = some ob → o g = 6 → w2.heap[g]? = some ob) → wpList P ops Q rest (a.put q.dst (.slice A1 (loops.length + 1) c1)) w2) :
    wpList P ops Q (q :: rest) a (w.alloc (.cells #[.int .i64 n, vx] 59)) := by
  have hl0 := Kd.S_R h.hl
  refine Kd.S_append k59 (w0 := w) (W := w) base hgd s x 24 59 (.agg #[.int .i64 0, .slice none 0 0]) 32 hq ht hi rfl (by decide) (by decide) v3 loops ⟨n, outs⟩ [.int .i64 n, vx] (fun k => give w o 3 k = 3) (fun k => o k = 5 ∧ k < w.heap.size) hs hx (k59_mkM w base _ ⟨n, outs⟩ (R_lt_mono hx0 (fun k hk hl => ⟨hk, hl⟩))) (fun k hk => ⟨give_x hk.1 hk.2, fun he => by have := hl0.1 k he.symm; omega⟩) (fun k hk => give_new hk) (S_lt_mono h.hl (fun k hk hlt => ⟨give_old hk (by decide) hlt, fun hx => by have := hx.1; omega⟩)) (Below.refl _ _) (Nat.le_of_lt (Nat.lt_of_le_of_lt h.hbb h.lt)) (by omega) ?_
  intro v1' w2 hR2 hB2 hg hat
  have hne := Kd.R_ne hl0 h.box (by decide)
  have hb := blk_grown h.box hg hne
  have key : ∀ i : Nat, i ≠ 3 → ∀ k, give w o 3 k = i → some k ≠ v3.ownBlock := by
    intro i hi k hk he
    have h1 := hl0.1 k he.symm
    have h2 := Kd.R_lt hl0 k he.symm
    rw [give_old h1 (by decide) h2] at hk
    exact hi hk.symm
  have h2 : BD (w2.setCell ⟨bb, 3, none⟩ v1') base bb v0 v1 v2 v1' v4 (give w o 3) code origs dests (loops ++ [⟨n, outs⟩]) cases :=
    ⟨blk_put hb 3 _ rfl, h.hbb, Kd.R_set (Kd.R_over' h.hc (fun k hk => Kd.R_typed hl0 k hk) (by decide) hg) hb (fun q hq => ne53 hq) 3 _, Kd.R_set (Kd.R_grown (R_lt_mono h.ho (fun k hk hl => give_old hk (by decide) hl)) hg (key 1 (by decide))) hb (fun q hq => ne53a hq) 3 _, Kd.R_set (Kd.R_grown (R_lt_mono h.hd (fun k hk hl => give_old hk (by decide) hl)) hg (key 2 (by decide))) hb (fun q hq => ne53a hq) 3 _, Kd.S_set hR2 hb (fun q hq => ne53b hq) 3 _, Kd.S_set (Kd.S_grown (S_lt_mono h.hs (fun k hk hl => give_old hk (by decide) hl)) hg (key 4 (by decide))) hb (fun q hq => ne53b hq) 3 _⟩
  obtain ⟨A1, c1, rfl⟩ := Kd.S_slice hR2
  have hz : (loops ++ [(⟨n, outs⟩ : S59)]).length = loops.length + 1 := by simp
  rw [hz] at h2 ⊢
  exact k A1 c1 w2 h2 hB2 hb (fun g ob hgo h6 => blk_grown hgo hg (fun e => by have := hl0.1 g e.symm; omega))

theorem push3S (h : BD w base bb v0 v1 v2 v3 v4 o code origs dests loops cases) {P : Program} {ops : Array Oper} {Q : Exit → Act → World → Prop} {Kc : Act → World → Prop} {a : Act} {q : Oper} {s x : Operand} (n : Int) (outs : List Int) (vx : Value) (hx0 : Kd.R (Kd.int .i64) 3 w base (fun k => o k = 5) vx outs)
    (ht : P.underlying 24 = some (.slice 59)) (hi : (P.info? 59).map (fun i => (i.zero, i.size, i.bytes)) = some (some (.agg #[.int .i64 0, .slice none 0 0]), 2, 32)) (hw : Region.wanted q (yielded ops a.tmps) = true) (hq : q.op = .call { callee := .builtin .append, args := #[s, x], argTypes := #[24, 24] }) (hs : a.eval s = v3) (hx : a.eval x = .slice (some ⟨w.heap.size, 0, none⟩) 1 1) (hl : loops.length < 4398046511104 - 1)
    (k : ∀ A1 c1 w2, BD (w2.setCell ⟨bb, 3, none⟩ (.slice A1 (loops.length + 1) c1)) base bb v0 v1 v2 (.slice A1 (loops.length + 1) c1) v4 (give w o 3) code origs dests (loops ++ [⟨n, outs⟩]) cases → Below base w w2 → w2.heap[bb]? = some (.cells #[v0, v1, v2, v3, v4] 53 (0, 0)) → (∀ g ob, w.heap[g]? = some ob → o g = 6 → w2.heap[g]? = some ob) → Kc (a.put q.dst (.slice A1 (loops.length + 1) c1)) w2) :
    if Region.wanted q (yielded ops a.tmps) = true then Oper.wp P q a (w.alloc (.cells #[.int .i64 n, vx] 59)) Kc Q else Kc (a.put q.dst undef) (w.alloc (.cells #[.int .i64 n, vx] 59)) := by
  have hl0 := Kd.S_R h.hl
  refine Kd.S_append_step k59 (w0 := w) (W := w) base hw s x 24 59 (.agg #[.int .i64 0, .slice none 0 0]) 32 hq ht hi rfl (by decide) (by decide) v3 loops ⟨n, outs⟩ [.int .i64 n, vx] (fun k => give w o 3 k = 3) (fun k => o k = 5 ∧ k < w.heap.size) hs hx (k59_mkM w base _ ⟨n, outs⟩ (R_lt_mono hx0 (fun k hk hl => ⟨hk, hl⟩))) (fun k hk => ⟨give_x hk.1 hk.2, fun he => by have := hl0.1 k he.symm; omega⟩) (fun k hk => give_new hk) (S_lt_mono h.hl (fun k hk hlt => ⟨give_old hk (by decide) hlt, fun hx => by have := hx.1; omega⟩)) (Below.refl _ _) (Nat.le_of_lt (Nat.lt_of_le_of_lt h.hbb h.lt)) (by omega) ?_
  intro v1' w2 hR2 hB2 hg hat
  have hne := Kd.R_ne hl0 h.box (by decide)
  have hb := blk_grown h.box hg hne
  have key : ∀ i : Nat, i ≠ 3 → ∀ k, give w o 3 k = i → some k ≠ v3.ownBlock := by
    intro i hi k hk he
    have h1 := hl0.1 k he.symm
    have h2 := Kd.R_lt hl0 k he.symm
    rw [give_old h1 (by decide) h2] at hk
    exact hi hk.symm
  have h2 : BD (w2.setCell ⟨bb, 3, none⟩ v1') base bb v0 v1 v2 v1' v4 (give w o 3) code origs dests (loops ++ [⟨n, outs⟩]) cases :=
    ⟨blk_put hb 3 _ rfl, h.hbb, Kd.R_set (Kd.R_over' h.hc (fun k hk => Kd.R_typed hl0 k hk) (by decide) hg) hb (fun q hq => ne53 hq) 3 _, Kd.R_set (Kd.R_grown (R_lt_mono h.ho (fun k hk hl => give_old hk (by decide) hl)) hg (key 1 (by decide))) hb (fun q hq => ne53a hq) 3 _, Kd.R_set (Kd.R_grown (R_lt_mono h.hd (fun k hk hl => give_old hk (by decide) hl)) hg (key 2 (by decide))) hb (fun q hq => ne53a hq) 3 _, Kd.S_set hR2 hb (fun q hq => ne53b hq) 3 _, Kd.S_set (Kd.S_grown (S_lt_mono h.hs (fun k hk hl => give_old hk (by decide) hl)) hg (key 4 (by decide))) hb (fun q hq => ne53b hq) 3 _⟩
  obtain ⟨A1, c1, rfl⟩ := Kd.S_slice hR2
  have hz : (loops ++ [(⟨n, outs⟩ : S59)]).length = loops.length + 1 := by simp
  rw [hz] at h2 ⊢
  exact k A1 c1 w2 h2 hB2 hb (fun g ob hgo h6 => blk_grown hgo hg (fun e => by have := hl0.1 g e.symm; omega))

theorem push4 (h : BD w base bb v0 v1 v2 v3 v4 o code origs dests loops cases) {P : Program} {ops : Array Oper} {rest : List Oper} {Q : Exit → Act → World → Prop} {a : Act} {q : Oper} {s x : Operand} (n : Int) (outs : List Int) (vx : Value) (hx0 : Kd.R (Kd.int .i64) 3 w base (fun k => o k = 5) vx outs)
    (ht : P.underlying 24 = some (.slice 59)) (hi : (P.info? 59).map (fun i => (i.zero, i.size, i.bytes)) = some (some (.agg #[.int .i64 0, .slice none 0 0]), 2, 32)) (hgd : q.guard = none) (hq : q.op = .call { callee := .builtin .append, args := #[s, x], argTypes := #[24, 24] }) (hs : a.eval s = v4) (hx : a.eval x = .slice (some ⟨w.heap.size, 0, none⟩) 1 1) (hl : cases.length < 4398046511104 - 1)
    (k : ∀ A1 c1 w2, BD (w2.setCell ⟨bb, 4, none⟩ (.slice A1 (cases.length + 1) c1)) base bb v0 v1 v2 v3 (.slice A1 (cases.length + 1) c1) (give w o 4) code origs dests loops (cases ++ [⟨n, outs⟩]) → Below base w w2 → w2.heap[bb]? = some (.cells #[v0, v1, v2, v3, v4] 53 (0, 0)) → (∀ g ob, w.heap[g]? = some ob → o g = 6 → w2.heap[g]? = some ob) → wpList P ops Q rest (a.put q.dst (.slice A1 (cases.length + 1) c1)) w2) :
    wpList P ops Q (q :: rest) a (w.alloc (.cells #[.int .i64 n, vx] 59)) := by
  have hl0 := Kd.S_R h.hs
  refine Kd.S_append k59 (w0 := w) (W := w) base hgd s x 24 59 (.agg #[.int .i64 0, .slice none 0 0]) 32 hq ht hi rfl (by decide) (by decide) v4 cases ⟨n, outs⟩ [.int .i64 n, vx] (fun k => give w o 4 k = 4) (fun k => o k = 5 ∧ k < w.heap.size) hs hx (k59_mkM w base _ ⟨n, outs⟩ (R_lt_mono hx0 (fun k hk hl => ⟨hk, hl⟩))) (fun k hk => ⟨give_x hk.1 hk.2, fun he => by have := hl0.1 k he.symm; omega⟩) (fun k hk => give_new hk) (S_lt_mono h.hs (fun k hk hlt => ⟨give_old hk (by decide) hlt, fun hx => by have := hx.1; omega⟩)) (Below.refl _ _) (Nat.le_of_lt (Nat.lt_of_le_of_lt h.hbb h.lt)) (by omega) ?_
  intro v1' w2 hR2 hB2 hg hat
  have hne := Kd.R_ne hl0 h.box (by decide)
  have hb := blk_grown h.box hg hne
  have key : ∀ i : Nat, i ≠ 4 → ∀ k, give w o 4 k = i → some k ≠ v4.ownBlock := by
    intro i hi k hk he
    have h1 := hl0.1 k he.symm
    have h2 := Kd.R_lt hl0 k he.symm
    rw [give_old h1 (by decide) h2] at hk
    exact hi hk.symm
  have h2 : BD (w2.setCell ⟨bb, 4, none⟩ v1') base bb v0 v1 v2 v3 v1' (give w o 4) code origs dests loops (cases ++ [⟨n, outs⟩]) :=
    ⟨blk_put hb 4 _ rfl, h.hbb, Kd.R_set (Kd.R_over' h.hc (fun k hk => Kd.R_typed hl0 k hk) (by decide) hg) hb (fun q hq => ne53 hq) 4 _, Kd.R_set (Kd.R_grown (R_lt_mono h.ho (fun k hk hl => give_old hk (by decide) hl)) hg (key 1 (by decide))) hb (fun q hq => ne53a hq) 4 _, Kd.R_set (Kd.R_grown (R_lt_mono h.hd (fun k hk hl => give_old hk (by decide) hl)) hg (key 2 (by decide))) hb (fun q hq => ne53a hq) 4 _, Kd.S_set (Kd.S_grown (S_lt_mono h.hl (fun k hk hl => give_old hk (by decide) hl)) hg (key 3 (by decide))) hb (fun q hq => ne53b hq) 4 _, Kd.S_set hR2 hb (fun q hq => ne53b hq) 4 _⟩
  obtain ⟨A1, c1, rfl⟩ := Kd.S_slice hR2
  have hz : (cases ++ [(⟨n, outs⟩ : S59)]).length = cases.length + 1 := by simp
  rw [hz] at h2 ⊢
  exact k A1 c1 w2 h2 hB2 hb (fun g ob hgo h6 => blk_grown hgo hg (fun e => by have := hl0.1 g e.symm; omega))

theorem push4S (h : BD w base bb v0 v1 v2 v3 v4 o code origs dests loops cases) {P : Program} {ops : Array Oper} {Q : Exit → Act → World → Prop} {Kc : Act → World → Prop} {a : Act} {q : Oper} {s x : Operand} (n : Int) (outs : List Int) (vx : Value) (hx0 : Kd.R (Kd.int .i64) 3 w base (fun k => o k = 5) vx outs)
    (ht : P.underlying 24 = some (.slice 59)) (hi : (P.info? 59).map (fun i => (i.zero, i.size, i.bytes)) = some (some (.agg #[.int .i64 0, .slice none 0 0]), 2, 32)) (hw : Region.wanted q (yielded ops a.tmps) = true) (hq : q.op = .call { callee := .builtin .append, args := #[s, x], argTypes := #[24, 24] }) (hs : a.eval s = v4) (hx : a.eval x = .slice (some ⟨w.heap.size, 0, none⟩) 1 1) (hl : cases.length < 4398046511104 - 1)
    (k : ∀ A1 c1 w2, BD (w2.setCell ⟨bb, 4, none⟩ (.slice A1 (cases.length + 1) c1)) base bb v0 v1 v2 v3 (.slice A1 (cases.length + 1) c1) (give w o 4) code origs dests loops (cases ++ [⟨n, outs⟩]) → Below base w w2 → w2.heap[bb]? = some (.cells #[v0, v1, v2, v3, v4] 53 (0, 0)) → (∀ g ob, w.heap[g]? = some ob → o g = 6 → w2.heap[g]? = some ob) → Kc (a.put q.dst (.slice A1 (cases.length + 1) c1)) w2) :
    if Region.wanted q (yielded ops a.tmps) = true then Oper.wp P q a (w.alloc (.cells #[.int .i64 n, vx] 59)) Kc Q else Kc (a.put q.dst undef) (w.alloc (.cells #[.int .i64 n, vx] 59)) := by
  have hl0 := Kd.S_R h.hs
  refine Kd.S_append_step k59 (w0 := w) (W := w) base hw s x 24 59 (.agg #[.int .i64 0, .slice none 0 0]) 32 hq ht hi rfl (by decide) (by decide) v4 cases ⟨n, outs⟩ [.int .i64 n, vx] (fun k => give w o 4 k = 4) (fun k => o k = 5 ∧ k < w.heap.size) hs hx (k59_mkM w base _ ⟨n, outs⟩ (R_lt_mono hx0 (fun k hk hl => ⟨hk, hl⟩))) (fun k hk => ⟨give_x hk.1 hk.2, fun he => by have := hl0.1 k he.symm; omega⟩) (fun k hk => give_new hk) (S_lt_mono h.hs (fun k hk hlt => ⟨give_old hk (by decide) hlt, fun hx => by have := hx.1; omega⟩)) (Below.refl _ _) (Nat.le_of_lt (Nat.lt_of_le_of_lt h.hbb h.lt)) (by omega) ?_
  intro v1' w2 hR2 hB2 hg hat
  have hne := Kd.R_ne hl0 h.box (by decide)
  have hb := blk_grown h.box hg hne
  have key : ∀ i : Nat, i ≠ 4 → ∀ k, give w o 4 k = i → some k ≠ v4.ownBlock := by
    intro i hi k hk he
    have h1 := hl0.1 k he.symm
    have h2 := Kd.R_lt hl0 k he.symm
    rw [give_old h1 (by decide) h2] at hk
    exact hi hk.symm
  have h2 : BD (w2.setCell ⟨bb, 4, none⟩ v1') base bb v0 v1 v2 v3 v1' (give w o 4) code origs dests loops (cases ++ [⟨n, outs⟩]) :=
    ⟨blk_put hb 4 _ rfl, h.hbb, Kd.R_set (Kd.R_over' h.hc (fun k hk => Kd.R_typed hl0 k hk) (by decide) hg) hb (fun q hq => ne53 hq) 4 _, Kd.R_set (Kd.R_grown (R_lt_mono h.ho (fun k hk hl => give_old hk (by decide) hl)) hg (key 1 (by decide))) hb (fun q hq => ne53a hq) 4 _, Kd.R_set (Kd.R_grown (R_lt_mono h.hd (fun k hk hl => give_old hk (by decide) hl)) hg (key 2 (by decide))) hb (fun q hq => ne53a hq) 4 _, Kd.S_set (Kd.S_grown (S_lt_mono h.hl (fun k hk hl => give_old hk (by decide) hl)) hg (key 3 (by decide))) hb (fun q hq => ne53b hq) 4 _, Kd.S_set hR2 hb (fun q hq => ne53b hq) 4 _⟩
  obtain ⟨A1, c1, rfl⟩ := Kd.S_slice hR2
  have hz : (cases ++ [(⟨n, outs⟩ : S59)]).length = cases.length + 1 := by simp
  rw [hz] at h2 ⊢
  exact k A1 c1 w2 h2 hB2 hb (fun g ob hgo h6 => blk_grown hgo hg (fun e => by have := hl0.1 g e.symm; omega))
end
end Go.Proofs.Ytmglkgjnhoojaaa.PCodeRows
