/- A builder in memory: its box, and its five rows, each block of which belongs to one row. -/
import Derived.Test.YtmglkgjnhoojaaatkA
namespace Go.Proofs.Ytmglkgjnhoojaaa.PCodeRows
open Go.RowKit Go.Proofs.YtmglkgjnhoojaaaW.PrintWords Go.Proofs.YtmglkgjnhoojaaaW.PrintLast Go.Proofs.YtmglkgjnhoojaaaW.PrintMore
set_option linter.unusedVariables false
set_option linter.unusedSimpArgs false
section
variable {α : Type} {d : Kd α} {e base : Nat} {w w1 : World} {ok ok' : Nat → Prop} {v : Value} {xs : List α} {N : Nat → Prop}
theorem R_kept (h : d.R e w base ok v xs) (hK : Kept w w1 N) (hN : ∀ k q cells, ok k → q ∈ e :: d.E → w.heap[k]? = some (.cells cells q (0, 0)) → ¬ N k) : d.R e w1 base ok v xs :=
  Kd.R_mono (Kd.R_move (Kd.R_bound h) (fun k hk => hK.2 k hk.2.2.1 (by obtain ⟨q, hq, cells, hc⟩ := hk.2.2.2; exact hN k q cells hk.1 hq hc))) (fun _ hk => hk.1)
theorem S_kept (h : Kd.S d e w base ok v xs) (hK : Kept w w1 N) (hN : ∀ k q cells, ok k → q ∈ e :: d.E → w.heap[k]? = some (.cells cells q (0, 0)) → ¬ N k) : Kd.S d e w1 base ok v xs :=
  Kd.S_mono (Kd.S_move (Kd.S_bound h) (fun k hk => hK.2 k hk.2.2.1 (by obtain ⟨q, hq, cells, hc⟩ := hk.2.2.2; exact hN k q cells hk.1 hq hc))) (fun _ hk => hk.1)
theorem R_lt_mono (h : d.R e w base ok v xs) (hok : ∀ k, ok k → k < w.heap.size → ok' k) : d.R e w base ok' v xs := Kd.R_mono (Kd.R_bound h) (fun k hk => hok k hk.1 hk.2.2.1)
theorem S_lt_mono (h : Kd.S d e w base ok v xs) (hok : ∀ k, ok k → k < w.heap.size → ok' k) : Kd.S d e w base ok' v xs := Kd.S_mono (Kd.S_bound h) (fun k hk => hok k hk.1 hk.2.2.1)
/-- The last element taken off: its cells, its blocks (okx), and the rest, without them. -/
theorem S_last {ad : Addr} {n c : Nat} {x z : α} (h : Kd.S d e w base ok (.slice (some ad) (n + 1) c) (xs ++ [x])) (hn : xs.length = n) :
    ∃ okx cs, Kd.S d e w base (fun k => ok k ∧ ¬ okx k) (.slice (some ad) n c) xs ∧ d.M w base okx x cs ∧ (∀ k, okx k → ok k) ∧ cs.length = d.sz ∧ ∀ j u, cs[j]? = some u → w.cell? (ad.add (n * d.sz + j)) = some u := by
  subst hn
  obtain ⟨f, hf⟩ := h
  obtain ⟨cs, hcl, hM, hcc⟩ := Kd.R_getA hf (z, 0) (xs.length : Int) (by omega) (by omega)
  have hg : (xs ++ [x]).zipIdx.getD ((xs.length : Int)).toNat (z, 0) = (x, xs.length) := by
    rw [Int.toNat_natCast, List.getD_eq_getElem?_getD, Kd.zip_at (by simp : (xs ++ [x])[xs.length]? = some x)]
    rfl
  rw [hg] at hM
  rw [Int.toNat_natCast] at hcc
  refine ⟨fun k => (ok k ∧ some k ≠ (Value.slice (some ad) (xs.length + 1) c).ownBlock) ∧ f k = xs.length, cs, ?_, hM, fun k hk => hk.1.1, hcl, hcc⟩
  have ht := Kd.R_take hf (m := xs.length) (by simp)
  have hz : (xs ++ [x]).zipIdx.take xs.length = xs.zipIdx := by
    apply List.ext_getElem?
    intro j
    rw [List.getElem?_take]
    by_cases hj : j < xs.length
    · rw [if_pos hj, List.getElem?_zipIdx, List.getElem?_zipIdx, List.getElem?_append_left hj]
    · rw [if_neg hj, List.getElem?_eq_none (by simp; omega)]
  rw [hz] at ht
  have hob : (Value.slice (some ad) (xs.length + 1) c).ownBlock = (Value.slice (some ad) xs.length c).ownBlock := by
    obtain ⟨g, rfl⟩ := Kd.R_head hf
    rfl
  obtain ⟨h0, inner, ho, hr⟩ := ht
  refine ⟨f, fun k hk => ⟨h0 k hk, fun hx => hx.1.2 (by rw [hob, hk])⟩, inner, ho, hr.1, fun j p hj => ?_⟩
  have hp := hr.2 j p hj
  rw [List.getElem?_zipIdx, Nat.zero_add] at hj
  obtain ⟨y, hy, rfl⟩ := Option.map_eq_some_iff.1 hj
  have hjl : j < xs.length := by
    by_cases hjl : j < xs.length
    · exact hjl
    · rw [List.getElem?_eq_none (by omega)] at hy; cases hy
  exact d.M_mono (fun k hk => ⟨⟨⟨hk.1.1, fun hx => by have h1 := hk.2; have h2 := hx.2; simp only at h1; omega⟩, hk.1.2⟩, hk.2⟩) hp
end
theorem E3 : (Kd.int .i64).E = [] := rfl
theorem E59 : k59.E = [3] := rfl
theorem q3 {q : Nat} (h : q ∈ 3 :: (Kd.int .i64).E) : q = 3 ∨ q = 59 := by rw [E3] at h; simp at h; exact .inl h
theorem q59 {q : Nat} (h : q ∈ 59 :: k59.E) : q = 3 ∨ q = 59 := by rw [E59] at h; simp at h; exact h.symm
/-- A builder: 'o' tells whose a block is: 1 the origs', 2 the dests', 3 the loops', 4 the cases'. -/
structure BD (w : World) (base bb : Nat) (v0 v1 v2 v3 v4 : Value) (o : Nat → Nat) (code : List S37) (origs dests : List Int) (loops cases : List S59) : Prop where
  box : w.heap[bb]? = some (.cells #[v0, v1, v2, v3, v4] 53 (0, 0))
  hbb : base ≤ bb
  hc : Kd.R k37 37 w base (fun _ => True) v0 code
  ho : Kd.R (Kd.int .i64) 3 w base (fun k => o k = 1) v1 origs
  hd : Kd.R (Kd.int .i64) 3 w base (fun k => o k = 2) v2 dests
  hl : Kd.S k59 59 w base (fun k => o k = 3) v3 loops
  hs : Kd.S k59 59 w base (fun k => o k = 4) v4 cases
section
variable {w w1 : World} {base bb : Nat} {v0 v1 v2 v3 v4 v' : Value} {o : Nat → Nat} {code code' : List S37} {origs dests xs : List Int} {loops cases ls : List S59}
theorem BD.away (h : BD w base bb v0 v1 v2 v3 v4 o code origs dests loops cases) {k q : Nat} {cells : Array Value} (hq : q = 3 ∨ q = 59) (hk : w.heap[k]? = some (.cells cells q (0, 0))) : ¬ (k = bb ∨ some k = v0.ownBlock) := by
  rintro (rfl | hk2)
  · have := h.box.symm.trans hk
    injection this with this
    injection this with _ h3
    rcases hq with rfl | rfl <;> exact absurd h3 (by decide)
  · obtain ⟨c2, h2⟩ := Kd.R_typed h.hc k hk2.symm
    have := h2.symm.trans hk
    injection this with this
    injection this with _ h3
    rcases hq with rfl | rfl <;> exact absurd h3 (by decide)
/-- Behind what was done to the code's row. -/
theorem BD.coded (h : BD w base bb v0 v1 v2 v3 v4 o code origs dests loops cases) (hK : Kept w w1 (fun k => k = bb ∨ some k = v0.ownBlock)) (hb : w1.heap[bb]? = some (.cells #[v', v1, v2, v3, v4] 53 (0, 0))) (hR : Kd.R k37 37 w1 base (fun _ => True) v' code') :
    BD w1 base bb v' v1 v2 v3 v4 o code' origs dests loops cases :=
  ⟨hb, h.hbb, hR, R_kept h.ho hK (fun k q cells _ hq hc => h.away (q3 hq) hc), R_kept h.hd hK (fun k q cells _ hq hc => h.away (q3 hq) hc), S_kept h.hl hK (fun k q cells _ hq hc => h.away (q59 hq) hc), S_kept h.hs hK (fun k q cells _ hq hc => h.away (q59 hq) hc)⟩
theorem BD.below (h : BD w base bb v0 v1 v2 v3 v4 o code origs dests loops cases) (hb : Below w.heap.size w w1) : BD w1 base bb v0 v1 v2 v3 v4 o code origs dests loops cases :=
  ⟨blk_below h.box hb, h.hbb, Kd.R_below h.hc hb, Kd.R_below h.ho hb, Kd.R_below h.hd hb, Kd.S_below h.hl hb, Kd.S_below h.hs hb⟩
theorem BD.lt (h : BD w base bb v0 v1 v2 v3 v4 o code origs dests loops cases) : bb < w.heap.size := blk_lt h.box
/-- A cell of the box is set: the rows stand as they were. -/
theorem ne53 {q : Nat} (h : q ∈ 37 :: k37.E) : q ≠ 53 := by
  have : k37.E = [] := rfl
  rw [this] at h; simp at h; omega
theorem ne53a {q : Nat} (h : q ∈ 3 :: (Kd.int .i64).E) : q ≠ 53 := by have := q3 h; omega
theorem ne53b {q : Nat} (h : q ∈ 59 :: k59.E) : q ≠ 53 := by have := q59 h; omega
def new_ (w : World) (o : Nat → Nat) (i k : Nat) : Nat := if k < w.heap.size then o k else i
theorem new_old {i j k : Nat} (h : o k = j) (hk : k < w.heap.size) : new_ w o i k = j := by unfold new_; rw [if_pos hk]; exact h
theorem new_new {i k : Nat} (hk : w.heap.size ≤ k) : new_ w o i k = i := by unfold new_; rw [if_neg (by omega)]
/-- An append to the origs, and its store. -/
theorem BD.app1 (h : BD w base bb v0 v1 v2 v3 v4 o code origs dests loops cases) (hR : Kd.R (Kd.int .i64) 3 w1 base (fun k => new_ w o 1 k = 1) v' xs) (hg : w.grownBy w1 v1.ownBlock) :
    BD (w1.setCell ⟨bb, 1, none⟩ v') base bb v0 v' v2 v3 v4 (new_ w o 1) code xs dests loops cases := by
  have hne := Kd.R_ne h.ho h.box (by decide)
  have hb := blk_grown h.box hg hne
  have hc37 : Kd.R k37 37 w1 base (fun _ => True) v0 code := Kd.R_over' h.hc (fun k hk => Kd.R_typed h.ho k hk) (by decide) hg
  refine ⟨blk_put hb 1 _ rfl, h.hbb, Kd.R_set hc37 hb (fun q hq => ne53 hq) 1 _, Kd.R_set hR hb (fun q hq => ne53a hq) 1 _, Kd.R_set (Kd.R_grown (ok := fun k => new_ w o 1 k = 2) ?_ hg ?_) hb (fun q hq => ne53a hq) 1 _, Kd.S_set (Kd.S_grown (ok := fun k => new_ w o 1 k = 3) ?_ hg ?_) hb (fun q hq => ne53b hq) 1 _, Kd.S_set (Kd.S_grown (ok := fun k => new_ w o 1 k = 4) ?_ hg ?_) hb (fun q hq => ne53b hq) 1 _⟩
  · exact R_lt_mono h.hd (fun k hk hl => new_old hk hl)
  · intro k hk he
    have h1 := h.ho.1 k he.symm
    have h2 := Kd.R_lt h.ho k he.symm
    rw [new_old h1 h2] at hk
    cases hk
  · exact S_lt_mono h.hl (fun k hk hl => new_old hk hl)
  · intro k hk he
    have h1 := h.ho.1 k he.symm
    have h2 := Kd.R_lt h.ho k he.symm
    rw [new_old h1 h2] at hk
    cases hk
  · exact S_lt_mono h.hs (fun k hk hl => new_old hk hl)
  · intro k hk he
    have h1 := h.ho.1 k he.symm
    have h2 := Kd.R_lt h.ho k he.symm
    rw [new_old h1 h2] at hk
    cases hk
theorem BD.app2 (h : BD w base bb v0 v1 v2 v3 v4 o code origs dests loops cases) (hR : Kd.R (Kd.int .i64) 3 w1 base (fun k => new_ w o 2 k = 2) v' xs) (hg : w.grownBy w1 v2.ownBlock) :
    BD (w1.setCell ⟨bb, 2, none⟩ v') base bb v0 v1 v' v3 v4 (new_ w o 2) code origs xs loops cases := by
  have hne := Kd.R_ne h.hd h.box (by decide)
  have hb := blk_grown h.box hg hne
  have hc37 : Kd.R k37 37 w1 base (fun _ => True) v0 code := Kd.R_over' h.hc (fun k hk => Kd.R_typed h.hd k hk) (by decide) hg
  refine ⟨blk_put hb 2 _ rfl, h.hbb, Kd.R_set hc37 hb (fun q hq => ne53 hq) 2 _, Kd.R_set (Kd.R_grown (ok := fun k => new_ w o 2 k = 1) ?_ hg ?_) hb (fun q hq => ne53a hq) 2 _, Kd.R_set hR hb (fun q hq => ne53a hq) 2 _, Kd.S_set (Kd.S_grown (ok := fun k => new_ w o 2 k = 3) ?_ hg ?_) hb (fun q hq => ne53b hq) 2 _, Kd.S_set (Kd.S_grown (ok := fun k => new_ w o 2 k = 4) ?_ hg ?_) hb (fun q hq => ne53b hq) 2 _⟩
  · exact R_lt_mono h.ho (fun k hk hl => new_old hk hl)
  · intro k hk he
    have h1 := h.hd.1 k he.symm
    have h2 := Kd.R_lt h.hd k he.symm
    rw [new_old h1 h2] at hk
    cases hk
  · exact S_lt_mono h.hl (fun k hk hl => new_old hk hl)
  · intro k hk he
    have h1 := h.hd.1 k he.symm
    have h2 := Kd.R_lt h.hd k he.symm
    rw [new_old h1 h2] at hk
    cases hk
  · exact S_lt_mono h.hs (fun k hk hl => new_old hk hl)
  · intro k hk he
    have h1 := h.hd.1 k he.symm
    have h2 := Kd.R_lt h.hd k he.symm
    rw [new_old h1 h2] at hk
    cases hk
theorem BD.app3 (h : BD w base bb v0 v1 v2 v3 v4 o code origs dests loops cases) (hR : Kd.S k59 59 w1 base (fun k => new_ w o 3 k = 3) v' ls) (hg : w.grownBy w1 v3.ownBlock) :
    BD (w1.setCell ⟨bb, 3, none⟩ v') base bb v0 v1 v2 v' v4 (new_ w o 3) code origs dests ls cases := by
  have hl0 := Kd.S_R h.hl
  have hne := Kd.R_ne hl0 h.box (by decide)
  have hb := blk_grown h.box hg hne
  have hc37 : Kd.R k37 37 w1 base (fun _ => True) v0 code := Kd.R_over' h.hc (fun k hk => Kd.R_typed hl0 k hk) (by decide) hg
  refine ⟨blk_put hb 3 _ rfl, h.hbb, Kd.R_set hc37 hb (fun q hq => ne53 hq) 3 _, Kd.R_set (Kd.R_grown (ok := fun k => new_ w o 3 k = 1) ?_ hg ?_) hb (fun q hq => ne53a hq) 3 _, Kd.R_set (Kd.R_grown (ok := fun k => new_ w o 3 k = 2) ?_ hg ?_) hb (fun q hq => ne53a hq) 3 _, Kd.S_set hR hb (fun q hq => ne53b hq) 3 _, Kd.S_set (Kd.S_grown (ok := fun k => new_ w o 3 k = 4) ?_ hg ?_) hb (fun q hq => ne53b hq) 3 _⟩
  · exact R_lt_mono h.ho (fun k hk hl => new_old hk hl)
  · intro k hk he
    have h1 := hl0.1 k he.symm
    have h2 := Kd.R_lt hl0 k he.symm
    rw [new_old h1 h2] at hk
    cases hk
  · exact R_lt_mono h.hd (fun k hk hl => new_old hk hl)
  · intro k hk he
    have h1 := hl0.1 k he.symm
    have h2 := Kd.R_lt hl0 k he.symm
    rw [new_old h1 h2] at hk
    cases hk
  · exact S_lt_mono h.hs (fun k hk hl => new_old hk hl)
  · intro k hk he
    have h1 := hl0.1 k he.symm
    have h2 := Kd.R_lt hl0 k he.symm
    rw [new_old h1 h2] at hk
    cases hk
theorem BD.app4 (h : BD w base bb v0 v1 v2 v3 v4 o code origs dests loops cases) (hR : Kd.S k59 59 w1 base (fun k => new_ w o 4 k = 4) v' ls) (hg : w.grownBy w1 v4.ownBlock) :
    BD (w1.setCell ⟨bb, 4, none⟩ v') base bb v0 v1 v2 v3 v' (new_ w o 4) code origs dests loops ls := by
  have hl0 := Kd.S_R h.hs
  have hne := Kd.R_ne hl0 h.box (by decide)
  have hb := blk_grown h.box hg hne
  have hc37 : Kd.R k37 37 w1 base (fun _ => True) v0 code := Kd.R_over' h.hc (fun k hk => Kd.R_typed hl0 k hk) (by decide) hg
  refine ⟨blk_put hb 4 _ rfl, h.hbb, Kd.R_set hc37 hb (fun q hq => ne53 hq) 4 _, Kd.R_set (Kd.R_grown (ok := fun k => new_ w o 4 k = 1) ?_ hg ?_) hb (fun q hq => ne53a hq) 4 _, Kd.R_set (Kd.R_grown (ok := fun k => new_ w o 4 k = 2) ?_ hg ?_) hb (fun q hq => ne53a hq) 4 _, Kd.S_set (Kd.S_grown (ok := fun k => new_ w o 4 k = 3) ?_ hg ?_) hb (fun q hq => ne53b hq) 4 _, Kd.S_set hR hb (fun q hq => ne53b hq) 4 _⟩
  · exact R_lt_mono h.ho (fun k hk hl => new_old hk hl)
  · intro k hk he
    have h1 := hl0.1 k he.symm
    have h2 := Kd.R_lt hl0 k he.symm
    rw [new_old h1 h2] at hk
    cases hk
  · exact R_lt_mono h.hd (fun k hk hl => new_old hk hl)
  · intro k hk he
    have h1 := hl0.1 k he.symm
    have h2 := Kd.R_lt hl0 k he.symm
    rw [new_old h1 h2] at hk
    cases hk
  · exact S_lt_mono h.hl (fun k hk hl => new_old hk hl)
  · intro k hk he
    have h1 := hl0.1 k he.symm
    have h2 := Kd.R_lt hl0 k he.symm
    rw [new_old h1 h2] at hk
    cases hk
/-- A number taken off the origs, the dests. -/
theorem BD.pop1 {A : Option Addr} {n c : Nat} {x : Int} (h : BD w base bb v0 (.slice A (n + 1) c) v2 v3 v4 o code (xs ++ [x]) dests loops cases) (m : Nat) :
    BD ((w.drewN m).setCell ⟨bb, 1, none⟩ (.slice A n c)) base bb v0 (.slice A n c) v2 v3 v4 o code xs dests loops cases := by
  have hn : n = xs.length := by have := (Kd.R_reads' h.ho).1; simpa using this
  have ht : Kd.R (Kd.int .i64) 3 w base (fun k => o k = 1) (.slice A n c) xs := by
    have := Kd.R_take h.ho (m := n) (by simp [hn])
    rwa [hn, List.take_left, ← hn] at this
  have hb : (w.drewN m).heap[bb]? = some (.cells #[v0, .slice A (n + 1) c, v2, v3, v4] 53 (0, 0)) := h.box
  exact ⟨blk_put hb 1 _ rfl, h.hbb, Kd.R_set (Kd.R_drewN h.hc m) hb (fun q hq => ne53 hq) 1 _, Kd.R_set (Kd.R_drewN ht m) hb (fun q hq => ne53a hq) 1 _, Kd.R_set (Kd.R_drewN h.hd m) hb (fun q hq => ne53a hq) 1 _, Kd.S_set (Kd.S_drewN h.hl m) hb (fun q hq => ne53b hq) 1 _, Kd.S_set (Kd.S_drewN h.hs m) hb (fun q hq => ne53b hq) 1 _⟩
theorem BD.pop2 {A : Option Addr} {n c : Nat} {x : Int} (h : BD w base bb v0 v1 (.slice A (n + 1) c) v3 v4 o code origs (xs ++ [x]) loops cases) (m : Nat) :
    BD ((w.drewN m).setCell ⟨bb, 2, none⟩ (.slice A n c)) base bb v0 v1 (.slice A n c) v3 v4 o code origs xs loops cases := by
  have hn : n = xs.length := by have := (Kd.R_reads' h.hd).1; simpa using this
  have ht : Kd.R (Kd.int .i64) 3 w base (fun k => o k = 2) (.slice A n c) xs := by
    have := Kd.R_take h.hd (m := n) (by simp [hn])
    rwa [hn, List.take_left, ← hn] at this
  have hb : (w.drewN m).heap[bb]? = some (.cells #[v0, v1, .slice A (n + 1) c, v3, v4] 53 (0, 0)) := h.box
  exact ⟨blk_put hb 2 _ rfl, h.hbb, Kd.R_set (Kd.R_drewN h.hc m) hb (fun q hq => ne53 hq) 2 _, Kd.R_set (Kd.R_drewN h.ho m) hb (fun q hq => ne53a hq) 2 _, Kd.R_set (Kd.R_drewN ht m) hb (fun q hq => ne53a hq) 2 _, Kd.S_set (Kd.S_drewN h.hl m) hb (fun q hq => ne53b hq) 2 _, Kd.S_set (Kd.S_drewN h.hs m) hb (fun q hq => ne53b hq) 2 _⟩
end
end Go.Proofs.Ytmglkgjnhoojaaa.PCodeRows
/- The builder's branch: if, ahead, then, begin, again, until. -/
namespace Go.Proofs.Ytmglkgjnhoojaaa.PCodeRows
open Go.RowKit Go.Proofs.YtmglkgjnhoojaaaW.PrintWords Go.Proofs.YtmglkgjnhoojaaaW.PrintLast Go.Proofs.YtmglkgjnhoojaaaW.PrintMore
set_option linter.unusedVariables false
set_option linter.unusedSimpArgs false
theorem infoI : (Try.prog.info? 3).map (fun i => (i.zero, i.size, i.bytes)) = some (some (.int .i64 0), 1, 8) := by kernel_rfl
theorem ints_reps {W : World} {base : Nat} {ok : Nat → Prop} (l : List Int) : Reps ((Kd.int .i64).M W base ok) (Kd.int .i64).sz l (l.map fun x => Value.int .i64 x) := by
  have h1 : (Kd.int .i64).sz = 1 := rfl
  refine ⟨by rw [h1, List.length_map, Nat.mul_one], fun j p hj => ?_⟩
  rw [h1, Nat.mul_one]
  have hl : j < l.length := by
    by_cases h : j < l.length
    · exact h
    · rw [List.getElem?_eq_none (by omega)] at hj; cases hj
  have e : ((l.map fun x => Value.int .i64 x).drop j).take 1 = [Value.int .i64 p] := by
    rw [List.getElem?_eq_getElem hl] at hj
    injection hj with hj
    rw [List.drop_eq_getElem_cons (by simpa using hl)]
    simp [hj]
  rw [e]
  rfl
/-- A row that is written out. -/
theorem lit_R (W : World) (base : Nat) (hb : base ≤ W.heap.size) (l : List Int) (hl : l.length ≤ 140737488351232) :
    (Kd.int .i64).R 3 (W.alloc (.cells (l.map fun x => Value.int .i64 x).toArray 3)) base (fun _ => True) (.slice (some ⟨W.heap.size, 0, none⟩) l.length l.length) l := by
  refine ⟨fun _ _ => trivial, l.map fun x => Value.int .i64 x, ?_, ?_⟩
  · have h2 := World.ownsRow_lit (base := base) (e := 3) (size := (Kd.int .i64).sz) W (l.map fun x => Value.int .i64 x).toArray l.length hb (by have : maxLen = 9223372036854775807 := rfl; omega) (by show (l.map fun x => Value.int .i64 x).toArray.size = l.length * 1; simp)
    simpa using h2
  · exact ints_reps l
section
variable {w : World} {base bb : Nat} {v0 v1 v2 v3 v4 : Value} {o : Nat → Nat} {code : List S37} {origs dests xs : List Int} {loops cases : List S59}
/-- A builder's content. -/
structure Dr where
  code : List S37
  origs : List Int
  dests : List Int
  loops : List S59
  cases : List S59
/-- What an act leaves: a builder, or an error. -/
def BPost (base bb : Nat) (w : World) (r : Dr ⊕ Int) (e : Ending) (w' : World) : Prop :=
  Below base w w' ∧ match r with
    | .inl d => e = .returned (.int .i64 0) ∧ ∃ v0 v1 v2 v3 v4 o, BD w' base bb v0 v1 v2 v3 v4 o d.code d.origs d.dests d.loops d.cases
    | .inr c => e = .returned (.int .i64 c)
def layP (code : List S37) (kind n : Int) (f : List S37 → Dr) : Dr ⊕ Int := if code.length < 256 then .inl (f (code ++ [⟨kind, n % 4294967296⟩])) else .inr 3
theorem lay_bd (h : BD w base bb v0 v1 v2 v3 v4 o code origs dests loops cases) (kind n : Int) (hl : code.length < 256) :
    Calls Try.prog 35 #[.pointer (some ⟨bb, 0, none⟩), .int .i64 kind, .int .i64 n] w fun e w' => e = .returned (.tuple #[.int .i64 code.length, .int .i64 0]) ∧ ∃ v0', BD w' base bb v0' v1 v2 v3 v4 o (code ++ [⟨kind, n % 4294967296⟩]) origs dests loops cases ∧ Below base w w' := by
  refine (lay_calls bb base v0 v1 v2 v3 v4 code kind n w (fun _ => True) h.box h.hbb h.hc (fun _ _ => trivial) hl).mono ?_
  rintro e w' ⟨v0', rfl, hb, hR, hK, hB⟩
  exact ⟨rfl, v0', h.coded hK hb hR, hB⟩
theorem lay_bd_long (h : BD w base bb v0 v1 v2 v3 v4 o code origs dests loops cases) (kind n : Int) (hl : ¬ code.length < 256) :
    Calls Try.prog 35 #[.pointer (some ⟨bb, 0, none⟩), .int .i64 kind, .int .i64 n] w fun e w' => e = .returned (.tuple #[.int .i64 0, .int .i64 3]) ∧ w' = w := by
  obtain ⟨A, c, rfl⟩ := Kd.R_slice h.hc
  exact lay_long bb A code.length c v1 v2 v3 v4 kind n w h.box (by omega)
theorem push1 (h : BD w base bb v0 v1 v2 v3 v4 o code origs dests loops cases) {P : Program} {ops : Array Oper} {rest : List Oper} {Q : Exit → Act → World → Prop} {a : Act} {q : Oper} {s x : Operand} (n : Int) {A : Option Addr} {c : Nat} (hv : v1 = .slice A origs.length c)
    (ht : P.underlying 23 = some (.slice 3)) (hi : (P.info? 3).map (fun i => (i.zero, i.size, i.bytes)) = some (some (.int .i64 0), 1, 8)) (hgd : q.guard = none) (hq : q.op = .call { callee := .builtin .append, args := #[s, x], argTypes := #[23, 23] }) (hs : a.eval s = v1) (hx : a.eval x = .slice (some ⟨w.heap.size, 0, none⟩) 1 1) (hl : origs.length < 4398046511104)
    (k : ∀ A1 c1 w2, BD (w2.setCell ⟨bb, 1, none⟩ (.slice A1 (origs.length + 1) c1)) base bb v0 (.slice A1 (origs.length + 1) c1) v2 v3 v4 (new_ w o 1) code (origs ++ [n]) dests loops cases → Below base w w2 → w2.frozen? ⟨bb, 1, none⟩ = false → w2.cell? ⟨bb, 1, none⟩ = some (.slice A origs.length c) → wpList P ops Q rest (a.put q.dst (.slice A1 (origs.length + 1) c1)) w2) :
    wpList P ops Q (q :: rest) a (w.alloc (.cells #[.int .i64 n] 3)) := by
  refine Kd.R_append (Kd.int .i64) (w0 := w) (W := w) base hgd s x 23 3 (.int .i64 0) 8 hq ht hi rfl (by decide) (by decide) v1 origs n [.int .i64 n] (fun k => new_ w o 1 k = 1) (fun _ => False) hs hx rfl (fun _ h => h.elim) (fun k hk => new_new hk) (R_lt_mono h.ho (fun k hk hlt => new_old hk hlt)) (Below.refl _ _) (Nat.le_of_lt (Nat.lt_of_le_of_lt h.hbb h.lt)) (by omega) ?_
  intro v1' w2 hR2 hB2 hg hat
  have h2 := h.app1 hR2 hg
  have hb := blk_grown h.box hg (Kd.R_ne h.ho h.box (by decide))
  have hf : w2.frozen? ⟨bb, 1, none⟩ = false := blk_frozen hb 1
  have hb2 : w2.cell? ⟨bb, 1, none⟩ = some v1 := (blk_cell hb 1).trans rfl
  obtain ⟨A1, c1, rfl⟩ := Kd.R_slice hR2
  have hz : (origs ++ [n]).length = origs.length + 1 := by simp
  rw [hz] at h2 ⊢
  exact k A1 c1 w2 h2 hB2 hf (hv ▸ hb2)
theorem pop1_calls {x : Int} (h : BD w base bb v0 v1 v2 v3 v4 o code (xs ++ [x]) dests loops cases) :
    Calls Try.prog 39 #[.pointer (some ⟨bb, 1, none⟩)] w fun e w' => e = .returned (.tuple #[.int .i64 x, .bool true]) ∧ ∃ v1', BD w' base bb v0 v1' v2 v3 v4 o code xs dests loops cases ∧ Below base w w' := by
  obtain ⟨A, c, rfl, hc, hC⟩ := Kd.R_reads h.ho
  have hz : (xs ++ [x]).length = xs.length + 1 := by simp
  rw [hz] at h hc hC
  refine (lastInt_calls bb 1 A xs.length c xs x w _ h.box rfl hc hC).mono ?_
  rintro e w' ⟨rfl, m, rfl⟩
  exact ⟨rfl, _, h.pop1 m, (pw_below_drewN' (Below.refl _ _) m).setCell h.hbb _⟩
theorem pop1_empty (h : BD w base bb v0 v1 v2 v3 v4 o code [] dests loops cases) :
    Calls Try.prog 39 #[.pointer (some ⟨bb, 1, none⟩)] w fun e w' => e = .returned (.tuple #[.int .i64 0, .bool false]) ∧ w' = w := by
  obtain ⟨A, c, rfl⟩ := Kd.R_slice h.ho
  exact lastInt_empty bb 1 A c w _ h.box rfl
theorem pop2_calls {x : Int} (h : BD w base bb v0 v1 v2 v3 v4 o code origs (xs ++ [x]) loops cases) :
    Calls Try.prog 39 #[.pointer (some ⟨bb, 2, none⟩)] w fun e w' => e = .returned (.tuple #[.int .i64 x, .bool true]) ∧ ∃ v2', BD w' base bb v0 v1 v2' v3 v4 o code origs xs loops cases ∧ Below base w w' := by
  obtain ⟨A, c, rfl, hc, hC⟩ := Kd.R_reads h.hd
  have hz : (xs ++ [x]).length = xs.length + 1 := by simp
  rw [hz] at h hc hC
  refine (lastInt_calls bb 2 A xs.length c xs x w _ h.box rfl hc hC).mono ?_
  rintro e w' ⟨rfl, m, rfl⟩
  exact ⟨rfl, _, h.pop2 m, (pw_below_drewN' (Below.refl _ _) m).setCell h.hbb _⟩
theorem pop2_empty (h : BD w base bb v0 v1 v2 v3 v4 o code origs [] loops cases) :
    Calls Try.prog 39 #[.pointer (some ⟨bb, 2, none⟩)] w fun e w' => e = .returned (.tuple #[.int .i64 0, .bool false]) ∧ w' = w := by
  obtain ⟨A, c, rfl⟩ := Kd.R_slice h.hd
  exact lastInt_empty bb 2 A c w _ h.box rfl
theorem aim_bd (h : BD w base bb v0 v1 v2 v3 v4 o code origs dests loops cases) {base2 : Nat} {okl : Nat → Prop} {vl : Value} {l : List Int} (hL : Kd.R (Kd.int .i64) 3 w base2 okl vl l) (hin : ∀ x ∈ l, 0 ≤ x ∧ x < (code.length : Int)) (h256 : code.length ≤ 256) :
    Calls Try.prog 40 #[.pointer (some ⟨bb, 0, none⟩), vl] w fun e w' => e = .returned (.tuple #[]) ∧ BD w' base bb v0 v1 v2 v3 v4 o (aimed code.length code l) origs dests loops cases ∧ Below base w w' := by
  refine (aim_calls bb base base2 v0 v1 v2 v3 v4 vl code (fun _ => True) okl l w h.box h.hc hL hin h256).mono ?_
  rintro e w' ⟨rfl, hR, hK, hB⟩
  refine ⟨rfl, h.coded (hK.mono (fun k hk => .inr hk)) ?_ hR, hB⟩
  exact blk_kept h.box hK (Kd.R_ne h.hc h.box (by decide))
theorem two1 (h : BD w base bb v0 v1 v2 v3 v4 o code origs dests loops cases) {P : Program} {ops : Array Oper} {rest : List Oper} {Q : Exit → Act → World → Prop} {a : Act} {q : Oper} {s x : Operand} (n m : Int) {A : Option Addr} {c : Nat} (hv : v1 = .slice A origs.length c)
    (ht : P.underlying 23 = some (.slice 3)) (hi : (P.info? 3).map (fun i => (i.zero, i.size, i.bytes)) = some (some (.int .i64 0), 1, 8)) (hgd : q.guard = none) (hq : q.op = .call { callee := .builtin .append, args := #[s, x], argTypes := #[23, 23] }) (hs : a.eval s = v1) (hx : a.eval x = .slice (some ⟨w.heap.size, 0, none⟩) 2 2) (hl : origs.length < 4398046511104)
    (k : ∀ A1 c1 w2 o', BD (w2.setCell ⟨bb, 1, none⟩ (.slice A1 (origs.length + 2) c1)) base bb v0 (.slice A1 (origs.length + 2) c1) v2 v3 v4 o' code (origs ++ [n, m]) dests loops cases → Below base w w2 → w2.frozen? ⟨bb, 1, none⟩ = false → w2.cell? ⟨bb, 1, none⟩ = some (.slice A origs.length c) → wpList P ops Q rest (a.put q.dst (.slice A1 (origs.length + 2) c1)) w2) :
    wpList P ops Q (q :: rest) a (w.alloc (.cells #[.int .i64 n, .int .i64 m] 3)) := by
  have hbw : base ≤ w.heap.size := Nat.le_of_lt (Nat.lt_of_le_of_lt h.hbb h.lt)
  have hL := lit_R w base hbw [n, m] (by simp)
  have hLr := (Kd.R_reads' hL).2.2
  have hW : Below w.heap.size w (w.alloc (.cells #[.int .i64 n, .int .i64 m] 3)) := below_alloc (Below.refl _ _) _
  have h1 := h.below hW
  have hbW := Below.mono hW hbw
  have hsz : base ≤ (w.alloc (.cells #[.int .i64 n, .int .i64 m] 3)).heap.size := Nat.le_trans hbw hW.size
  have hL2 : (Kd.int .i64).C (w.alloc (.cells #[.int .i64 n, .int .i64 m] 3)) (some ⟨w.heap.size, 0, none⟩) 2 [n, m] := hLr
  clear hL hLr
  generalize w.alloc (.cells #[.int .i64 n, .int .i64 m] 3) = W at h1 hbW hsz hL2 ⊢
  refine Kd.R_append_rows (Kd.int .i64) (Rr := (Kd.int .i64).K W) (w0 := W) (W := W) base hgd s x 23 3 (.int .i64 0) 8 hq ht hi rfl (by decide) (by decide) v1 origs [n, m] (some ⟨w.heap.size, 0, none⟩) 2 2 (fun k => new_ W o 1 k = 1) (fun _ => False) hs hx (R_lt_mono h1.ho (fun k hk hlt => new_old hk hlt)) hL2 (fun x cs h => h) (fun _ h => h.elim) (fun k hk => new_new hk) (Below.refl _ _) hsz (by omega) ?_
  intro v1' w2 hR2 hB2 hg hat
  have h2 := h1.app1 hR2 hg
  have hb := blk_grown h1.box hg (Kd.R_ne h1.ho h1.box (by decide))
  have hf : w2.frozen? ⟨bb, 1, none⟩ = false := blk_frozen hb 1
  have hb2 : w2.cell? ⟨bb, 1, none⟩ = some v1 := (blk_cell hb 1).trans rfl
  obtain ⟨A1, c1, rfl⟩ := Kd.R_slice hR2
  have hz : (origs ++ [n, m]).length = origs.length + 2 := by simp
  rw [hz] at h2 ⊢
  exact k A1 c1 w2 _ h2 (hbW.trans hB2) hf (hv ▸ hb2)
set_option maxHeartbeats 2000000 in
theorem if_calls (h : BD w base bb v0 v1 v2 v3 v4 o code origs dests loops cases) (ho : origs.length < 4398046511104) :
    Calls Try.prog 23 #[.pointer (some ⟨bb, 0, none⟩), .int .i64 1] w (BPost base bb w (layP code 4 0 fun c => ⟨c, origs ++ [(code.length : Int)], dests, loops, cases⟩)) := by
  unfold layP
  by_cases hl : code.length < 256
  · rw [if_pos hl]
    generalize hr : (Sum.inl _ : Dr ⊕ Int) = r
    have HR := Aside0.mk hr
    clear hr
    go_enter Try.func23, Try.ntmps23
    go_wp2_with fail
    refine (lay_bd h 4 0 hl).mono ?_
    rintro e w1 ⟨rfl, v0', h1, hB1⟩
    obtain ⟨A, c, rfl⟩ := Kd.R_slice h1.ho
    have hb1 : w1.cell? ⟨bb, 1, none⟩ = some (.slice A origs.length c) := (blk_cell h1.box 1).trans rfl
    go_wp2_with (at_builtin; refine push1 h1 (code.length : Int) rfl Try.underlying23 infoI rfl rfl rfl rfl ho ?_)
    intro A1 c1 w2 h2 hB2 hf hb2
    go_wp2_with fail
    refine bodyPost_ret (v := .int .i64 0) (by simp [results, Try.results23, go_sem]) rfl ?_
    rw [← HR.out]
    exact ⟨hB1.trans (hB2.setCell h.hbb _), rfl, _, _, _, _, _, _, h2⟩
  · rw [if_neg hl]
    generalize hr : (Sum.inr _ : Dr ⊕ Int) = r
    have HR := Aside0.mk hr
    clear hr
    go_enter Try.func23, Try.ntmps23
    go_wp2_with fail
    refine (lay_bd_long h 4 0 hl).mono ?_
    rintro e w1 ⟨rfl, rfl⟩
    obtain ⟨A, c, rfl⟩ := Kd.R_slice h.ho
    have hb1 : w1.cell? ⟨bb, 1, none⟩ = some (.slice A origs.length c) := (blk_cell h.box 1).trans rfl
    go_wp2_with (at_builtin; refine push1 h 0 rfl Try.underlying23 infoI rfl rfl rfl rfl ho ?_)
    intro A1 c1 w2 h2 hB2 hf hb2
    go_wp2_with fail
    refine bodyPost_ret (v := .int .i64 3) (by simp [results, Try.results23, go_sem]) rfl ?_
    rw [← HR.out]
    exact ⟨hB2.setCell h.hbb _, rfl⟩
set_option maxHeartbeats 2000000 in
theorem ahead_calls {x : Int} (h : BD w base bb v0 v1 v2 v3 v4 o code (xs ++ [x]) dests loops cases) (ho : xs.length < 4398046511104) :
    Calls Try.prog 23 #[.pointer (some ⟨bb, 0, none⟩), .int .i64 2] w (BPost base bb w (layP code 3 0 fun c => ⟨c, xs ++ [(code.length : Int), x], dests, loops, cases⟩)) := by
  unfold layP
  by_cases hl : code.length < 256
  · rw [if_pos hl]
    generalize hr : (Sum.inl _ : Dr ⊕ Int) = r
    have HR := Aside0.mk hr
    clear hr
    go_enter Try.func23, Try.ntmps23
    go_wp2_with fail
    refine (pop1_calls h).mono ?_
    rintro e w0 ⟨rfl, v1', h0, hB0⟩
    go_wp2_with fail
    refine (lay_bd h0 3 0 hl).mono ?_
    rintro e w1 ⟨rfl, v0', h1, hB1⟩
    obtain ⟨A, c, rfl⟩ := Kd.R_slice h1.ho
    have hb1 : w1.cell? ⟨bb, 1, none⟩ = some (.slice A xs.length c) := (blk_cell h1.box 1).trans rfl
    go_wp2_with (at_builtin; refine two1 h1 (code.length : Int) x rfl Try.underlying23 infoI rfl rfl rfl rfl ho ?_)
    intro A1 c1 w2 o' h2 hB2 hf hb2
    go_wp2_with fail
    refine bodyPost_ret (v := .int .i64 0) (by simp [results, Try.results23, go_sem]) rfl ?_
    rw [← HR.out]
    exact ⟨(hB0.trans hB1).trans (hB2.setCell h.hbb _), rfl, _, _, _, _, _, _, h2⟩
  · rw [if_neg hl]
    generalize hr : (Sum.inr _ : Dr ⊕ Int) = r
    have HR := Aside0.mk hr
    clear hr
    go_enter Try.func23, Try.ntmps23
    go_wp2_with fail
    refine (pop1_calls h).mono ?_
    rintro e w0 ⟨rfl, v1', h0, hB0⟩
    go_wp2_with fail
    refine (lay_bd_long h0 3 0 hl).mono ?_
    rintro e w1 ⟨rfl, rfl⟩
    obtain ⟨A, c, rfl⟩ := Kd.R_slice h0.ho
    have hb1 : w1.cell? ⟨bb, 1, none⟩ = some (.slice A xs.length c) := (blk_cell h0.box 1).trans rfl
    go_wp2_with (at_builtin; refine two1 h0 0 x rfl Try.underlying23 infoI rfl rfl rfl rfl ho ?_)
    intro A1 c1 w2 o' h2 hB2 hf hb2
    go_wp2_with fail
    refine bodyPost_ret (v := .int .i64 3) (by simp [results, Try.results23, go_sem]) rfl ?_
    rw [← HR.out]
    exact ⟨hB0.trans (hB2.setCell h.hbb _), rfl⟩
set_option maxHeartbeats 2000000 in
theorem ahead_empty (h : BD w base bb v0 v1 v2 v3 v4 o code [] dests loops cases) : Calls Try.prog 23 #[.pointer (some ⟨bb, 0, none⟩), .int .i64 2] w (BPost base bb w (.inr 13)) := by
  go_enter Try.func23, Try.ntmps23
  go_wp2_with fail
  refine (pop1_empty h).mono ?_
  rintro e w0 ⟨rfl, rfl⟩
  go_wp2_with fail
  exact bodyPost_ret (v := .int .i64 13) (by simp [results, Try.results23, go_sem]) rfl ⟨Below.refl _ _, rfl⟩
set_option maxHeartbeats 2000000 in
theorem then_empty (h : BD w base bb v0 v1 v2 v3 v4 o code [] dests loops cases) : Calls Try.prog 23 #[.pointer (some ⟨bb, 0, none⟩), .int .i64 3] w (BPost base bb w (.inr 13)) := by
  go_enter Try.func23, Try.ntmps23
  go_wp2_with fail
  refine (pop1_empty h).mono ?_
  rintro e w0 ⟨rfl, rfl⟩
  go_wp2_with fail
  exact bodyPost_ret (v := .int .i64 13) (by simp [results, Try.results23, go_sem]) rfl ⟨Below.refl _ _, rfl⟩
set_option maxHeartbeats 2000000 in
theorem then_calls {x : Int} (h : BD w base bb v0 v1 v2 v3 v4 o code (xs ++ [x]) dests loops cases) (hx : 0 ≤ x ∧ x < (code.length : Int)) (h256 : code.length ≤ 256) :
    Calls Try.prog 23 #[.pointer (some ⟨bb, 0, none⟩), .int .i64 3] w (BPost base bb w (.inl ⟨aimed code.length code [x], xs, dests, loops, cases⟩)) := by
  go_enter Try.func23, Try.ntmps23
  go_wp2_with fail
  refine (pop1_calls h).mono ?_
  rintro e w0 ⟨rfl, v1', h0, hB0⟩
  go_wp2_with fail
  have hL := lit_R w0 0 (Nat.zero_le _) [x] (by simp)
  have hbw : base ≤ w0.heap.size := Nat.le_of_lt (Nat.lt_of_le_of_lt h0.hbb h0.lt)
  refine (aim_bd (h0.below (below_alloc (Below.refl _ _) (.cells #[.int .i64 x] 3))) hL (by intro y hy; simp at hy; subst hy; exact hx) h256).mono ?_
  rintro e w1 ⟨rfl, h1, hB1⟩
  go_wp2_with fail
  exact bodyPost_ret (v := .int .i64 0) (by simp [results, Try.results23, go_sem]) rfl ⟨(hB0.alloc hbw _).trans hB1, rfl, _, _, _, _, _, _, h1⟩
set_option maxHeartbeats 2000000 in
theorem again_empty (h : BD w base bb v0 v1 v2 v3 v4 o code origs [] loops cases) : Calls Try.prog 23 #[.pointer (some ⟨bb, 0, none⟩), .int .i64 5] w (BPost base bb w (.inr 13)) := by
  go_enter Try.func23, Try.ntmps23
  go_wp2_with fail
  refine (pop2_empty h).mono ?_
  rintro e w0 ⟨rfl, rfl⟩
  go_wp2_with fail
  exact bodyPost_ret (v := .int .i64 13) (by simp [results, Try.results23, go_sem]) rfl ⟨Below.refl _ _, rfl⟩
set_option maxHeartbeats 2000000 in
theorem again_calls {x : Int} (h : BD w base bb v0 v1 v2 v3 v4 o code origs (xs ++ [x]) loops cases) :
    Calls Try.prog 23 #[.pointer (some ⟨bb, 0, none⟩), .int .i64 5] w (BPost base bb w (layP code 3 x fun c => ⟨c, origs, xs, loops, cases⟩)) := by
  unfold layP
  by_cases hl : code.length < 256
  · rw [if_pos hl]
    generalize hr : (Sum.inl _ : Dr ⊕ Int) = r
    have HR := Aside0.mk hr
    clear hr
    go_enter Try.func23, Try.ntmps23
    go_wp2_with fail
    refine (pop2_calls h).mono ?_
    rintro e w0 ⟨rfl, v2', h0, hB0⟩
    go_wp2_with fail
    refine (lay_bd h0 3 x hl).mono ?_
    rintro e w1 ⟨rfl, v0', h1, hB1⟩
    go_wp2_with fail
    refine bodyPost_ret (v := .int .i64 0) (by simp [results, Try.results23, go_sem]) rfl ?_
    rw [← HR.out]
    exact ⟨hB0.trans hB1, rfl, _, _, _, _, _, _, h1⟩
  · rw [if_neg hl]
    generalize hr : (Sum.inr _ : Dr ⊕ Int) = r
    have HR := Aside0.mk hr
    clear hr
    go_enter Try.func23, Try.ntmps23
    go_wp2_with fail
    refine (pop2_calls h).mono ?_
    rintro e w0 ⟨rfl, v2', h0, hB0⟩
    go_wp2_with fail
    refine (lay_bd_long h0 3 x hl).mono ?_
    rintro e w1 ⟨rfl, rfl⟩
    go_wp2_with fail
    refine bodyPost_ret (v := .int .i64 3) (by simp [results, Try.results23, go_sem]) rfl ?_
    rw [← HR.out]
    exact ⟨hB0, rfl⟩
set_option maxHeartbeats 2000000 in
theorem until_empty (h : BD w base bb v0 v1 v2 v3 v4 o code origs [] loops cases) : Calls Try.prog 23 #[.pointer (some ⟨bb, 0, none⟩), .int .i64 6] w (BPost base bb w (.inr 13)) := by
  go_enter Try.func23, Try.ntmps23
  go_wp2_with fail
  refine (pop2_empty h).mono ?_
  rintro e w0 ⟨rfl, rfl⟩
  go_wp2_with fail
  exact bodyPost_ret (v := .int .i64 13) (by simp [results, Try.results23, go_sem]) rfl ⟨Below.refl _ _, rfl⟩
set_option maxHeartbeats 2000000 in
theorem until_calls {x : Int} (h : BD w base bb v0 v1 v2 v3 v4 o code origs (xs ++ [x]) loops cases) :
    Calls Try.prog 23 #[.pointer (some ⟨bb, 0, none⟩), .int .i64 6] w (BPost base bb w (layP code 4 x fun c => ⟨c, origs, xs, loops, cases⟩)) := by
  unfold layP
  by_cases hl : code.length < 256
  · rw [if_pos hl]
    generalize hr : (Sum.inl _ : Dr ⊕ Int) = r
    have HR := Aside0.mk hr
    clear hr
    go_enter Try.func23, Try.ntmps23
    go_wp2_with fail
    refine (pop2_calls h).mono ?_
    rintro e w0 ⟨rfl, v2', h0, hB0⟩
    go_wp2_with fail
    refine (lay_bd h0 4 x hl).mono ?_
    rintro e w1 ⟨rfl, v0', h1, hB1⟩
    go_wp2_with fail
    refine bodyPost_ret (v := .int .i64 0) (by simp [results, Try.results23, go_sem]) rfl ?_
    rw [← HR.out]
    exact ⟨hB0.trans hB1, rfl, _, _, _, _, _, _, h1⟩
  · rw [if_neg hl]
    generalize hr : (Sum.inr _ : Dr ⊕ Int) = r
    have HR := Aside0.mk hr
    clear hr
    go_enter Try.func23, Try.ntmps23
    go_wp2_with fail
    refine (pop2_calls h).mono ?_
    rintro e w0 ⟨rfl, v2', h0, hB0⟩
    go_wp2_with fail
    refine (lay_bd_long h0 4 x hl).mono ?_
    rintro e w1 ⟨rfl, rfl⟩
    go_wp2_with fail
    refine bodyPost_ret (v := .int .i64 3) (by simp [results, Try.results23, go_sem]) rfl ?_
    rw [← HR.out]
    exact ⟨hB0, rfl⟩
end
end Go.Proofs.Ytmglkgjnhoojaaa.PCodeRows
/- The builder's branch: begin. -/
namespace Go.Proofs.Ytmglkgjnhoojaaa.PCodeRows
open Go.RowKit Go.Proofs.YtmglkgjnhoojaaaW.PrintWords Go.Proofs.YtmglkgjnhoojaaaW.PrintLast Go.Proofs.YtmglkgjnhoojaaaW.PrintMore
set_option linter.unusedVariables false
set_option linter.unusedSimpArgs false
section
variable {w : World} {base bb : Nat} {v0 v1 v2 v3 v4 : Value} {o : Nat → Nat} {code : List S37} {origs dests xs : List Int} {loops cases : List S59}
theorem push2S (h : BD w base bb v0 v1 v2 v3 v4 o code origs dests loops cases) {P : Program} {ops : Array Oper} {Q : Exit → Act → World → Prop} {Kc : Act → World → Prop} {a : Act} {q : Oper} {s x : Operand} (n : Int) {A : Option Addr} {c : Nat} (hv : v2 = .slice A dests.length c)
    (ht : P.underlying 23 = some (.slice 3)) (hi : (P.info? 3).map (fun i => (i.zero, i.size, i.bytes)) = some (some (.int .i64 0), 1, 8)) (hw : Region.wanted q (yielded ops a.tmps) = true) (hq : q.op = .call { callee := .builtin .append, args := #[s, x], argTypes := #[23, 23] }) (hs : a.eval s = v2) (hx : a.eval x = .slice (some ⟨w.heap.size, 0, none⟩) 1 1) (hl : dests.length < 4398046511104)
    (k : ∀ A1 c1 w2, BD (w2.setCell ⟨bb, 2, none⟩ (.slice A1 (dests.length + 1) c1)) base bb v0 v1 (.slice A1 (dests.length + 1) c1) v3 v4 (new_ w o 2) code origs (dests ++ [n]) loops cases → Below base w w2 → w2.heap[bb]? = some (.cells #[v0, v1, v2, v3, v4] 53 (0, 0)) → Kc (a.put q.dst (.slice A1 (dests.length + 1) c1)) w2) :
    if Region.wanted q (yielded ops a.tmps) = true then Oper.wp P q a (w.alloc (.cells #[.int .i64 n] 3)) Kc Q else Kc (a.put q.dst undef) (w.alloc (.cells #[.int .i64 n] 3)) := by
  refine Kd.R_append_step (Kd.int .i64) (w0 := w) (W := w) base hw s x 23 3 (.int .i64 0) 8 hq ht hi rfl (by decide) (by decide) v2 dests n [.int .i64 n] (fun k => new_ w o 2 k = 2) (fun _ => False) hs hx rfl (fun _ h => h.elim) (fun k hk => new_new hk) (R_lt_mono h.hd (fun k hk hlt => new_old hk hlt)) (Below.refl _ _) (Nat.le_of_lt (Nat.lt_of_le_of_lt h.hbb h.lt)) (by omega) ?_
  intro v1' w2 hR2 hB2 hg hat
  have h2 := h.app2 hR2 hg
  have hb := blk_grown h.box hg (Kd.R_ne h.hd h.box (by decide))
  obtain ⟨A1, c1, rfl⟩ := Kd.R_slice hR2
  have hz : (dests ++ [n]).length = dests.length + 1 := by simp
  rw [hz] at h2 ⊢
  exact k A1 c1 w2 h2 hB2 hb
set_option maxHeartbeats 2000000 in
theorem begin_calls (h : BD w base bb v0 v1 v2 v3 v4 o code origs dests loops cases) (ho : dests.length < 4398046511104) :
    Calls Try.prog 23 #[.pointer (some ⟨bb, 0, none⟩), .int .i64 4] w (BPost base bb w (.inl ⟨code, origs, dests ++ [(code.length : Int)], loops, cases⟩)) := by
  obtain ⟨A0, c0, rfl⟩ := Kd.R_slice h.hc
  obtain ⟨A2, c2, rfl⟩ := Kd.R_slice h.hd
  go_enter Try.func23, Try.ntmps23
  have hS : w.cell? ⟨bb, 2, none⟩ = some (.slice A2 dests.length c2) ∧ w.cell? ⟨bb, 0, none⟩ = some (.slice A0 code.length c0) := ⟨(blk_cell h.box 2).trans rfl, (blk_cell h.box 0).trans rfl⟩
  go_wp2_with fail
  refine start_ (n := 18) (S := fun w' => w'.cell? ⟨bb, 2, none⟩ = some (.slice A2 dests.length c2) ∧ w'.cell? ⟨bb, 0, none⟩ = some (.slice A0 code.length c0)) (ds := [17]) (bz_ 18 0) (by kernel_rfl) rfl rfl (hS) (fun hHeld => ?_)
  refine with_tab (rfl : rtab .any (opsOf Try.f23 20) = rtab .any (opsOf Try.f23 20)) (fun HT_ => ?_)
  apply pu_ 0 (some 88) (bz_ 18 1) HT_ rfl rfl (by kernel_rfl) (fun _ _ _ h => h) (by rfl)
  · intro _; go_simp; with_reducible rfl
  · go_simp; rfl
  apply pu_ 1 (some 89) (bz_ 18 3) HT_ rfl rfl (by kernel_rfl) (fun _ _ _ h => h) (by rfl)
  · intro _; go_simp; with_reducible rfl
  · go_simp; rfl
  apply pu_ 2 (some 90) (bz_ 18 7) HT_ rfl rfl (by kernel_rfl) (fun _ _ _ h => h) (by rfl)
  · intro _; go_simp; with_reducible rfl
  · go_simp; rfl
  apply pu_ 3 (some 91) (bz_ 18 15) HT_ rfl rfl (by kernel_rfl) (fun _ _ _ h => h) (by rfl)
  · intro _; go_simp; with_reducible rfl
  · go_simp; rfl
  apply pu_ 4 (some 92) (bz_ 18 31) HT_ rfl rfl (by kernel_rfl) (fun _ _ _ h => h) (by rfl)
  · intro _; go_simp; with_reducible rfl
  · go_simp; rfl
  apply pu_ 6 (some 94) (bz_ 18 95) HT_ rfl rfl (by kernel_rfl) (fun _ _ _ h => h) (by rfl)
  · intro _; go_simp; with_reducible rfl
  · go_simp; rfl
  apply pu_ 7 (some 95) (bz_ 18 223) HT_ rfl rfl (by kernel_rfl) (fun _ _ _ h => h) (by rfl)
  · intro _; go_simp; with_reducible rfl
  · go_simp; rfl
  apply pu_ 8 (some 96) (bz_ 18 479) HT_ rfl rfl (by kernel_rfl) (fun _ _ _ h => h) (by rfl)
  · intro _; go_simp; with_reducible rfl
  · go_simp; rfl
  apply pu_ 9 (some 97) (bz_ 18 991) HT_ rfl rfl (by kernel_rfl) (fun _ _ _ h => h) (by rfl)
  · intro _; go_simp; with_reducible rfl
  · go_simp; rfl
  apply tk_ 5 (some 93) (bz_ 18 1023) HT_ hHeld rfl rfl (by kernel_rfl) (fun _ _ _ h => h) (by rfl)
  · intro _ hS; go_split_ands; go_simp; with_reducible rfl
  · go_simp; rfl
  apply tk_ 10 (some 98) (bz_ 18 2047) HT_ hHeld rfl rfl (by kernel_rfl) (fun _ _ _ h => h) (by rfl)
  · intro _ hS; go_split_ands; go_simp; with_reducible rfl
  · go_simp; rfl
  apply pu_ 11 (some 99) (bz_ 18 4095) HT_ rfl rfl (by kernel_rfl) (fun _ _ _ h => h) (by rfl)
  · intro _; go_simp; with_reducible rfl
  · go_simp; rfl
  refine one_ (i := 12) (N := some 100) (bz_ 18 8191) rfl rfl (one_of HT_.out (by kernel_rfl)) (by decide) (fun K hK => ?_)
  refine value_ (w1 := ?_) (v := ?_) (by rfl) rfl ?_ ?_
  rotate_left 2
  · go_simp
    constructor
    · rfl
    · rfl
  have hS : (w.drew.alloc (.cells #[.int .i64 code.length] 3)).cell? ⟨bb, 2, none⟩ = some (.slice A2 dests.length c2) ∧ (w.drew.alloc (.cells #[.int .i64 code.length] 3)).cell? ⟨bb, 0, none⟩ = some (.slice A0 code.length c0) := ⟨(blk_cell (blk_alloc (blk_drew h.box) _) 2).trans rfl, (blk_cell (blk_alloc (blk_drew h.box) _) 0).trans rfl⟩
  refine hK.out _ _ (hS) (fun hHeld => ?_)
  clear hK K
  refine norm_ (a' := ?_) ?_ ?_
  rotate_left
  · show Act.put _ (some 100) _ = _
    simp only [Act.put, List.setIfInBounds_toArray, List.set_cons_zero, List.set_cons_succ, i64_w, i32_w]
    rfl
  refine one_ (i := 13) (N := some 101) (bz_ 18 16383) rfl rfl (one_of HT_.out (by kernel_rfl)) (by decide) (fun K hK => ?_)
  refine push2S (h.below (below_drew (Below.refl _ _))) (code.length : Int) rfl Try.underlying23 infoI rfl rfl rfl rfl ho ?_
  intro A1 c1 w2 h2 hB2 hb2
  have hS : w2.cell? ⟨bb, 2, none⟩ = some (.slice A2 dests.length c2) ∧ w2.cell? ⟨bb, 0, none⟩ = some (.slice A0 code.length c0) := ⟨(blk_cell hb2 2).trans rfl, (blk_cell hb2 0).trans rfl⟩
  have hf := blk_frozen hb2 2
  have hcc := hS.1
  refine hK.out _ _ (hS) (fun hHeld => ?_)
  clear hK K
  refine norm_ (a' := ?_) ?_ ?_
  rotate_left
  · show Act.put _ (some 101) _ = _
    simp only [Act.put, List.setIfInBounds_toArray, List.set_cons_zero, List.set_cons_succ, i64_w, i32_w]
    rfl
  apply pu_ 14 (some 102) (bz_ 18 32767) HT_ rfl rfl (by kernel_rfl) (fun _ _ _ h => h) (by rfl)
  · intro _; go_simp; with_reducible rfl
  · go_simp; rfl
  apply pu_ 15 (some 103) (bz_ 18 65535) HT_ rfl rfl (by kernel_rfl) (fun _ _ _ h => h) (by rfl)
  · intro _; go_simp; with_reducible rfl
  · go_simp; rfl
  apply pu_ 16 (some 104) (bz_ 18 131071) HT_ rfl rfl (by kernel_rfl) (fun _ _ _ h => h) (by rfl)
  · intro _; go_simp; with_reducible rfl
  · go_simp; rfl
  refine last_ (i := 17) (N := none) (bz_ 18 262143) rfl rfl (one_of HT_.out (by kernel_rfl)) (by decide) (fun K hK => ?_)
  go_simp
  refine hK.out _ _ ?_
  clear hK K
  refine done_ (done_of HT_.out (by kernel_rfl)) ?_
  clear HT_ hHeld
  go_wp2_with fail
  exact bodyPost_ret (v := .int .i64 0) (by simp [results, Try.results23, go_sem]) rfl ⟨(Below.trans (below_drew (Below.refl _ _)) hB2).setCell h.hbb _, rfl, _, _, _, _, _, _, h2⟩
end
end Go.Proofs.Ytmglkgjnhoojaaa.PCodeRows
/- The builder's loops and cases: an open one taken off, held in a box, put back. -/
namespace Go.Proofs.Ytmglkgjnhoojaaa.PCodeRows
open Go.RowKit Go.Proofs.YtmglkgjnhoojaaaW.PrintWords Go.Proofs.YtmglkgjnhoojaaaW.PrintLast Go.Proofs.YtmglkgjnhoojaaaW.PrintMore
set_option linter.unusedVariables false
set_option linter.unusedSimpArgs false
theorem ne53c {q : Nat} (h : q ∈ 37 :: k37.E) : q = 37 := by
  have : k37.E = [] := rfl
  rw [this] at h; simp at h; exact h
/-- A builder, and beside it an open one in a box of its own. -/
structure BX (w : World) (base bb xb : Nat) (v0 v1 v2 v3 v4 vx : Value) (o : Nat → Nat) (code : List S37) (origs dests : List Int) (loops cases : List S59) (at_ : Int) (outs : List Int) : Prop where
  bd : BD w base bb v0 v1 v2 v3 v4 o code origs dests loops cases
  xbox : w.heap[xb]? = some (.cells #[.int .i64 at_, vx] 59 (0, 0))
  hx : Kd.R (Kd.int .i64) 3 w base (fun k => o k = 5) vx outs
  xo : o xb = 6
  hxb : base ≤ xb
section
variable {w w1 : World} {base bb xb : Nat} {v0 v1 v2 v3 v4 vx v' : Value} {o : Nat → Nat} {code code' : List S37} {origs dests xs outs : List Int} {loops cases ls : List S59} {at_ : Int}
theorem BD.awayBox (h : BD w base bb v0 v1 v2 v3 v4 o code origs dests loops cases) {k q : Nat} {cells : Array Value} (hq : q = 3 ∨ q = 59 ∨ q = 37) (hk : w.heap[k]? = some (.cells cells q (0, 0))) : ¬ k = bb := by
  rintro rfl
  have := h.box.symm.trans hk
  injection this with this
  injection this with _ h3
  rcases hq with rfl | rfl | rfl <;> exact absurd h3 (by decide)
theorem BX.of (h : BD w base bb v0 v1 v2 v3 v4 o code origs dests loops cases) (hx : Kd.R (Kd.int .i64) 3 w base (fun k => o k = 5) vx outs) (hb : Below w.heap.size w w1) (hxb : w1.heap[w.heap.size]? = some (.cells #[.int .i64 at_, vx] 59 (0, 0))) :
    BX w1 base bb w.heap.size v0 v1 v2 v3 v4 vx (new_ w o 6) code origs dests loops cases at_ outs :=
  ⟨⟨blk_below h.box hb, h.hbb, Kd.R_below h.hc hb, Kd.R_below (R_lt_mono h.ho (fun k hk hl => new_old hk hl)) hb, Kd.R_below (R_lt_mono h.hd (fun k hk hl => new_old hk hl)) hb, Kd.S_below (S_lt_mono h.hl (fun k hk hl => new_old hk hl)) hb, Kd.S_below (S_lt_mono h.hs (fun k hk hl => new_old hk hl)) hb⟩,
    hxb, Kd.R_below (R_lt_mono hx (fun k hk hl => new_old hk hl)) hb, new_new (Nat.le_refl _), Nat.le_of_lt (Nat.lt_of_le_of_lt h.hbb h.lt)⟩
theorem BX.below (h : BX w base bb xb v0 v1 v2 v3 v4 vx o code origs dests loops cases at_ outs) (hb : Below w.heap.size w w1) : BX w1 base bb xb v0 v1 v2 v3 v4 vx o code origs dests loops cases at_ outs :=
  ⟨h.bd.below hb, blk_below h.xbox hb, Kd.R_below h.hx hb, h.xo, h.hxb⟩
theorem BX.coded (h : BX w base bb xb v0 v1 v2 v3 v4 vx o code origs dests loops cases at_ outs) (hK : Kept w w1 (fun k => k = bb ∨ some k = v0.ownBlock)) (hb : w1.heap[bb]? = some (.cells #[v', v1, v2, v3, v4] 53 (0, 0))) (hR : Kd.R k37 37 w1 base (fun _ => True) v' code') :
    BX w1 base bb xb v' v1 v2 v3 v4 vx o code' origs dests loops cases at_ outs :=
  ⟨h.bd.coded hK hb hR, blk_kept h.xbox hK (h.bd.away (.inr rfl) h.xbox), R_kept h.hx hK (fun k q cells _ hq hc => h.bd.away (q3 hq) hc), h.xo, h.hxb⟩
theorem lay_bx (h : BX w base bb xb v0 v1 v2 v3 v4 vx o code origs dests loops cases at_ outs) (kind n : Int) (hl : code.length < 256) :
    Calls Try.prog 35 #[.pointer (some ⟨bb, 0, none⟩), .int .i64 kind, .int .i64 n] w fun e w' => e = .returned (.tuple #[.int .i64 code.length, .int .i64 0]) ∧ ∃ v0', BX w' base bb xb v0' v1 v2 v3 v4 vx o (code ++ [⟨kind, n % 4294967296⟩]) origs dests loops cases at_ outs ∧ Below base w w' := by
  refine (lay_calls bb base v0 v1 v2 v3 v4 code kind n w (fun _ => True) h.bd.box h.bd.hbb h.bd.hc (fun _ _ => trivial) hl).mono ?_
  rintro e w' ⟨v0', rfl, hb, hR, hK, hB⟩
  exact ⟨rfl, v0', h.coded hK hb hR, hB⟩
theorem aim_bx (h : BX w base bb xb v0 v1 v2 v3 v4 vx o code origs dests loops cases at_ outs) {base2 : Nat} {okl : Nat → Prop} {vl : Value} {l : List Int} (hL : Kd.R (Kd.int .i64) 3 w base2 okl vl l) (hin : ∀ x ∈ l, 0 ≤ x ∧ x < (code.length : Int)) (h256 : code.length ≤ 256) :
    Calls Try.prog 40 #[.pointer (some ⟨bb, 0, none⟩), vl] w fun e w' => e = .returned (.tuple #[]) ∧ BX w' base bb xb v0 v1 v2 v3 v4 vx o (aimed code.length code l) origs dests loops cases at_ outs ∧ Below base w w' := by
  refine (aim_calls bb base base2 v0 v1 v2 v3 v4 vl code (fun _ => True) okl l w h.bd.box h.bd.hc hL hin h256).mono ?_
  rintro e w' ⟨rfl, hR, hK, hB⟩
  refine ⟨rfl, h.coded (hK.mono (fun k hk => .inr hk)) ?_ hR, hB⟩
  exact blk_kept h.bd.box hK (Kd.R_ne h.bd.hc h.bd.box (by decide))
/-- Behind an append to the open one's outs. -/
theorem BX.grown (h : BX w base bb xb v0 v1 v2 v3 v4 vx o code origs dests loops cases at_ outs) (hg : w.grownBy w1 vx.ownBlock) (hR : Kd.R (Kd.int .i64) 3 w1 base (fun k => new_ w o 5 k = 5) v' xs) :
    BD w1 base bb v0 v1 v2 v3 v4 (new_ w o 5) code origs dests loops cases ∧ w1.heap[xb]? = some (.cells #[.int .i64 at_, vx] 59 (0, 0)) ∧ new_ w o 5 xb = 6 := by
  have hne := Kd.R_ne h.hx h.bd.box (by decide)
  have hne2 := Kd.R_ne h.hx h.xbox (by decide)
  have key : ∀ i : Nat, i ≠ 5 → ∀ k, new_ w o 5 k = i → some k ≠ vx.ownBlock := by
    intro i hi k hk he
    have h1 := h.hx.1 k he.symm
    have h2 := Kd.R_lt h.hx k he.symm
    rw [new_old h1 h2] at hk
    exact hi hk.symm
  refine ⟨⟨blk_grown h.bd.box hg hne, h.bd.hbb, Kd.R_over' h.bd.hc (fun k hk => Kd.R_typed h.hx k hk) (by decide) hg, Kd.R_grown (R_lt_mono h.bd.ho (fun k hk hl => new_old hk hl)) hg (key 1 (by decide)), Kd.R_grown (R_lt_mono h.bd.hd (fun k hk hl => new_old hk hl)) hg (key 2 (by decide)), Kd.S_grown (S_lt_mono h.bd.hl (fun k hk hl => new_old hk hl)) hg (key 3 (by decide)), Kd.S_grown (S_lt_mono h.bd.hs (fun k hk hl => new_old hk hl)) hg (key 4 (by decide))⟩, blk_grown h.xbox hg hne2, new_old h.xo (blk_lt h.xbox)⟩
/-- A cell of the open one's box is set. -/
theorem BX.set0 (h : BX w base bb xb v0 v1 v2 v3 v4 vx o code origs dests loops cases at_ outs) (n : Int) : BX (w.setCell ⟨xb, 0, none⟩ (.int .i64 n)) base bb xb v0 v1 v2 v3 v4 vx o code origs dests loops cases n outs := by
  have hbx : bb ≠ xb := fun e => h.bd.awayBox (.inr (.inl rfl)) h.xbox e.symm
  exact ⟨⟨blk_far h.bd.box (p := ⟨xb, 0, none⟩) hbx _, h.bd.hbb, Kd.R_set h.bd.hc h.xbox (fun q hq => by have := ne53c hq; omega) 0 _, Kd.R_set h.bd.ho h.xbox (by decide) 0 _, Kd.R_set h.bd.hd h.xbox (by decide) 0 _, Kd.S_far h.bd.hl (p := ⟨xb, 0, none⟩) (fun k hk e => by have := h.xo; rw [show k = xb from e] at hk; omega) _, Kd.S_far h.bd.hs (p := ⟨xb, 0, none⟩) (fun k hk e => by have := h.xo; rw [show k = xb from e] at hk; omega) _⟩, blk_put h.xbox 0 _ rfl, Kd.R_set h.hx h.xbox (by decide) 0 _, h.xo, h.hxb⟩
theorem BX.mk1 (h : BD w base bb v0 v1 v2 v3 v4 o code origs dests loops cases) (hb : w.heap[xb]? = some (.cells #[.int .i64 at_, v'] 59 (0, 0))) (ho : o xb = 6) (hxb : base ≤ xb) (hR : Kd.R (Kd.int .i64) 3 w base (fun k => o k = 5) vx outs) :
    BX (w.setCell ⟨xb, 1, none⟩ vx) base bb xb v0 v1 v2 v3 v4 vx o code origs dests loops cases at_ outs := by
  have hbx : bb ≠ xb := fun e => h.awayBox (.inr (.inl rfl)) hb e.symm
  exact ⟨⟨blk_far h.box (p := ⟨xb, 1, none⟩) hbx _, h.hbb, Kd.R_set h.hc hb (fun q hq => by have := ne53c hq; omega) 1 _, Kd.R_set h.ho hb (by decide) 1 _, Kd.R_set h.hd hb (by decide) 1 _, Kd.S_far h.hl (p := ⟨xb, 1, none⟩) (fun k hk e => by rw [show k = xb from e] at hk; omega) _, Kd.S_far h.hs (p := ⟨xb, 1, none⟩) (fun k hk e => by rw [show k = xb from e] at hk; omega) _⟩, blk_put hb 1 _ rfl, Kd.R_set hR hb (by decide) 1 _, ho, hxb⟩
/-- An append to the open one's outs. -/
theorem pushX (h : BX w base bb xb v0 v1 v2 v3 v4 vx o code origs dests loops cases at_ outs) {P : Program} {ops : Array Oper} {rest : List Oper} {Q : Exit → Act → World → Prop} {a : Act} {q : Oper} {s x : Operand} (n : Int)
    (ht : P.underlying 23 = some (.slice 3)) (hi : (P.info? 3).map (fun i => (i.zero, i.size, i.bytes)) = some (some (.int .i64 0), 1, 8)) (hgd : q.guard = none) (hq : q.op = .call { callee := .builtin .append, args := #[s, x], argTypes := #[23, 23] }) (hs : a.eval s = vx) (hx : a.eval x = .slice (some ⟨w.heap.size, 0, none⟩) 1 1) (hl : outs.length < 4398046511104)
    (k : ∀ A1 c1 w2, BD w2 base bb v0 v1 v2 v3 v4 (new_ w o 5) code origs dests loops cases → w2.heap[xb]? = some (.cells #[.int .i64 at_, vx] 59 (0, 0)) → new_ w o 5 xb = 6 → Kd.R (Kd.int .i64) 3 w2 base (fun k => new_ w o 5 k = 5) (.slice A1 (outs.length + 1) c1) (outs ++ [n]) → Below base w w2 → wpList P ops Q rest (a.put q.dst (.slice A1 (outs.length + 1) c1)) w2) :
    wpList P ops Q (q :: rest) a (w.alloc (.cells #[.int .i64 n] 3)) := by
  refine Kd.R_append (Kd.int .i64) (w0 := w) (W := w) base hgd s x 23 3 (.int .i64 0) 8 hq ht hi rfl (by decide) (by decide) vx outs n [.int .i64 n] (fun k => new_ w o 5 k = 5) (fun _ => False) hs hx rfl (fun _ h => h.elim) (fun k hk => new_new hk) (R_lt_mono h.hx (fun k hk hlt => new_old hk hlt)) (Below.refl _ _) (Nat.le_of_lt (Nat.lt_of_le_of_lt h.bd.hbb h.bd.lt)) (by omega) ?_
  intro v1' w2 hR2 hB2 hg hat
  obtain ⟨g1, g2, g3⟩ := h.grown hg hR2
  obtain ⟨A1, c1, rfl⟩ := Kd.R_slice hR2
  have hz : (outs ++ [n]).length = outs.length + 1 := by simp
  rw [hz] at hR2 ⊢
  exact k A1 c1 w2 g1 g2 g3 hR2 hB2
theorem pushXS (h : BX w base bb xb v0 v1 v2 v3 v4 vx o code origs dests loops cases at_ outs) {P : Program} {ops : Array Oper} {Q : Exit → Act → World → Prop} {Kc : Act → World → Prop} {a : Act} {q : Oper} {s x : Operand} (n : Int)
    (ht : P.underlying 23 = some (.slice 3)) (hi : (P.info? 3).map (fun i => (i.zero, i.size, i.bytes)) = some (some (.int .i64 0), 1, 8)) (hw : Region.wanted q (yielded ops a.tmps) = true) (hq : q.op = .call { callee := .builtin .append, args := #[s, x], argTypes := #[23, 23] }) (hs : a.eval s = vx) (hx : a.eval x = .slice (some ⟨w.heap.size, 0, none⟩) 1 1) (hl : outs.length < 4398046511104)
    (k : ∀ A1 c1 w2, BD w2 base bb v0 v1 v2 v3 v4 (new_ w o 5) code origs dests loops cases → w2.heap[xb]? = some (.cells #[.int .i64 at_, vx] 59 (0, 0)) → new_ w o 5 xb = 6 → Kd.R (Kd.int .i64) 3 w2 base (fun k => new_ w o 5 k = 5) (.slice A1 (outs.length + 1) c1) (outs ++ [n]) → Below base w w2 → Kc (a.put q.dst (.slice A1 (outs.length + 1) c1)) w2) :
    if Region.wanted q (yielded ops a.tmps) = true then Oper.wp P q a (w.alloc (.cells #[.int .i64 n] 3)) Kc Q else Kc (a.put q.dst undef) (w.alloc (.cells #[.int .i64 n] 3)) := by
  refine Kd.R_append_step (Kd.int .i64) (w0 := w) (W := w) base hw s x 23 3 (.int .i64 0) 8 hq ht hi rfl (by decide) (by decide) vx outs n [.int .i64 n] (fun k => new_ w o 5 k = 5) (fun _ => False) hs hx rfl (fun _ h => h.elim) (fun k hk => new_new hk) (R_lt_mono h.hx (fun k hk hlt => new_old hk hlt)) (Below.refl _ _) (Nat.le_of_lt (Nat.lt_of_le_of_lt h.bd.hbb h.bd.lt)) (by omega) ?_
  intro v1' w2 hR2 hB2 hg hat
  obtain ⟨g1, g2, g3⟩ := h.grown hg hR2
  obtain ⟨A1, c1, rfl⟩ := Kd.R_slice hR2
  have hz : (outs ++ [n]).length = outs.length + 1 := by simp
  rw [hz] at hR2 ⊢
  exact k A1 c1 w2 g1 g2 g3 hR2 hB2
/-- What belongs to the open one belongs to the row that takes it. -/
def give (w : World) (o : Nat → Nat) (i k : Nat) : Nat := if k < w.heap.size then (if o k = 5 then i else o k) else i
theorem give_old {i j k : Nat} (h : o k = j) (hj : j ≠ 5) (hk : k < w.heap.size) : give w o i k = j := by unfold give; rw [if_pos hk, h, if_neg hj]
theorem give_x {i k : Nat} (h : o k = 5) (hk : k < w.heap.size) : give w o i k = i := by unfold give; rw [if_pos hk, if_pos h]
theorem give_new {i k : Nat} (hk : w.heap.size ≤ k) : give w o i k = i := by unfold give; rw [if_neg (by omega)]

/-- An open one taken off row 3. -/
theorem pop3_calls {x : S59} (h : BD w base bb v0 v1 v2 v3 v4 o code origs dests (ls ++ [x]) cases) :
    Calls Try.prog 41 #[.pointer (some ⟨bb, 3, none⟩)] w fun e w' => ∃ vx, e = .returned (.tuple #[.agg #[.int .i64 x.f0, vx], .bool true]) ∧ ∃ v' o', BD w' base bb v0 v1 v2 v' v4 o' code origs dests ls cases ∧ Kd.R (Kd.int .i64) 3 w' base (fun k => o' k = 5) vx x.f1 ∧ Below base w w' := by
  classical
  obtain ⟨A, c, rfl, hc, hC⟩ := Kd.S_reads h.hl
  have hz : (ls ++ [x]).length = ls.length + 1 := by simp
  rw [hz] at h hc hC
  obtain ⟨ad, e, _⟩ := hC.2.2 (by omega)
  subst e
  obtain ⟨g, rfl⟩ := Kd.R_head (Kd.S_R h.hl)
  obtain ⟨okx, cs, hS, hM, hox, hcl, hcc⟩ := S_last (z := z59) h.hl rfl
  obtain ⟨vx, rfl, hx⟩ := k59_openM hM
  have g0 : w.cell? ((⟨g, 0, none⟩ : Addr).add (ls.length * 2)) = some (.int .i64 x.f0) := hcc 0 _ rfl
  have g1 : w.cell? ⟨((⟨g, 0, none⟩ : Addr).add (ls.length * 2)).block, ((⟨g, 0, none⟩ : Addr).add (ls.length * 2)).off + 1, none⟩ = some vx := by
    have h1 : w.cell? ((⟨g, 0, none⟩ : Addr).add (ls.length * 2 + 1)) = some vx := hcc 1 _ rfl
    rw [add_at] at h1 ⊢
    exact h1
  obtain ⟨B, cB, rfl⟩ := Kd.R_slice hx
  refine (lastOpen_calls base bb 3 h.hbb ⟨g, 0, none⟩ ls.length c x.f0 B x.f1.length cB w _ h.box rfl hc (by have := hC.2.1; omega) g0 g1).mono ?_
  rintro e w' ⟨rfl, hb, hK, hB⟩
  have hno : ∀ k i, o k = i → i ≠ 3 → ¬ okx k := fun k i hk hi hkx => hi (by rw [← hk]; exact hox k hkx)
  refine ⟨_, rfl, .slice (some ⟨g, 0, none⟩) ls.length c, fun k => if okx k then 5 else o k, ⟨hb.trans rfl, h.hbb, R_kept h.hc hK (fun k q cells _ hq hk => h.awayBox (.inr (.inr (ne53c hq))) hk), ?_, ?_, ?_, ?_⟩, ?_, hB⟩
  · refine Kd.R_mono (R_kept h.ho hK (fun k q cells _ hq hk => h.awayBox ((q3 hq).imp_right .inl) hk)) (fun k hk => ?_)
    rw [if_neg (hno k 1 hk (by decide))]; exact hk
  · refine Kd.R_mono (R_kept h.hd hK (fun k q cells _ hq hk => h.awayBox ((q3 hq).imp_right .inl) hk)) (fun k hk => ?_)
    rw [if_neg (hno k 2 hk (by decide))]; exact hk
  · refine Kd.S_mono (S_kept hS hK (fun k q cells _ hq hk => h.awayBox ((q59 hq).imp_right .inl) hk)) (fun k hk => ?_)
    show (if okx k then 5 else o k) = 3
    rw [if_neg hk.2]; exact hk.1
  · refine Kd.S_mono (S_kept h.hs hK (fun k q cells _ hq hk => h.awayBox ((q59 hq).imp_right .inl) hk)) (fun k hk => ?_)
    rw [if_neg (hno k 4 hk (by decide))]; exact hk

  · refine Kd.R_mono (R_kept hx hK (fun k q cells _ hq hk => h.awayBox ((q3 hq).imp_right .inl) hk)) (fun k hk => ?_)
    show (if okx k then 5 else o k) = 5
    rw [if_pos hk]
theorem pop3_empty (h : BD w base bb v0 v1 v2 v3 v4 o code origs dests [] cases) :
    Calls Try.prog 41 #[.pointer (some ⟨bb, 3, none⟩)] w fun e w' => e = .returned (.tuple #[.agg #[.int .i64 0, .slice none 0 0], .bool false]) ∧ Below w.heap.size w w' := by
  obtain ⟨A, c, rfl⟩ := Kd.S_slice h.hl
  exact lastOpen_empty bb 3 A c w _ h.box rfl

/-- An open one taken off row 4. -/
theorem pop4_calls {x : S59} (h : BD w base bb v0 v1 v2 v3 v4 o code origs dests loops (ls ++ [x])) :
    Calls Try.prog 41 #[.pointer (some ⟨bb, 4, none⟩)] w fun e w' => ∃ vx, e = .returned (.tuple #[.agg #[.int .i64 x.f0, vx], .bool true]) ∧ ∃ v' o', BD w' base bb v0 v1 v2 v3 v' o' code origs dests loops ls ∧ Kd.R (Kd.int .i64) 3 w' base (fun k => o' k = 5) vx x.f1 ∧ Below base w w' := by
  classical
  obtain ⟨A, c, rfl, hc, hC⟩ := Kd.S_reads h.hs
  have hz : (ls ++ [x]).length = ls.length + 1 := by simp
  rw [hz] at h hc hC
  obtain ⟨ad, e, _⟩ := hC.2.2 (by omega)
  subst e
  obtain ⟨g, rfl⟩ := Kd.R_head (Kd.S_R h.hs)
  obtain ⟨okx, cs, hS, hM, hox, hcl, hcc⟩ := S_last (z := z59) h.hs rfl
  obtain ⟨vx, rfl, hx⟩ := k59_openM hM
  have g0 : w.cell? ((⟨g, 0, none⟩ : Addr).add (ls.length * 2)) = some (.int .i64 x.f0) := hcc 0 _ rfl
  have g1 : w.cell? ⟨((⟨g, 0, none⟩ : Addr).add (ls.length * 2)).block, ((⟨g, 0, none⟩ : Addr).add (ls.length * 2)).off + 1, none⟩ = some vx := by
    have h1 : w.cell? ((⟨g, 0, none⟩ : Addr).add (ls.length * 2 + 1)) = some vx := hcc 1 _ rfl
    rw [add_at] at h1 ⊢
    exact h1
  obtain ⟨B, cB, rfl⟩ := Kd.R_slice hx
  refine (lastOpen_calls base bb 4 h.hbb ⟨g, 0, none⟩ ls.length c x.f0 B x.f1.length cB w _ h.box rfl hc (by have := hC.2.1; omega) g0 g1).mono ?_
  rintro e w' ⟨rfl, hb, hK, hB⟩
  have hno : ∀ k i, o k = i → i ≠ 4 → ¬ okx k := fun k i hk hi hkx => hi (by rw [← hk]; exact hox k hkx)
  refine ⟨_, rfl, .slice (some ⟨g, 0, none⟩) ls.length c, fun k => if okx k then 5 else o k, ⟨hb.trans rfl, h.hbb, R_kept h.hc hK (fun k q cells _ hq hk => h.awayBox (.inr (.inr (ne53c hq))) hk), ?_, ?_, ?_, ?_⟩, ?_, hB⟩
  · refine Kd.R_mono (R_kept h.ho hK (fun k q cells _ hq hk => h.awayBox ((q3 hq).imp_right .inl) hk)) (fun k hk => ?_)
    rw [if_neg (hno k 1 hk (by decide))]; exact hk
  · refine Kd.R_mono (R_kept h.hd hK (fun k q cells _ hq hk => h.awayBox ((q3 hq).imp_right .inl) hk)) (fun k hk => ?_)
    rw [if_neg (hno k 2 hk (by decide))]; exact hk
  · refine Kd.S_mono (S_kept h.hl hK (fun k q cells _ hq hk => h.awayBox ((q59 hq).imp_right .inl) hk)) (fun k hk => ?_)
    rw [if_neg (hno k 3 hk (by decide))]; exact hk
  · refine Kd.S_mono (S_kept hS hK (fun k q cells _ hq hk => h.awayBox ((q59 hq).imp_right .inl) hk)) (fun k hk => ?_)
    show (if okx k then 5 else o k) = 4
    rw [if_neg hk.2]; exact hk.1

  · refine Kd.R_mono (R_kept hx hK (fun k q cells _ hq hk => h.awayBox ((q3 hq).imp_right .inl) hk)) (fun k hk => ?_)
    show (if okx k then 5 else o k) = 5
    rw [if_pos hk]
theorem pop4_empty (h : BD w base bb v0 v1 v2 v3 v4 o code origs dests loops []) :
    Calls Try.prog 41 #[.pointer (some ⟨bb, 4, none⟩)] w fun e w' => e = .returned (.tuple #[.agg #[.int .i64 0, .slice none 0 0], .bool false]) ∧ Below w.heap.size w w' := by
  obtain ⟨A, c, rfl⟩ := Kd.S_slice h.hs
  exact lastOpen_empty bb 4 A c w _ h.box rfl

theorem push3 (h : BD w base bb v0 v1 v2 v3 v4 o code origs dests loops cases) {P : Program} {ops : Array Oper} {rest : List Oper} {Q : Exit → Act → World → Prop} {a : Act} {q : Oper} {s x : Operand} (n : Int) (outs : List Int) (vx : Value) (hx0 : Kd.R (Kd.int .i64) 3 w base (fun k => o k = 5) vx outs)
    (ht : P.underlying 24 = some (.slice 59)) (hi : (P.info? 59).map (fun i => (i.zero, i.size, i.bytes)) = some (some (.agg #[.int .i64 0, .slice none 0 0]), 2, 32)) (hgd : q.guard = none) (hq : q.op = .call { callee := .builtin .append, args := #[s, x], argTypes := #[24, 24] }) (hs : a.eval s = v3) (hx : a.eval x = .slice (some ⟨w.heap.size, 0, none⟩) 1 1) (hl : loops.length < 4398046511104 - 1)
    (k : ∀ A1 c1 w2, BD (w2.setCell ⟨bb, 3, none⟩ (.slice A1 (loops.length + 1) c1)) base bb v0 v1 v2 (.slice A1 (loops.length + 1) c1) v4 (give w o 3) code origs dests (loops ++ [⟨n, outs⟩]) cases → Below base w w2 → w2.heap[bb]? = some (.cells #[v0, v1, v2, v3, v4] 53 (0, 0)) → (∀ g ob, w.heap[g]? = some ob → o g = 6 → w2.heap[g]? = some ob) → wpList P ops Q rest (a.put q.dst (.slice A1 (loops.length + 1) c1)) w2) :
    wpList P ops Q (q :: rest) a (w.alloc (.cells #[.int .i64 n, vx] 59)) := by
  have hl0 := Kd.S_R h.hl
  refine Kd.S_append k59 (w0 := w) (W := w) base hgd s x 24 59 (.agg #[.int .i64 0, .slice none 0 0]) 32 hq ht hi rfl (by decide) (by decide) v3 loops ⟨n, outs⟩ [.int .i64 n, vx] (fun k => give w o 3 k = 3) (fun k => o k = 5 ∧ k < w.heap.size) hs hx (k59_mkM w base _ ⟨n, outs⟩ (R_lt_mono hx0 (fun k hk hl => ⟨hk, hl⟩))) (fun k hk => ⟨give_x hk.1 hk.2, fun he => by have := hl0.1 k he.symm; omega⟩) (fun k hk => give_new hk) (S_lt_mono h.hl (fun k hk hlt => ⟨give_old hk (by decide) hlt, fun hx => by have := hx.1; omega⟩)) (Below.refl _ _) (Nat.le_of_lt (Nat.lt_of_le_of_lt h.hbb h.lt)) (by omega) ?_
  intro v1' w2 hR2 hB2 hg hat
  have hne := Kd.R_ne hl0 h.box (by decide)
  have hb := blk_grown h.box hg hne
  have key : ∀ i : Nat, i ≠ 3 → ∀ k, give w o 3 k = i → some k ≠ v3.ownBlock := by
    intro i hi k hk he
    have h1 := hl0.1 k he.symm
    have h2 := Kd.R_lt hl0 k he.symm
    rw [give_old h1 (by decide) h2] at hk
    exact hi hk.symm
  have h2 : BD (w2.setCell ⟨bb, 3, none⟩ v1') base bb v0 v1 v2 v1' v4 (give w o 3) code origs dests (loops ++ [⟨n, outs⟩]) cases :=
    ⟨blk_put hb 3 _ rfl, h.hbb, Kd.R_set (Kd.R_over' h.hc (fun k hk => Kd.R_typed hl0 k hk) (by decide) hg) hb (fun q hq => ne53 hq) 3 _, Kd.R_set (Kd.R_grown (R_lt_mono h.ho (fun k hk hl => give_old hk (by decide) hl)) hg (key 1 (by decide))) hb (fun q hq => ne53a hq) 3 _, Kd.R_set (Kd.R_grown (R_lt_mono h.hd (fun k hk hl => give_old hk (by decide) hl)) hg (key 2 (by decide))) hb (fun q hq => ne53a hq) 3 _, Kd.S_set hR2 hb (fun q hq => ne53b hq) 3 _, Kd.S_set (Kd.S_grown (S_lt_mono h.hs (fun k hk hl => give_old hk (by decide) hl)) hg (key 4 (by decide))) hb (fun q hq => ne53b hq) 3 _⟩
  obtain ⟨A1, c1, rfl⟩ := Kd.S_slice hR2
  have hz : (loops ++ [(⟨n, outs⟩ : S59)]).length = loops.length + 1 := by simp
  rw [hz] at h2 ⊢
  exact k A1 c1 w2 h2 hB2 hb (fun g ob hgo h6 => blk_grown hgo hg (fun e => by have := hl0.1 g e.symm; omega))

theorem push3S (h : BD w base bb v0 v1 v2 v3 v4 o code origs dests loops cases) {P : Program} {ops : Array Oper} {Q : Exit → Act → World → Prop} {Kc : Act → World → Prop} {a : Act} {q : Oper} {s x : Operand} (n : Int) (outs : List Int) (vx : Value) (hx0 : Kd.R (Kd.int .i64) 3 w base (fun k => o k = 5) vx outs)
    (ht : P.underlying 24 = some (.slice 59)) (hi : (P.info? 59).map (fun i => (i.zero, i.size, i.bytes)) = some (some (.agg #[.int .i64 0, .slice none 0 0]), 2, 32)) (hw : Region.wanted q (yielded ops a.tmps) = true) (hq : q.op = .call { callee := .builtin .append, args := #[s, x], argTypes := #[24, 24] }) (hs : a.eval s = v3) (hx : a.eval x = .slice (some ⟨w.heap.size, 0, none⟩) 1 1) (hl : loops.length < 4398046511104 - 1)
    (k : ∀ A1 c1 w2, BD (w2.setCell ⟨bb, 3, none⟩ (.slice A1 (loops.length + 1) c1)) base bb v0 v1 v2 (.slice A1 (loops.length + 1) c1) v4 (give w o 3) code origs dests (loops ++ [⟨n, outs⟩]) cases → Below base w w2 → w2.heap[bb]? = some (.cells #[v0, v1, v2, v3, v4] 53 (0, 0)) → (∀ g ob, w.heap[g]? = some ob → o g = 6 → w2.heap[g]? = some ob) → Kc (a.put q.dst (.slice A1 (loops.length + 1) c1)) w2) :
    if Region.wanted q (yielded ops a.tmps) = true then Oper.wp P q a (w.alloc (.cells #[.int .i64 n, vx] 59)) Kc Q else Kc (a.put q.dst undef) (w.alloc (.cells #[.int .i64 n, vx] 59)) := by
  have hl0 := Kd.S_R h.hl
  refine Kd.S_append_step k59 (w0 := w) (W := w) base hw s x 24 59 (.agg #[.int .i64 0, .slice none 0 0]) 32 hq ht hi rfl (by decide) (by decide) v3 loops ⟨n, outs⟩ [.int .i64 n, vx] (fun k => give w o 3 k = 3) (fun k => o k = 5 ∧ k < w.heap.size) hs hx (k59_mkM w base _ ⟨n, outs⟩ (R_lt_mono hx0 (fun k hk hl => ⟨hk, hl⟩))) (fun k hk => ⟨give_x hk.1 hk.2, fun he => by have := hl0.1 k he.symm; omega⟩) (fun k hk => give_new hk) (S_lt_mono h.hl (fun k hk hlt => ⟨give_old hk (by decide) hlt, fun hx => by have := hx.1; omega⟩)) (Below.refl _ _) (Nat.le_of_lt (Nat.lt_of_le_of_lt h.hbb h.lt)) (by omega) ?_
  intro v1' w2 hR2 hB2 hg hat
  have hne := Kd.R_ne hl0 h.box (by decide)
  have hb := blk_grown h.box hg hne
  have key : ∀ i : Nat, i ≠ 3 → ∀ k, give w o 3 k = i → some k ≠ v3.ownBlock := by
    intro i hi k hk he
    have h1 := hl0.1 k he.symm
    have h2 := Kd.R_lt hl0 k he.symm
    rw [give_old h1 (by decide) h2] at hk
    exact hi hk.symm
  have h2 : BD (w2.setCell ⟨bb, 3, none⟩ v1') base bb v0 v1 v2 v1' v4 (give w o 3) code origs dests (loops ++ [⟨n, outs⟩]) cases :=
    ⟨blk_put hb 3 _ rfl, h.hbb, Kd.R_set (Kd.R_over' h.hc (fun k hk => Kd.R_typed hl0 k hk) (by decide) hg) hb (fun q hq => ne53 hq) 3 _, Kd.R_set (Kd.R_grown (R_lt_mono h.ho (fun k hk hl => give_old hk (by decide) hl)) hg (key 1 (by decide))) hb (fun q hq => ne53a hq) 3 _, Kd.R_set (Kd.R_grown (R_lt_mono h.hd (fun k hk hl => give_old hk (by decide) hl)) hg (key 2 (by decide))) hb (fun q hq => ne53a hq) 3 _, Kd.S_set hR2 hb (fun q hq => ne53b hq) 3 _, Kd.S_set (Kd.S_grown (S_lt_mono h.hs (fun k hk hl => give_old hk (by decide) hl)) hg (key 4 (by decide))) hb (fun q hq => ne53b hq) 3 _⟩
  obtain ⟨A1, c1, rfl⟩ := Kd.S_slice hR2
  have hz : (loops ++ [(⟨n, outs⟩ : S59)]).length = loops.length + 1 := by simp
  rw [hz] at h2 ⊢
  exact k A1 c1 w2 h2 hB2 hb (fun g ob hgo h6 => blk_grown hgo hg (fun e => by have := hl0.1 g e.symm; omega))

theorem push4 (h : BD w base bb v0 v1 v2 v3 v4 o code origs dests loops cases) {P : Program} {ops : Array Oper} {rest : List Oper} {Q : Exit → Act → World → Prop} {a : Act} {q : Oper} {s x : Operand} (n : Int) (outs : List Int) (vx : Value) (hx0 : Kd.R (Kd.int .i64) 3 w base (fun k => o k = 5) vx outs)
    (ht : P.underlying 24 = some (.slice 59)) (hi : (P.info? 59).map (fun i => (i.zero, i.size, i.bytes)) = some (some (.agg #[.int .i64 0, .slice none 0 0]), 2, 32)) (hgd : q.guard = none) (hq : q.op = .call { callee := .builtin .append, args := #[s, x], argTypes := #[24, 24] }) (hs : a.eval s = v4) (hx : a.eval x = .slice (some ⟨w.heap.size, 0, none⟩) 1 1) (hl : cases.length < 4398046511104 - 1)
    (k : ∀ A1 c1 w2, BD (w2.setCell ⟨bb, 4, none⟩ (.slice A1 (cases.length + 1) c1)) base bb v0 v1 v2 v3 (.slice A1 (cases.length + 1) c1) (give w o 4) code origs dests loops (cases ++ [⟨n, outs⟩]) → Below base w w2 → w2.heap[bb]? = some (.cells #[v0, v1, v2, v3, v4] 53 (0, 0)) → (∀ g ob, w.heap[g]? = some ob → o g = 6 → w2.heap[g]? = some ob) → wpList P ops Q rest (a.put q.dst (.slice A1 (cases.length + 1) c1)) w2) :
    wpList P ops Q (q :: rest) a (w.alloc (.cells #[.int .i64 n, vx] 59)) := by
  have hl0 := Kd.S_R h.hs
  refine Kd.S_append k59 (w0 := w) (W := w) base hgd s x 24 59 (.agg #[.int .i64 0, .slice none 0 0]) 32 hq ht hi rfl (by decide) (by decide) v4 cases ⟨n, outs⟩ [.int .i64 n, vx] (fun k => give w o 4 k = 4) (fun k => o k = 5 ∧ k < w.heap.size) hs hx (k59_mkM w base _ ⟨n, outs⟩ (R_lt_mono hx0 (fun k hk hl => ⟨hk, hl⟩))) (fun k hk => ⟨give_x hk.1 hk.2, fun he => by have := hl0.1 k he.symm; omega⟩) (fun k hk => give_new hk) (S_lt_mono h.hs (fun k hk hlt => ⟨give_old hk (by decide) hlt, fun hx => by have := hx.1; omega⟩)) (Below.refl _ _) (Nat.le_of_lt (Nat.lt_of_le_of_lt h.hbb h.lt)) (by omega) ?_
  intro v1' w2 hR2 hB2 hg hat
  have hne := Kd.R_ne hl0 h.box (by decide)
  have hb := blk_grown h.box hg hne
  have key : ∀ i : Nat, i ≠ 4 → ∀ k, give w o 4 k = i → some k ≠ v4.ownBlock := by
    intro i hi k hk he
    have h1 := hl0.1 k he.symm
    have h2 := Kd.R_lt hl0 k he.symm
    rw [give_old h1 (by decide) h2] at hk
    exact hi hk.symm
  have h2 : BD (w2.setCell ⟨bb, 4, none⟩ v1') base bb v0 v1 v2 v3 v1' (give w o 4) code origs dests loops (cases ++ [⟨n, outs⟩]) :=
    ⟨blk_put hb 4 _ rfl, h.hbb, Kd.R_set (Kd.R_over' h.hc (fun k hk => Kd.R_typed hl0 k hk) (by decide) hg) hb (fun q hq => ne53 hq) 4 _, Kd.R_set (Kd.R_grown (R_lt_mono h.ho (fun k hk hl => give_old hk (by decide) hl)) hg (key 1 (by decide))) hb (fun q hq => ne53a hq) 4 _, Kd.R_set (Kd.R_grown (R_lt_mono h.hd (fun k hk hl => give_old hk (by decide) hl)) hg (key 2 (by decide))) hb (fun q hq => ne53a hq) 4 _, Kd.S_set (Kd.S_grown (S_lt_mono h.hl (fun k hk hl => give_old hk (by decide) hl)) hg (key 3 (by decide))) hb (fun q hq => ne53b hq) 4 _, Kd.S_set hR2 hb (fun q hq => ne53b hq) 4 _⟩
  obtain ⟨A1, c1, rfl⟩ := Kd.S_slice hR2
  have hz : (cases ++ [(⟨n, outs⟩ : S59)]).length = cases.length + 1 := by simp
  rw [hz] at h2 ⊢
  exact k A1 c1 w2 h2 hB2 hb (fun g ob hgo h6 => blk_grown hgo hg (fun e => by have := hl0.1 g e.symm; omega))

theorem push4S (h : BD w base bb v0 v1 v2 v3 v4 o code origs dests loops cases) {P : Program} {ops : Array Oper} {Q : Exit → Act → World → Prop} {Kc : Act → World → Prop} {a : Act} {q : Oper} {s x : Operand} (n : Int) (outs : List Int) (vx : Value) (hx0 : Kd.R (Kd.int .i64) 3 w base (fun k => o k = 5) vx outs)
    (ht : P.underlying 24 = some (.slice 59)) (hi : (P.info? 59).map (fun i => (i.zero, i.size, i.bytes)) = some (some (.agg #[.int .i64 0, .slice none 0 0]), 2, 32)) (hw : Region.wanted q (yielded ops a.tmps) = true) (hq : q.op = .call { callee := .builtin .append, args := #[s, x], argTypes := #[24, 24] }) (hs : a.eval s = v4) (hx : a.eval x = .slice (some ⟨w.heap.size, 0, none⟩) 1 1) (hl : cases.length < 4398046511104 - 1)
    (k : ∀ A1 c1 w2, BD (w2.setCell ⟨bb, 4, none⟩ (.slice A1 (cases.length + 1) c1)) base bb v0 v1 v2 v3 (.slice A1 (cases.length + 1) c1) (give w o 4) code origs dests loops (cases ++ [⟨n, outs⟩]) → Below base w w2 → w2.heap[bb]? = some (.cells #[v0, v1, v2, v3, v4] 53 (0, 0)) → (∀ g ob, w.heap[g]? = some ob → o g = 6 → w2.heap[g]? = some ob) → Kc (a.put q.dst (.slice A1 (cases.length + 1) c1)) w2) :
    if Region.wanted q (yielded ops a.tmps) = true then Oper.wp P q a (w.alloc (.cells #[.int .i64 n, vx] 59)) Kc Q else Kc (a.put q.dst undef) (w.alloc (.cells #[.int .i64 n, vx] 59)) := by
  have hl0 := Kd.S_R h.hs
  refine Kd.S_append_step k59 (w0 := w) (W := w) base hw s x 24 59 (.agg #[.int .i64 0, .slice none 0 0]) 32 hq ht hi rfl (by decide) (by decide) v4 cases ⟨n, outs⟩ [.int .i64 n, vx] (fun k => give w o 4 k = 4) (fun k => o k = 5 ∧ k < w.heap.size) hs hx (k59_mkM w base _ ⟨n, outs⟩ (R_lt_mono hx0 (fun k hk hl => ⟨hk, hl⟩))) (fun k hk => ⟨give_x hk.1 hk.2, fun he => by have := hl0.1 k he.symm; omega⟩) (fun k hk => give_new hk) (S_lt_mono h.hs (fun k hk hlt => ⟨give_old hk (by decide) hlt, fun hx => by have := hx.1; omega⟩)) (Below.refl _ _) (Nat.le_of_lt (Nat.lt_of_le_of_lt h.hbb h.lt)) (by omega) ?_
  intro v1' w2 hR2 hB2 hg hat
  have hne := Kd.R_ne hl0 h.box (by decide)
  have hb := blk_grown h.box hg hne
  have key : ∀ i : Nat, i ≠ 4 → ∀ k, give w o 4 k = i → some k ≠ v4.ownBlock := by
    intro i hi k hk he
    have h1 := hl0.1 k he.symm
    have h2 := Kd.R_lt hl0 k he.symm
    rw [give_old h1 (by decide) h2] at hk
    exact hi hk.symm
  have h2 : BD (w2.setCell ⟨bb, 4, none⟩ v1') base bb v0 v1 v2 v3 v1' (give w o 4) code origs dests loops (cases ++ [⟨n, outs⟩]) :=
    ⟨blk_put hb 4 _ rfl, h.hbb, Kd.R_set (Kd.R_over' h.hc (fun k hk => Kd.R_typed hl0 k hk) (by decide) hg) hb (fun q hq => ne53 hq) 4 _, Kd.R_set (Kd.R_grown (R_lt_mono h.ho (fun k hk hl => give_old hk (by decide) hl)) hg (key 1 (by decide))) hb (fun q hq => ne53a hq) 4 _, Kd.R_set (Kd.R_grown (R_lt_mono h.hd (fun k hk hl => give_old hk (by decide) hl)) hg (key 2 (by decide))) hb (fun q hq => ne53a hq) 4 _, Kd.S_set (Kd.S_grown (S_lt_mono h.hl (fun k hk hl => give_old hk (by decide) hl)) hg (key 3 (by decide))) hb (fun q hq => ne53b hq) 4 _, Kd.S_set hR2 hb (fun q hq => ne53b hq) 4 _⟩
  obtain ⟨A1, c1, rfl⟩ := Kd.S_slice hR2
  have hz : (cases ++ [(⟨n, outs⟩ : S59)]).length = cases.length + 1 := by simp
  rw [hz] at h2 ⊢
  exact k A1 c1 w2 h2 hB2 hb (fun g ob hgo h6 => blk_grown hgo hg (fun e => by have := hl0.1 g e.symm; omega))
end
end Go.Proofs.Ytmglkgjnhoojaaa.PCodeRows
