/- A builder in memory: its box, and its five rows, each block of which belongs to one row. -/
import Derived.Test.YtmglkgjnhoojaaaLast
import Derived.Test.YtmglkgjnhoojaaaLastO
import Derived.Test.YtmglkgjnhoojaaaAim
namespace Go.Proofs.Ytmglkgjnhoojaaa.PCodeRows
open Go.RowKit Go.Proofs.YtmglkgjnhoojaaaW.PrintWords Go.Proofs.YtmglkgjnhoojaaaW.PrintLast Go.Proofs.YtmglkgjnhoojaaaW.PrintMore
set_option linter.unusedVariables false
set_option linter.unusedSimpArgs false
section
variable {α : Type} {d : Kd α} {e base : Nat} {w w1 : World} {ok ok' : Nat → Prop} {v : Value} {xs : List α} {N : Nat → Prop}
theorem R_kept (h : d.R e w base ok v xs) (hK : Kept w w1 N) (hN : ∀ k q cells, ok k → q ∈ e :: d.E → w.heap[k]? = some (.cells cells q (0, 0)) → ¬ N k) : d.R e w1 base ok v xs :=
  Kd.R_mono (Kd.R_move (Kd.R_bound h) (fun k hk => hK.2 k hk.2.2.1 (by obtain ⟨q, hq, cells, hc⟩ := hk.2.2.2; exact hN k q cells hk.1 hq hc))) (fun _ hk => hk.1)
theorem S_kept (h : Kd.S d e w base ok v xs) (hK : Kept w w1 N) (hN : ∀ k q cells, ok k → q ∈ e :: d.E → w.heap[k]? = some (.cells cells q (0, 0)) → ¬ N k) : Kd.S d e w1 base ok v xs :=
  Kd.S_mono (Kd.S_move (Kd.S_bound h) (fun k hk => hK.2 k hk.2.2.1 (by obtain ⟨q, hq, cells, hc⟩ := hk.2.2.2; exact hN k q cells hk.1 hq hc))) (fun _ hk => hk.1)
theorem R_lt_mono (h : d.R e w base ok v xs) (hok : ∀ k, ok k → k < w.heap.size → ok' k) : d.R e w base ok' v xs := Kd.R_mono (Kd.R_bound h) (fun k hk => hok k hk.1 hk.2.2.1)
theorem S_lt_mono (h : Kd.S d e w base ok v xs) (hok : ∀ k, ok k → k < w.heap.size → ok' k) : Kd.S d e w base ok' v xs := Kd.S_mono (Kd.S_bound h) (fun k hk => hok k hk.1 hk.2.2.1)
/-- The last element taken off: its cells, its blocks (okx), and the rest, without them. -/
theorem S_last {ad : Addr} {n c : Nat} {x z : α} (h : Kd.S d e w base ok (.slice (some ad) (n + 1) c) (xs ++ [x])) (hn : xs.length = n) :
    ∃ okx cs, Kd.S d e w base (fun k => ok k ∧ ¬ okx k) (.slice (some ad) n c) xs ∧ d.M w base okx x cs ∧ (∀ k, okx k → ok k) ∧ cs.length = d.sz ∧ ∀ j u, cs[j]? = some u → w.cell? (ad.add (n * d.sz + j)) = some u := by
  subst hn
  obtain ⟨f, hf⟩ := h
  obtain ⟨cs, hcl, hM, hcc⟩ := Kd.R_getA hf (z, 0) (xs.length : Int) (by omega) (by omega)
  have hg : (xs ++ [x]).zipIdx.getD ((xs.length : Int)).toNat (z, 0) = (x, xs.length) := by
    rw [Int.toNat_natCast, List.getD_eq_getElem?_getD, Kd.zip_at (by simp : (xs ++ [x])[xs.length]? = some x)]
    rfl
  rw [hg] at hM
  rw [Int.toNat_natCast] at hcc
  refine ⟨fun k => (ok k ∧ some k ≠ (Value.slice (some ad) (xs.length + 1) c).ownBlock) ∧ f k = xs.length, cs, ?_, hM, fun k hk => hk.1.1, hcl, hcc⟩
  have ht := Kd.R_take hf (m := xs.length) (by simp)
  have hz : (xs ++ [x]).zipIdx.take xs.length = xs.zipIdx := by
    apply List.ext_getElem?
    intro j
    rw [List.getElem?_take]
    by_cases hj : j < xs.length
    · rw [if_pos hj, List.getElem?_zipIdx, List.getElem?_zipIdx, List.getElem?_append_left hj]
    · rw [if_neg hj, List.getElem?_eq_none (by simp; omega)]
  rw [hz] at ht
  have hob : (Value.slice (some ad) (xs.length + 1) c).ownBlock = (Value.slice (some ad) xs.length c).ownBlock := by
    obtain ⟨g, rfl⟩ := Kd.R_head hf
    rfl
  obtain ⟨h0, inner, ho, hr⟩ := ht
  refine ⟨f, fun k hk => ⟨h0 k hk, fun hx => hx.1.2 (by rw [hob, hk])⟩, inner, ho, hr.1, fun j p hj => ?_⟩
  have hp := hr.2 j p hj
  rw [List.getElem?_zipIdx, Nat.zero_add] at hj
  obtain ⟨y, hy, rfl⟩ := Option.map_eq_some_iff.1 hj
  have hjl : j < xs.length := by
    by_cases hjl : j < xs.length
    · exact hjl
    · rw [List.getElem?_eq_none (by omega)] at hy; cases hy
  exact d.M_mono (fun k hk => ⟨⟨⟨hk.1.1, fun hx => by have h1 := hk.2; have h2 := hx.2; simp only at h1; omega⟩, hk.1.2⟩, hk.2⟩) hp
end
theorem E3 : (Kd.int .i64).E = [] := rfl
theorem E59 : k59.E = [3] := rfl
theorem q3 {q : Nat} (h : q ∈ 3 :: (Kd.int .i64).E) : q = 3 ∨ q = 59 := by rw [E3] at h; simp at h; exact .inl h
theorem q59 {q : Nat} (h : q ∈ 59 :: k59.E) : q = 3 ∨ q = 59 := by rw [E59] at h; simp at h; exact h.symm
/-- A builder: 'o' tells whose a block is: 1 the origs', 2 the dests', 3 the loops', 4 the cases'. -/
structure BD (w : World) (base bb : Nat) (v0 v1 v2 v3 v4 : Value) (o : Nat → Nat) (code : List S37) (origs dests : List Int) (loops cases : List S59) : Prop where
  box : w.heap[bb]? = some (.cells #[v0, v1, v2, v3, v4] 53 (0, 0))
  hbb : base ≤ bb
  hc : Kd.R k37 37 w base (fun _ => True) v0 code
  ho : Kd.R (Kd.int .i64) 3 w base (fun k => o k = 1) v1 origs
  hd : Kd.R (Kd.int .i64) 3 w base (fun k => o k = 2) v2 dests
  hl : Kd.S k59 59 w base (fun k => o k = 3) v3 loops
  hs : Kd.S k59 59 w base (fun k => o k = 4) v4 cases
section
variable {w w1 : World} {base bb : Nat} {v0 v1 v2 v3 v4 v' : Value} {o : Nat → Nat} {code code' : List S37} {origs dests xs : List Int} {loops cases ls : List S59}
theorem BD.away (h : BD w base bb v0 v1 v2 v3 v4 o code origs dests loops cases) {k q : Nat} {cells : Array Value} (hq : q = 3 ∨ q = 59) (hk : w.heap[k]? = some (.cells cells q (0, 0))) : ¬ (k = bb ∨ some k = v0.ownBlock) := by
  rintro (rfl | hk2)
  · have := h.box.symm.trans hk
    injection this with this
    injection this with _ h3
    rcases hq with rfl | rfl <;> exact absurd h3 (by decide)
  · obtain ⟨c2, h2⟩ := Kd.R_typed h.hc k hk2.symm
    have := h2.symm.trans hk
    injection this with this
    injection this with _ h3
    rcases hq with rfl | rfl <;> exact absurd h3 (by decide)
/-- Behind what was done to the code's row. -/
theorem BD.coded (h : BD w base bb v0 v1 v2 v3 v4 o code origs dests loops cases) (hK : Kept w w1 (fun k => k = bb ∨ some k = v0.ownBlock)) (hb : w1.heap[bb]? = some (.cells #[v', v1, v2, v3, v4] 53 (0, 0))) (hR : Kd.R k37 37 w1 base (fun _ => True) v' code') :
    BD w1 base bb v' v1 v2 v3 v4 o code' origs dests loops cases :=
  ⟨hb, h.hbb, hR, R_kept h.ho hK (fun k q cells _ hq hc => h.away (q3 hq) hc), R_kept h.hd hK (fun k q cells _ hq hc => h.away (q3 hq) hc), S_kept h.hl hK (fun k q cells _ hq hc => h.away (q59 hq) hc), S_kept h.hs hK (fun k q cells _ hq hc => h.away (q59 hq) hc)⟩
theorem BD.below (h : BD w base bb v0 v1 v2 v3 v4 o code origs dests loops cases) (hb : Below w.heap.size w w1) : BD w1 base bb v0 v1 v2 v3 v4 o code origs dests loops cases :=
  ⟨blk_below h.box hb, h.hbb, Kd.R_below h.hc hb, Kd.R_below h.ho hb, Kd.R_below h.hd hb, Kd.S_below h.hl hb, Kd.S_below h.hs hb⟩
theorem BD.lt (h : BD w base bb v0 v1 v2 v3 v4 o code origs dests loops cases) : bb < w.heap.size := blk_lt h.box
/-- A cell of the box is set: the rows stand as they were. -/
theorem ne53 {q : Nat} (h : q ∈ 37 :: k37.E) : q ≠ 53 := by
  have : k37.E = [] := rfl
  rw [this] at h; simp at h; omega
theorem ne53a {q : Nat} (h : q ∈ 3 :: (Kd.int .i64).E) : q ≠ 53 := by have := q3 h; omega
theorem ne53b {q : Nat} (h : q ∈ 59 :: k59.E) : q ≠ 53 := by have := q59 h; omega
def new_ (w : World) (o : Nat → Nat) (i k : Nat) : Nat := if k < w.heap.size then o k else i
theorem new_old {i j k : Nat} (h : o k = j) (hk : k < w.heap.size) : new_ w o i k = j := by unfold new_; rw [if_pos hk]; exact h
theorem new_new {i k : Nat} (hk : w.heap.size ≤ k) : new_ w o i k = i := by unfold new_; rw [if_neg (by omega)]
/-- An append to the origs, and its store. -/
theorem BD.app1 (h : BD w base bb v0 v1 v2 v3 v4 o code origs dests loops cases) (hR : Kd.R (Kd.int .i64) 3 w1 base (fun k => new_ w o 1 k = 1) v' xs) (hg : w.grownBy w1 v1.ownBlock) :
    BD (w1.setCell ⟨bb, 1, none⟩ v') base bb v0 v' v2 v3 v4 (new_ w o 1) code xs dests loops cases := by
  have hne := Kd.R_ne h.ho h.box (by decide)
  have hb := blk_grown h.box hg hne
  have hc37 : Kd.R k37 37 w1 base (fun _ => True) v0 code := Kd.R_over' h.hc (fun k hk => Kd.R_typed h.ho k hk) (by decide) hg
  refine ⟨blk_put hb 1 _ rfl, h.hbb, Kd.R_set hc37 hb (fun q hq => ne53 hq) 1 _, Kd.R_set hR hb (fun q hq => ne53a hq) 1 _, Kd.R_set (Kd.R_grown (ok := fun k => new_ w o 1 k = 2) ?_ hg ?_) hb (fun q hq => ne53a hq) 1 _, Kd.S_set (Kd.S_grown (ok := fun k => new_ w o 1 k = 3) ?_ hg ?_) hb (fun q hq => ne53b hq) 1 _, Kd.S_set (Kd.S_grown (ok := fun k => new_ w o 1 k = 4) ?_ hg ?_) hb (fun q hq => ne53b hq) 1 _⟩
  · exact R_lt_mono h.hd (fun k hk hl => new_old hk hl)
  · intro k hk he
    have h1 := h.ho.1 k he.symm
    have h2 := Kd.R_lt h.ho k he.symm
    rw [new_old h1 h2] at hk
    cases hk
  · exact S_lt_mono h.hl (fun k hk hl => new_old hk hl)
  · intro k hk he
    have h1 := h.ho.1 k he.symm
    have h2 := Kd.R_lt h.ho k he.symm
    rw [new_old h1 h2] at hk
    cases hk
  · exact S_lt_mono h.hs (fun k hk hl => new_old hk hl)
  · intro k hk he
    have h1 := h.ho.1 k he.symm
    have h2 := Kd.R_lt h.ho k he.symm
    rw [new_old h1 h2] at hk
    cases hk
theorem BD.app2 (h : BD w base bb v0 v1 v2 v3 v4 o code origs dests loops cases) (hR : Kd.R (Kd.int .i64) 3 w1 base (fun k => new_ w o 2 k = 2) v' xs) (hg : w.grownBy w1 v2.ownBlock) :
    BD (w1.setCell ⟨bb, 2, none⟩ v') base bb v0 v1 v' v3 v4 (new_ w o 2) code origs xs loops cases := by
  have hne := Kd.R_ne h.hd h.box (by decide)
  have hb := blk_grown h.box hg hne
  have hc37 : Kd.R k37 37 w1 base (fun _ => True) v0 code := Kd.R_over' h.hc (fun k hk => Kd.R_typed h.hd k hk) (by decide) hg
  refine ⟨blk_put hb 2 _ rfl, h.hbb, Kd.R_set hc37 hb (fun q hq => ne53 hq) 2 _, Kd.R_set (Kd.R_grown (ok := fun k => new_ w o 2 k = 1) ?_ hg ?_) hb (fun q hq => ne53a hq) 2 _, Kd.R_set hR hb (fun q hq => ne53a hq) 2 _, Kd.S_set (Kd.S_grown (ok := fun k => new_ w o 2 k = 3) ?_ hg ?_) hb (fun q hq => ne53b hq) 2 _, Kd.S_set (Kd.S_grown (ok := fun k => new_ w o 2 k = 4) ?_ hg ?_) hb (fun q hq => ne53b hq) 2 _⟩
  · exact R_lt_mono h.ho (fun k hk hl => new_old hk hl)
  · intro k hk he
    have h1 := h.hd.1 k he.symm
    have h2 := Kd.R_lt h.hd k he.symm
    rw [new_old h1 h2] at hk
    cases hk
  · exact S_lt_mono h.hl (fun k hk hl => new_old hk hl)
  · intro k hk he
    have h1 := h.hd.1 k he.symm
    have h2 := Kd.R_lt h.hd k he.symm
    rw [new_old h1 h2] at hk
    cases hk
  · exact S_lt_mono h.hs (fun k hk hl => new_old hk hl)
  · intro k hk he
    have h1 := h.hd.1 k he.symm
    have h2 := Kd.R_lt h.hd k he.symm
    rw [new_old h1 h2] at hk
    cases hk
theorem BD.app3 (h : BD w base bb v0 v1 v2 v3 v4 o code origs dests loops cases) (hR : Kd.S k59 59 w1 base (fun k => new_ w o 3 k = 3) v' ls) (hg : w.grownBy w1 v3.ownBlock) :
    BD (w1.setCell ⟨bb, 3, none⟩ v') base bb v0 v1 v2 v' v4 (new_ w o 3) code origs dests ls cases := by
  have hl0 := Kd.S_R h.hl
  have hne := Kd.R_ne hl0 h.box (by decide)
  have hb := blk_grown h.box hg hne
  have hc37 : Kd.R k37 37 w1 base (fun _ => True) v0 code := Kd.R_over' h.hc (fun k hk => Kd.R_typed hl0 k hk) (by decide) hg
  refine ⟨blk_put hb 3 _ rfl, h.hbb, Kd.R_set hc37 hb (fun q hq => ne53 hq) 3 _, Kd.R_set (Kd.R_grown (ok := fun k => new_ w o 3 k = 1) ?_ hg ?_) hb (fun q hq => ne53a hq) 3 _, Kd.R_set (Kd.R_grown (ok := fun k => new_ w o 3 k = 2) ?_ hg ?_) hb (fun q hq => ne53a hq) 3 _, Kd.S_set hR hb (fun q hq => ne53b hq) 3 _, Kd.S_set (Kd.S_grown (ok := fun k => new_ w o 3 k = 4) ?_ hg ?_) hb (fun q hq => ne53b hq) 3 _⟩
  · exact R_lt_mono h.ho (fun k hk hl => new_old hk hl)
  · intro k hk he
    have h1 := hl0.1 k he.symm
    have h2 := Kd.R_lt hl0 k he.symm
    rw [new_old h1 h2] at hk
    cases hk
  · exact R_lt_mono h.hd (fun k hk hl => new_old hk hl)
  · intro k hk he
    have h1 := hl0.1 k he.symm
    have h2 := Kd.R_lt hl0 k he.symm
    rw [new_old h1 h2] at hk
    cases hk
  · exact S_lt_mono h.hs (fun k hk hl => new_old hk hl)
  · intro k hk he
    have h1 := hl0.1 k he.symm
    have h2 := Kd.R_lt hl0 k he.symm
    rw [new_old h1 h2] at hk
    cases hk
theorem BD.app4 (h : BD w base bb v0 v1 v2 v3 v4 o code origs dests loops cases) (hR : Kd.S k59 59 w1 base (fun k => new_ w o 4 k = 4) v' ls) (hg : w.grownBy w1 v4.ownBlock) :
    BD (w1.setCell ⟨bb, 4, none⟩ v') base bb v0 v1 v2 v3 v' (new_ w o 4) code origs dests loops ls := by
  have hl0 := Kd.S_R h.hs
  have hne := Kd.R_ne hl0 h.box (by decide)
  have hb := blk_grown h.box hg hne
  have hc37 : Kd.R k37 37 w1 base (fun _ => True) v0 code := Kd.R_over' h.hc (fun k hk => Kd.R_typed hl0 k hk) (by decide) hg
  refine ⟨blk_put hb 4 _ rfl, h.hbb, Kd.R_set hc37 hb (fun q hq => ne53 hq) 4 _, Kd.R_set (Kd.R_grown (ok := fun k => new_ w o 4 k = 1) ?_ hg ?_) hb (fun q hq => ne53a hq) 4 _, Kd.R_set (Kd.R_grown (ok := fun k => new_ w o 4 k = 2) ?_ hg ?_) hb (fun q hq => ne53a hq) 4 _, Kd.S_set (Kd.S_grown (ok := fun k => new_ w o 4 k = 3) ?_ hg ?_) hb (fun q hq => ne53b hq) 4 _, Kd.S_set hR hb (fun q hq => ne53b hq) 4 _⟩
  · exact R_lt_mono h.ho (fun k hk hl => new_old hk hl)
  · intro k hk he
    have h1 := hl0.1 k he.symm
    have h2 := Kd.R_lt hl0 k he.symm
    rw [new_old h1 h2] at hk
    cases hk
  · exact R_lt_mono h.hd (fun k hk hl => new_old hk hl)
  · intro k hk he
    have h1 := hl0.1 k he.symm
    have h2 := Kd.R_lt hl0 k he.symm
    rw [new_old h1 h2] at hk
    cases hk
  · exact S_lt_mono h.hl (fun k hk hl => new_old hk hl)
  · intro k hk he
    have h1 := hl0.1 k he.symm
    have h2 := Kd.R_lt hl0 k he.symm
    rw [new_old h1 h2] at hk
    cases hk
/-- A number taken off the origs, the dests. -/
theorem BD.pop1 {A : Option Addr} {n c : Nat} {x : Int} (h : BD w base bb v0 (.slice A (n + 1) c) v2 v3 v4 o code (xs ++ [x]) dests loops cases) (m : Nat) :
    BD ((w.drewN m).setCell ⟨bb, 1, none⟩ (.slice A n c)) base bb v0 (.slice A n c) v2 v3 v4 o code xs dests loops cases := by
  have hn : n = xs.length := by have := (Kd.R_reads' h.ho).1; simpa using this
  have ht : Kd.R (Kd.int .i64) 3 w base (fun k => o k = 1) (.slice A n c) xs := by
    have := Kd.R_take h.ho (m := n) (by simp [hn])
    rwa [hn, List.take_left, ← hn] at this
  have hb : (w.drewN m).heap[bb]? = some (.cells #[v0, .slice A (n + 1) c, v2, v3, v4] 53 (0, 0)) := h.box
  exact ⟨blk_put hb 1 _ rfl, h.hbb, Kd.R_set (Kd.R_drewN h.hc m) hb (fun q hq => ne53 hq) 1 _, Kd.R_set (Kd.R_drewN ht m) hb (fun q hq => ne53a hq) 1 _, Kd.R_set (Kd.R_drewN h.hd m) hb (fun q hq => ne53a hq) 1 _, Kd.S_set (Kd.S_drewN h.hl m) hb (fun q hq => ne53b hq) 1 _, Kd.S_set (Kd.S_drewN h.hs m) hb (fun q hq => ne53b hq) 1 _⟩
theorem BD.pop2 {A : Option Addr} {n c : Nat} {x : Int} (h : BD w base bb v0 v1 (.slice A (n + 1) c) v3 v4 o code origs (xs ++ [x]) loops cases) (m : Nat) :
    BD ((w.drewN m).setCell ⟨bb, 2, none⟩ (.slice A n c)) base bb v0 v1 (.slice A n c) v3 v4 o code origs xs loops cases := by
  have hn : n = xs.length := by have := (Kd.R_reads' h.hd).1; simpa using this
  have ht : Kd.R (Kd.int .i64) 3 w base (fun k => o k = 2) (.slice A n c) xs := by
    have := Kd.R_take h.hd (m := n) (by simp [hn])
    rwa [hn, List.take_left, ← hn] at this
  have hb : (w.drewN m).heap[bb]? = some (.cells #[v0, v1, .slice A (n + 1) c, v3, v4] 53 (0, 0)) := h.box
  exact ⟨blk_put hb 2 _ rfl, h.hbb, Kd.R_set (Kd.R_drewN h.hc m) hb (fun q hq => ne53 hq) 2 _, Kd.R_set (Kd.R_drewN h.ho m) hb (fun q hq => ne53a hq) 2 _, Kd.R_set (Kd.R_drewN ht m) hb (fun q hq => ne53a hq) 2 _, Kd.S_set (Kd.S_drewN h.hl m) hb (fun q hq => ne53b hq) 2 _, Kd.S_set (Kd.S_drewN h.hs m) hb (fun q hq => ne53b hq) 2 _⟩
end
end Go.Proofs.Ytmglkgjnhoojaaa.PCodeRows
