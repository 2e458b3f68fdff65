/- A parameter of []api.Token, opened: its tokens, and what the bound says of them. -/
import Derived.Test.YtnnhpbghimjhiaaRows
import Derived.Test.YtnnhpbghimjhiaaQScanTx0
import Derived.Deep.Slices
import Derived.Deep.Strs
import Derived.ChangeArms
import Derived.DataReads
namespace Go.Proofs.Ytnnhpbghimjhiaa
open Go.ChangeShapes Go.WideShapes Go.RowKit
open Go.Proofs.YtnnhpbghimjhiaaW.PrintWords Go.Proofs.YtnnhpbghimjhiaaW.PrintLast Go.Proofs.Ytnnhpbghimjhiaa.QScanT
set_option linter.unusedVariables false
theorem bulk_one {H : Type} (d : DataW H) : 1 ≤ Rows.uptoBulk d := by
  cases d with
  | lit l => cases l <;> simp [Rows.uptoBulk]
  | nil => simp [Rows.uptoBulk]
  | ptr d => simp [Rows.uptoBulk]
  | slice elems spare => simp [Rows.uptoBulk]
  | agg parts => simp [Rows.uptoBulk]
  | iface t d => simp [Rows.uptoBulk]
  | map entries => simp [Rows.uptoBulk]
  | held h => simp [Rows.uptoBulk]
theorem bulk_part {H : Type} {d : DataW H} {l : List (DataW H)} (h : d ∈ l) : Rows.uptoBulk d ≤ Rows.uptoBulkAll l := by
  induction l with
  | nil => cases h
  | cons x r ih =>
    simp only [Rows.uptoBulkAll]
    cases List.mem_cons.1 h with
    | inl e => subst e; omega
    | inr e => have := ih e; omega
theorem bulk_len {H : Type} (l : List (DataW H)) : l.length ≤ Rows.uptoBulkAll l := by
  induction l with
  | nil => simp [Rows.uptoBulkAll]
  | cons x r ih => have := bulk_one x; simp only [Rows.uptoBulkAll, List.length_cons]; omega
theorem u23 : Try.prog.underlying 23 = some (.slice 30) := by kernel_rfl
theorem u3 : Try.prog.underlying 3 = some (.int .i64) := by kernel_rfl
theorem u9 : Try.prog.underlying 9 = some .string := by kernel_rfl
theorem c30 : Try.prog.cellsOf 30 = 3 := by kernel_rfl
theorem c3 : Try.prog.cellsOf 3 = 1 := by kernel_rfl
theorem c9 : Try.prog.cellsOf 9 = 1 := by kernel_rfl
/-- One token's cells, read. -/
theorem one_tok {H : Type} {enc : TypeId × Value → H} {W : World} {sp : Nat → Bool} {hd : Bool} {n : Nat} {cs : List Value} {y : DataW H × List MemPlace} (hlen : cs.length = 3) (h : DataW.trod enc Try.prog W 0 sp hd n 30 cs = some y) :
    ∃ x : S30, cs = [.int .i64 x.f0, .string x.f1, .int .i64 x.f2] ∧ x.f1.size + 1 ≤ Rows.uptoBulk y.1 := by
  obtain ⟨y0, y1, y2, m, rfl, hl, h0, h1, h2⟩ := Go.Deep.trod_struct3 Try.underlying30 h
  rw [c3] at h0 h2
  rw [c9] at h1
  match cs, hlen with
  | [a, b, c], _ =>
    obtain ⟨n0, e0, _, _⟩ := DataW.trod_int u3 h0
    obtain ⟨s, e1, r1, _⟩ := DataW.trod_string u9 h1
    obtain ⟨n2, e2, _, _⟩ := DataW.trod_int u3 h2
    simp at e0 e1 e2
    refine ⟨⟨n0, s, n2⟩, by rw [e0, e1, e2], ?_⟩
    subst r1
    simp only [Rows.uptoBulk, Rows.uptoBulkAll]
    have : s.data.toList.length = s.size := by rw [Array.length_toList]; rfl
    omega
theorem toks_of {H : Type} {enc : TypeId × Value → H} {W : World} {sp : Nat → Bool} {hd : Bool} {n : Nat} (a : Addr) (D : Nat → DataW H) (Pl : Nat → List MemPlace) : ∀ m : Nat,
    (∀ i, i < m → ∃ cs', W.cells? 0 (a.add (i * 3)) 3 = some cs' ∧ DataW.trod enc Try.prog W 0 sp hd n 30 cs' = some (D i, Pl i)) →
    ∃ l : List S30, l.length = m ∧ (∀ j p, l[j]? = some p → p.f1.size + 1 ≤ Rows.uptoBulk (D j) ∧ ∃ c, c.length = 3 ∧ k30.K W p c ∧ ∀ i u, c[i]? = some u → W.cell? (a.add (j * 3 + i)) = some u)
  | 0, _ => ⟨[], rfl, fun j p h => by simp at h⟩
  | m + 1, hx => by
    obtain ⟨l, hl, hc⟩ := toks_of a D Pl m (fun i hi => hx i (by omega))
    obtain ⟨cs, h1, h2⟩ := hx m (by omega)
    obtain ⟨_, hlen, hcell⟩ := World.cells?_some h1
    obtain ⟨x, e, hb⟩ := one_tok hlen h2
    refine ⟨l ++ [x], by simp [hl], fun j p hj => ?_⟩
    by_cases hjm : j < m
    · rw [List.getElem?_append_left (by omega)] at hj
      exact hc j p hj
    · have hj0 : j < (l ++ [x]).length := by
        by_cases h : j < (l ++ [x]).length
        · exact h
        · rw [List.getElem?_eq_none (by omega)] at hj; cases hj
      have hjm' : j = m := by simp [hl] at hj0; omega
      subst hjm'
      rw [List.getElem?_append_right (by omega), hl, Nat.sub_self] at hj
      simp at hj
      subst hj
      refine ⟨hb, cs, hlen, by rw [e]; exact k30_mk W x, fun i u hu => ?_⟩
      have hi : i < 3 := by
        by_cases h : i < 3
        · exact h
        · rw [List.getElem?_eq_none (by omega)] at hu; cases hu
      have := hcell i hi
      rw [hu] at this
      rw [← Addr.add_add]
      exact this
/-- THE PARAMETER, OPENED. -/
theorem open_toks {H : Type} {enc : TypeId × Value → H} {W : World} {sp : Nat → Bool} {hd : Bool} {v : Value} {d : DataW H} {p : List MemPlace} (hv : ∃ a n c, v = .slice a n c) (h : DataW.Trod enc Try.prog W 0 sp hd 23 v d p) :
    ∃ (A : Option Addr) (c : Nat) (l : List S30), v = .slice A l.length c ∧ Kd.C k30 W A l.length l ∧ l.length ≤ c ∧ l.length + 1 ≤ Rows.uptoBulk d ∧ ∀ x ∈ l, x.f1.size + 1 ≤ Rows.uptoBulk d := by
  obtain ⟨fuel, hf⟩ := h
  obtain ⟨va, vn, vc, rfl⟩ := hv
  rcases Go.Deep.open_slice u23 hf with ⟨hcs, hx⟩ | ⟨a, len, cap, m, n, D, Pl, hcs, _, hl, hm, hmm, hx, hall⟩
  · simp [Value.cells] at hcs
    obtain ⟨rfl, rfl, rfl⟩ := hcs
    simp only [Prod.mk.injEq] at hx
    rw [hx.1]
    exact ⟨none, 0, [], rfl, ⟨rfl, by simp, fun h => by simp at h⟩, Nat.le_refl _, by simp [Rows.uptoBulk], fun x hx => by cases hx⟩
  · simp [Value.cells] at hcs
    obtain ⟨rfl, h2, h3⟩ := hcs
    obtain rfl : vn = len := h2
    obtain rfl : vc = cap := h3
    rw [c30] at hall
    have hle : vn ≤ m := by rw [hmm]; split <;> omega
    obtain ⟨l, hln, hc⟩ := toks_of a D Pl vn (fun i hi => hall i (by omega))
    simp only [Prod.mk.injEq] at hx
    have hd : d = .slice ((List.range vn).map D) ((List.range (m - vn)).map fun j => D (vn + j)) := hx.1
    have hbl : vn + 1 ≤ Rows.uptoBulk d := by
      have := bulk_len ((List.range vn).map D)
      simp at this
      rw [hd]
      simp only [Rows.uptoBulk]
      omega
    refine ⟨some a, vc, l, by rw [hln], ⟨rfl, Nat.le_trans (hln ▸ hl) (Nat.le_trans hm (by decide)), fun _ => ⟨a, rfl, fun j p hj => (hc j p hj).2⟩⟩, by omega, by omega, fun x hx => ?_⟩
    obtain ⟨j, hj⟩ := List.mem_iff_getElem?.1 hx
    have h1 := (hc j x hj).1
    have hjl : j < vn := by
      by_cases h : j < l.length
      · omega
      · rw [List.getElem?_eq_none (by omega)] at hj; cases hj
    have h2 : Rows.uptoBulk (D j) ≤ Rows.uptoBulkAll ((List.range vn).map D) := bulk_part (List.mem_map.2 ⟨j, List.mem_range.2 hjl, rfl⟩)
    rw [hd]
    simp only [Rows.uptoBulk]
    omega
end Go.Proofs.Ytnnhpbghimjhiaa
