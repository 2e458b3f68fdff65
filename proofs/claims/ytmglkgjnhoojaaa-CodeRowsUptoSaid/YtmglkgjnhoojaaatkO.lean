/- Parameters of this layer, opened: a row of deeds, a draft, an instruction; and what the bound says of them. -/
import Derived.Test.YtmglkgjnhoojaaaRows
import Derived.Test.YtmglkgjnhoojaaatkF
import Derived.Deep.Slices
import Derived.Deep.Strs
import Derived.ChangeArms
import Derived.DataReads
namespace Go.Proofs.Ytmglkgjnhoojaaa.PCodeRows
open Go.ChangeShapes Go.WideShapes Go.RowKit
open Go.Proofs.YtmglkgjnhoojaaaW.PrintWords Go.Proofs.YtmglkgjnhoojaaaW.PrintLast
set_option linter.unusedVariables false
theorem bulk_one {H : Type} (d : DataW H) : 1 ≤ Rows.uptoBulk d := by
  cases d with
  | lit l => cases l <;> simp [Rows.uptoBulk]
  | nil => simp [Rows.uptoBulk]
  | ptr d => simp [Rows.uptoBulk]
  | slice elems spare => simp [Rows.uptoBulk]
  | agg parts => simp [Rows.uptoBulk]
  | iface t d => simp [Rows.uptoBulk]
  | map entries => simp [Rows.uptoBulk]
  | held h => simp [Rows.uptoBulk]
theorem bulk_part {H : Type} {d : DataW H} {l : List (DataW H)} (h : d ∈ l) : Rows.uptoBulk d ≤ Rows.uptoBulkAll l := by
  induction l with
  | nil => cases h
  | cons x r ih =>
    simp only [Rows.uptoBulkAll]
    cases List.mem_cons.1 h with
    | inl e => subst e; omega
    | inr e => have := ih e; omega
theorem bulk_len {H : Type} (l : List (DataW H)) : l.length ≤ Rows.uptoBulkAll l := by
  induction l with
  | nil => simp [Rows.uptoBulkAll]
  | cons x r ih => have := bulk_one x; simp only [Rows.uptoBulkAll, List.length_cons]; omega
/-- What a reading of type t finds in its cells. -/
def Rd {α : Type} (t : TypeId) (d : Kd α) (g : α → Nat → Prop) : Prop :=
  ∀ (H : Type) (enc : TypeId × Value → H) (W : World) (sp : Nat → Bool) (hd : Bool) (n : Nat) (cs : List Value) (y : DataW H × List MemPlace), DataW.trod enc Try.prog W 0 sp hd n t cs = some y → ∃ x, d.K W x cs ∧ g x (Rows.uptoBulk y.1)
theorem rd_i64 : Rd 3 (Kd.int .i64) (fun _ _ => True) := by
  intro H enc W sp hd n cs y h
  obtain ⟨n, rfl, _, _⟩ := DataW.trod_int (k := .i64) (by kernel_rfl) h
  exact ⟨n, rfl, trivial⟩
theorem rd_u32 : Rd 35 (Kd.int .u32) (fun x _ => 0 ≤ x ∧ x < 4294967296) := by
  intro H enc W sp hd n cs y h
  obtain ⟨n, rfl, _, hw⟩ := DataW.trod_int (k := .u32) (by kernel_rfl) h
  refine ⟨n, rfl, ?_⟩
  simp only [Lit.wf, Bool.and_eq_true, decide_eq_true_eq] at hw
  have e1 : IntKind.min .u32 = 0 := by decide
  have e2 : IntKind.max .u32 = 4294967295 := by decide
  rw [e1, e2] at hw
  omega
theorem rd_iso {α β : Type} {t : TypeId} {d : Kd α} {g : α → Nat → Prop} (h : Rd t d g) (f : β → α) (inv : α → β) (hf : ∀ a, f (inv a) = a) : Rd t (Kd.iso d f) (fun x b => g (f x) b) := by
  intro H enc W sp hd n cs y hy
  obtain ⟨x, hK, hg⟩ := h H enc W sp hd n cs y hy
  refine ⟨inv x, ?_, by show g (f (inv x)) _; rw [hf]; exact hg⟩
  show d.K W (f (inv x)) cs
  rw [hf]
  exact hK
theorem rd_struct2 {α β : Type} {t : TypeId} {f0 f1 : Field} {d0 : Kd α} {d1 : Kd β} {g0 : α → Nat → Prop} {g1 : β → Nat → Prop} (ht : Try.prog.underlying t = some (.struct #[f0, f1])) (h0 : Rd f0.type d0 g0) (h1 : Rd f1.type d1 g1)
    (m0 : ∀ x b b', b ≤ b' → g0 x b → g0 x b') (m1 : ∀ x b b', b ≤ b' → g1 x b → g1 x b') (o0 : f0.offset = 0) (o1 : f1.offset = d0.sz) (c0 : Try.prog.cellsOf f0.type = d0.sz) (c1 : Try.prog.cellsOf f1.type = d1.sz) (ct : Try.prog.cellsOf t = d0.sz + d1.sz) :
    Rd t (Kd.pair d0 d1) (fun x b => g0 x.1 b ∧ g1 x.2 b) := by
  intro H enc W sp hd n cs y hy
  obtain ⟨y0, y1, m, rfl, hl, q0, q1⟩ := trod_struct2 ht hy
  obtain ⟨x0, k0, b0⟩ := h0 H enc W sp hd m _ _ q0
  obtain ⟨x1, k1, b1⟩ := h1 H enc W sp hd m _ _ q1
  rw [o0, c0, List.drop_zero] at k0
  rw [o1, c1] at k1
  refine ⟨(x0, x1), ⟨_, _, ?_, k0, k1⟩, m0 _ _ _ ?_ b0, m1 _ _ _ ?_ b1⟩
  · rw [List.take_of_length_le (l := cs.drop d0.sz) (by rw [List.length_drop, hl, ct]; omega)]
    exact (List.take_append_drop _ _).symm
  · simp only [Rows.uptoBulk, Rows.uptoBulkAll]; omega
  · simp only [Rows.uptoBulk, Rows.uptoBulkAll]; omega
theorem row_of {α : Type} {H : Type} {enc : TypeId × Value → H} {W : World} {sp : Nat → Bool} {hd : Bool} {n : Nat} {e : TypeId} {d : Kd α} {g : α → Nat → Prop} (he : Rd e d g) (a : Addr) (D : Nat → DataW H) (Pl : Nat → List MemPlace) : ∀ m : Nat,
    (∀ i, i < m → ∃ cs', W.cells? 0 (a.add (i * d.sz)) d.sz = some cs' ∧ DataW.trod enc Try.prog W 0 sp hd n e cs' = some (D i, Pl i)) →
    ∃ l : List α, l.length = m ∧ (∀ j p, l[j]? = some p → g p (Rows.uptoBulk (D j)) ∧ ∃ c, c.length = d.sz ∧ d.K W p c ∧ ∀ i u, c[i]? = some u → W.cell? (a.add (j * d.sz + i)) = some u)
  | 0, _ => ⟨[], rfl, fun j p h => by simp at h⟩
  | m + 1, hx => by
    obtain ⟨l, hl, hc⟩ := row_of he a D Pl m (fun i hi => hx i (by omega))
    obtain ⟨cs, h1, h2⟩ := hx m (by omega)
    obtain ⟨_, hlen, hcell⟩ := World.cells?_some h1
    obtain ⟨x, hK, hb⟩ := he H enc W sp hd n _ _ h2
    refine ⟨l ++ [x], by simp [hl], fun j p hj => ?_⟩
    by_cases hjm : j < m
    · rw [List.getElem?_append_left (by omega)] at hj
      exact hc j p hj
    · have hj0 : j < (l ++ [x]).length := by
        by_cases h : j < (l ++ [x]).length
        · exact h
        · rw [List.getElem?_eq_none (by omega)] at hj; cases hj
      have hjm' : j = m := by simp [hl] at hj0; omega
      subst hjm'
      rw [List.getElem?_append_right (by omega), hl, Nat.sub_self] at hj
      simp at hj
      subst hj
      refine ⟨hb, cs, hlen, hK, fun i u hu => ?_⟩
      have hi : i < d.sz := by
        by_cases h : i < d.sz
        · exact h
        · rw [List.getElem?_eq_none (by omega)] at hu; cases hu
      have := hcell i hi
      rw [hu] at this
      rw [← Addr.add_add]
      exact this
theorem rd_slice {α : Type} {t e : TypeId} {d : Kd α} {g : α → Nat → Prop} (ht : Try.prog.underlying t = some (.slice e)) (he : Rd e d g) (ce : Try.prog.cellsOf e = d.sz) (mg : ∀ x b b', b ≤ b' → g x b → g x b') :
    Rd t (Kd.slice e d) (fun l b => l.length + 1 ≤ b ∧ ∀ x ∈ l, g x b) := by
  intro H enc W sp hd n cs y hy
  rcases Go.Deep.open_slice ht hy with ⟨rfl, rfl⟩ | ⟨a, len, cap, m, n', D, Pl, rfl, _, hl, hm, hmm, rfl, hall⟩
  · exact ⟨[], ⟨none, 0, rfl, Nat.le_refl _, rfl, by simp, fun h => by simp at h⟩, by simp [Rows.uptoBulk], fun x hx => by cases hx⟩
  · rw [ce] at hall
    have hle : len ≤ m := by rw [hmm]; split <;> omega
    obtain ⟨l, hln, hc⟩ := row_of he a D Pl len (fun i hi => hall i (by omega))
    have hbl : len + 1 ≤ Rows.uptoBulk (DataW.slice ((List.range len).map D) ((List.range (m - len)).map fun j => D (len + j))) := by
      have := bulk_len ((List.range len).map D)
      simp at this
      simp only [Rows.uptoBulk]
      omega
    refine ⟨l, ⟨some a, cap, by rw [hln], by omega, rfl, Nat.le_trans (hln ▸ hl) (Nat.le_trans hm (by decide)), fun _ => ⟨a, rfl, fun j p hj => (hc j p hj).2⟩⟩, by rw [hln]; exact hbl, fun x hx => ?_⟩
    obtain ⟨j, hj⟩ := List.mem_iff_getElem?.1 hx
    have h1 := (hc j x hj).1
    have hjl : j < len := by
      by_cases h : j < l.length
      · omega
      · rw [List.getElem?_eq_none (by omega)] at hj; cases hj
    have h2 : Rows.uptoBulk (D j) ≤ Rows.uptoBulkAll ((List.range len).map D) := bulk_part (List.mem_map.2 ⟨j, List.mem_range.2 hjl, rfl⟩)
    refine mg _ _ _ ?_ h1
    simp only [Rows.uptoBulk]
    omega
def u32R (x : S37) : Prop := 0 ≤ x.f1 ∧ x.f1 < 4294967296
theorem rd37 : Rd 37 k37 (fun x _ => u32R x) := by
  have h := rd_iso (rd_struct2 (t := 37) (d0 := Kd.int .i64) (d1 := Kd.int .u32) Try.underlying37 rd_i64 rd_u32 (fun _ _ _ _ h => h) (fun _ _ _ _ h => h) rfl rfl (by kernel_rfl) (by kernel_rfl) (by kernel_rfl)) (fun x : S37 => (x.f0, x.f1)) (fun p => ⟨p.1, p.2⟩) (fun _ => rfl)
  intro H enc W sp hd n cs y hy
  obtain ⟨x, hK, _, hg⟩ := h H enc W sp hd n cs y hy
  exact ⟨x, hK, hg⟩
theorem rd48 : Rd 48 k48 (fun x _ => u32R x.f1) := by
  have h := rd_iso (rd_struct2 (t := 48) (d0 := Kd.int .i64) (d1 := k37) Try.underlying48 rd_i64 rd37 (fun _ _ _ _ h => h) (fun _ _ _ _ h => h) rfl rfl (by kernel_rfl) (by kernel_rfl) (by kernel_rfl)) (fun x : S48 => (x.f0, x.f1)) (fun p => ⟨p.1, p.2⟩) (fun _ => rfl)
  intro H enc W sp hd n cs y hy
  obtain ⟨x, hK, _, hg⟩ := h H enc W sp hd n cs y hy
  exact ⟨x, hK, hg⟩
theorem rd43 : Rd 43 (Kd.slice 48 k48) (fun l b => l.length + 1 ≤ b ∧ ∀ x ∈ l, u32R x.f1) := rd_slice Try.underlying43 rd48 (by kernel_rfl) (fun _ _ _ _ h => h)
/-- A row of deeds. -/
theorem open_deeds {H : Type} {enc : TypeId × Value → H} {W : World} {sp : Nat → Bool} {hd : Bool} {v : Value} {d : DataW H} {p : List MemPlace} (hv : ∃ a n c, v = .slice a n c) (h : DataW.Trod enc Try.prog W 0 sp hd 43 v d p) :
    ∃ (A : Option Addr) (c : Nat) (l : List S48), v = .slice A l.length c ∧ Kd.C k48 W A l.length l ∧ l.length ≤ c ∧ l.length + 1 ≤ Rows.uptoBulk d ∧ ∀ x ∈ l, 0 ≤ x.f1.f1 ∧ x.f1.f1 < 4294967296 := by
  obtain ⟨fuel, hf⟩ := h
  obtain ⟨va, vn, vc, rfl⟩ := hv
  obtain ⟨l, ⟨A, c, hcs, hlc, hC⟩, hl, hx⟩ := rd43 H enc W sp hd _ _ _ hf
  have hv : Value.slice va vn vc = .slice A l.length c := by simpa [Value.cells] using hcs
  exact ⟨A, c, l, hv, hC, hlc, hl, hx⟩
end Go.Proofs.Ytmglkgjnhoojaaa.PCodeRows
