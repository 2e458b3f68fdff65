/- Reading arrays of cells: a parameter that is an array of n cells is a row of n numbers. -/
import Derived.OpenShut
import Derived.WideShapes
import Derived.Lib.SmallJoins
namespace Go.Proofs.Ytdjpodpibkcnaaa.Arr
open Go.ChangeShapes Go.WideShapes Go.ChangeAt Go.RowKit
variable {H : Type} {enc : TypeId × Value → H} {P : Program} {w : World} {base : Nat} {spare : Nat → Bool} {held : Bool}
theorem okWide_array {r : Reach} {b0 n : Nat} {t e : TypeId} {v : Value} (ht : P.underlying t = some (.array n e)) (h : Value.okWide P w r b0 t v) : ∃ cs, v = .agg cs ∧ cs.size = P.cellsOf t := by
  simp only [Value.okWide, ht] at h
  obtain ⟨cs, h1, h2, _⟩ := h
  exact ⟨cs, h1, h2⟩

theorem open_u32s {r : Reach} {b0 n : Nat} {t e : TypeId} {v : Value} {d : DataW H} {p : List MemPlace} (ht : P.underlying t = some (.array n e)) (he : P.underlying e = some (.int .u32)) (hC : P.cellsOf t = n) (hCe : P.cellsOf e = 1)
    (hv : Value.okWide P w r b0 t v) (h : DataW.Trod enc P w base spare held t v d p) :
    ∃ xs : List Int, xs.length = n ∧ v = .agg (xs.map fun x => Value.int .u32 x).toArray ∧ ∀ x ∈ xs, (Lit.int .u32 x).wf = true := by
  obtain ⟨cs, rfl, hsz⟩ := okWide_array ht hv
  obtain ⟨fuel, hf⟩ := h
  obtain ⟨ys, m, _, hx, _, hl, hy⟩ := DataW.trod_array ht hf
  rw [hCe] at hy
  have hlen : cs.toList.length = n := by rw [Array.length_toList, hsz, hC]
  have hget : ∀ i (hi : i < cs.toList.length), ∃ a : Int, cs.toList[i] = .int .u32 a ∧ (Lit.int .u32 a).wf = true := by
    intro i hi
    have h1 := hy i (by omega)
    have h2 : (((Value.agg cs).cells.toList.drop (i * 1)).take 1) = [cs.toList[i]] := by
      show (cs.toList.drop (i * 1)).take 1 = _
      rw [Nat.mul_one, List.drop_eq_getElem_cons hi]; rfl
    rw [h2] at h1
    have hlt : i < ys.length := by omega
    rw [List.getElem?_eq_getElem hlt] at h1
    obtain ⟨a, e1, _, e3⟩ := DataW.trod_int he h1
    exact ⟨a, by simpa using e1, e3⟩
  refine ⟨cs.toList.map fun v => match v with | .int _ a => a | _ => 0, by simpa using hlen, ?_, ?_⟩
  · congr 1
    apply Array.ext'
    simp only [List.map_map]
    apply List.ext_getElem (by simp)
    intro i h1 h2
    obtain ⟨a, e1, _⟩ := hget i h1
    simp [-Array.getElem_toList, e1]
  · intro x hx'
    rw [List.mem_map] at hx'
    obtain ⟨v, hv', rfl⟩ := hx'
    obtain ⟨i, hi, rfl⟩ := List.getElem_of_mem hv'
    obtain ⟨a, e1, e2⟩ := hget i hi
    rw [e1]; exact e2
theorem open_u32x2 {r : Reach} {b0 : Nat} {t e : TypeId} {v : Value} {d : DataW H} {p : List MemPlace} (ht : P.underlying t = some (.array 2 e)) (he : P.underlying e = some (.int .u32)) (hC : P.cellsOf t = 2) (hCe : P.cellsOf e = 1)
    (hv : Value.okWide P w r b0 t v) (h : DataW.Trod enc P w base spare held t v d p) :
    ∃ a b : Int, v = .agg #[.int .u32 a, .int .u32 b] ∧ (Lit.int .u32 a).wf = true ∧ (Lit.int .u32 b).wf = true := by
  obtain ⟨xs, hl, rfl, hw⟩ := open_u32s ht he hC hCe hv h
  match xs, hl with
  | [a, b], _ => exact ⟨a, b, rfl, hw a (by simp), hw b (by simp)⟩
theorem open_u32x4 {r : Reach} {b0 : Nat} {t e : TypeId} {v : Value} {d : DataW H} {p : List MemPlace} (ht : P.underlying t = some (.array 4 e)) (he : P.underlying e = some (.int .u32)) (hC : P.cellsOf t = 4) (hCe : P.cellsOf e = 1)
    (hv : Value.okWide P w r b0 t v) (h : DataW.Trod enc P w base spare held t v d p) :
    ∃ a b c d : Int, v = .agg #[.int .u32 a, .int .u32 b, .int .u32 c, .int .u32 d] ∧ (Lit.int .u32 a).wf = true ∧ (Lit.int .u32 b).wf = true ∧ (Lit.int .u32 c).wf = true ∧ (Lit.int .u32 d).wf = true := by
  obtain ⟨xs, hl, rfl, hw⟩ := open_u32s ht he hC hCe hv h
  match xs, hl with
  | [a, b, c, d], _ => exact ⟨a, b, c, d, rfl, hw a (by simp), hw b (by simp), hw c (by simp), hw d (by simp)⟩
end Go.Proofs.Ytdjpodpibkcnaaa.Arr
