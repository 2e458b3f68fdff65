/- opens (38): a row of open ones, each with outs of its own. -/
import Derived.Test.YtmglkgjnhoojaaaBrA
namespace Go.Proofs.Ytmglkgjnhoojaaa.PCodeRows
open Go.RowKit Go.Proofs.YtmglkgjnhoojaaaW.PrintWords Go.Proofs.YtmglkgjnhoojaaaW.PrintLast Go.Proofs.YtmglkgjnhoojaaaW.PrintMore
set_option linter.unusedVariables false
set_option linter.unusedSimpArgs false
/-- The row as cells: up to i with outs of one's own, from i on with those that came in. -/
structure OpI (w W : World) (v : Value) (l : List S59) (i : Nat) (own : Nat → Nat) (rows : List (List Value)) : Prop where
  hr : (Kd.raw 2).R 59 W w.heap.size (fun _ => True) v rows
  hn : rows.length = l.length
  hold : ∀ j x, l[j]? = some x → j < i → ∃ u, rows[j]? = some [.int .i64 x.f0, u] ∧ Kd.R (Kd.int .i64) 3 W w.heap.size (fun k => own k = j) u x.f1
  hnew : ∀ j x, l[j]? = some x → ¬ j < i → ∃ A c, rows[j]? = some [.int .i64 x.f0, .slice A x.f1.length c] ∧ x.f1.length ≤ c ∧ Kd.C (Kd.int .i64) w A x.f1.length x.f1
  hb : Below w.heap.size w W
theorem opi_start {w W : World} {v : Value} {l : List S59} (h : Cloned k59 59 l w v W) (hC : Kd.C k59 w none 0 [] → True) : ∃ rows, OpI w W v l 0 (fun _ => 0) rows := by
  obtain ⟨⟨inner, ho, hr⟩, hb⟩ := h
  have hsz : k59.sz = 2 := rfl
  have hsr : (Kd.raw 2).sz = 2 := rfl
  have hrl := hr.1
  rw [hsz] at hrl
  refine ⟨(List.range l.length).map fun j => (inner.drop (j * 2)).take 2, ⟨⟨fun _ _ => trivial, inner, ?_, ?_⟩, by simp, fun j x _ hj => by omega, fun j x hj _ => ?_, hb⟩⟩
  · rw [hsr]; rw [hsz] at ho; simpa using ho
  · rw [hsr]
    refine ⟨by simpa using hrl, fun j p hj => ?_⟩
    obtain ⟨hjl, rfl⟩ : j < l.length ∧ (inner.drop (j * 2)).take 2 = p := by
      rw [List.getElem?_map] at hj
      obtain ⟨m, hm, rfl⟩ := Option.map_eq_some_iff.1 hj
      obtain ⟨h1, h2⟩ := List.getElem?_eq_some_iff.1 hm
      simp at h1 h2
      subst h2
      exact ⟨h1, rfl⟩
    refine ⟨rfl, by simp; omega, ?_⟩
    have hk := hr.2 j _ (List.getElem?_eq_getElem hjl)
    exact k59.K_one hk
  · have hk := hr.2 j x hj
    obtain ⟨A1, c1, e, h1, h2⟩ := k59_open hk
    have hjl : j < l.length := by
      by_cases h : j < l.length
      · exact h
      · rw [List.getElem?_eq_none (by omega)] at hj; cases hj
    refine ⟨A1, c1, ?_, h1, h2⟩
    rw [List.getElem?_map, List.getElem?_range hjl]
    exact congrArg some e
theorem opi_end {w W : World} {v : Value} {l : List S59} {own : Nat → Nat} {rows : List (List Value)} (h : OpI w W v l l.length own rows) : Kd.S k59 59 W w.heap.size (fun _ => True) v l := by
  have hsr : (Kd.raw 2).sz = 2 := rfl
  have htv := Kd.R_typed h.hr
  obtain ⟨_, inner, ho, hr⟩ := h.hr
  rw [hsr] at ho hr
  refine ⟨own, fun _ _ => trivial, inner, ?_, ?_⟩
  · show W.ownsRow w.heap.size 59 2 v l.zipIdx.length inner
    rw [List.length_zipIdx, ← h.hn]; exact ho
  · refine ⟨?_, fun j p hj => ?_⟩
    · show inner.length = l.zipIdx.length * 2
      rw [List.length_zipIdx, ← h.hn]; exact hr.1
    · rw [List.getElem?_zipIdx, Nat.zero_add] at hj
      obtain ⟨x, hx, rfl⟩ := Option.map_eq_some_iff.1 hj
      have hjl : j < l.length := by
        by_cases h : j < l.length
        · exact h
        · rw [List.getElem?_eq_none (by omega)] at hx; cases hx
      obtain ⟨u, hu, hR⟩ := h.hold j x hx hjl
      have hm := (hr.2 j _ hu).1
      show k59.M W w.heap.size (fun k => (True ∧ some k ≠ v.ownBlock) ∧ own k = j) x ((inner.drop (j * 2)).take 2)
      rw [hm]
      refine k59_mkM W w.heap.size _ x (Kd.R_mono (Kd.R_bound hR) (fun k hk => ⟨⟨trivial, fun he => ?_⟩, hk.1⟩))
      obtain ⟨c1, h1⟩ := htv k he.symm
      obtain ⟨q, hq, c2, h2⟩ := hk.2.2.2
      rw [E3] at hq
      simp at hq
      subst hq
      have := h1.symm.trans h2
      injection this with this
      injection this with _ h3
      exact absurd h3 (by decide)
theorem opi_step {w W W2 : World} {g n cap i : Nat} {v' : Value} {l : List S59} {own : Nat → Nat} {rows : List (List Value)} {x : S59} (h : OpI w W (.slice (some ⟨g, 0, none⟩) n cap) l i own rows) (hx : l[i]? = some x) (hC : Cloned (Kd.int .i64) 3 x.f1 W v' W2) :
    OpI w (W2.setCell ⟨g, i * 2 + 1, none⟩ v') (.slice (some ⟨g, 0, none⟩) n cap) l (i + 1) (new_ W own i) (rows.set i [.int .i64 x.f0, v']) := by
  have hsr : (Kd.raw 2).sz = 2 := rfl
  obtain ⟨hO, hB⟩ := hC
  have hil : i < l.length := by
    by_cases h : i < l.length
    · exact h
    · rw [List.getElem?_eq_none (by omega)] at hx; cases hx
  have hRn : (Kd.int .i64).R 3 W2 W.heap.size (fun _ => True) v' x.f1 := ⟨fun _ _ => trivial, hO.imp_ (fun p c hp => hp)⟩
  obtain ⟨Av, cv, rfl⟩ := Kd.R_slice hRn
  obtain ⟨A0, c0, hrow, _, _⟩ := h.hnew i x hx (by omega)
  have h2 := Kd.R_below h.hr hB
  have hnl : n = rows.length := (Kd.R_reads' h2).1
  have hin : (i : Int) < (n : Int) := by rw [hnl, h.hn]; omega
  obtain ⟨c, hcl, hM, hcc, hfr⟩ := Kd.R_elem h2 [] (i : Int) (by omega) hin
  have hc : c = [.int .i64 x.f0, .slice A0 x.f1.length c0] := by
    have := hM.1
    rw [this, Int.toNat_natCast, List.getD_eq_getElem?_getD, hrow]
    rfl
  subst hc
  have hseg := Kd.R_seg h2 (i : Int) (by omega) hin (seg := [.slice Av x.f1.length cv]) (j := 1) hcl hcc (by rw [hsr]; simp) (x' := [.int .i64 x.f0, .slice Av x.f1.length cv]) (okp := fun _ => False) ⟨rfl, rfl, by intro u hu; simp at hu; rcases hu with rfl | rfl <;> rfl⟩ (fun _ h => h.elim)
  rw [Int.toNat_natCast] at hseg
  obtain ⟨cells, htg⟩ := Kd.R_typed h2 g rfl
  have hbg := Kd.R_base h2 g rfl
  refine ⟨hseg.1, by rw [List.length_set]; exact h.hn, fun j y hy hj => ?_, fun j y hy hj => ?_, ?_⟩
  · by_cases hji : j = i
    · subst hji
      rw [hx] at hy
      injection hy with hy
      subst hy
      refine ⟨_, by rw [List.getElem?_set_self (by rw [h.hn]; exact hil)], Kd.R_set ?_ htg (by decide) _ _⟩
      exact Kd.R_lower (Kd.R_mono (Kd.R_bound hRn) (fun k hk => new_new hk.2.1)) h.hb.size
    · obtain ⟨u, hu, hR⟩ := h.hold j y hy (by omega)
      refine ⟨u, by rw [List.getElem?_set_ne (by omega)]; exact hu, Kd.R_set (Kd.R_below (R_lt_mono hR (fun k hk hl => new_old hk hl)) hB) htg (by decide) _ _⟩
  · obtain ⟨A, c, hu, h3, h4⟩ := h.hnew j y hy (by omega)
    exact ⟨A, c, by rw [List.getElem?_set_ne (by omega)]; exact hu, h3, h4⟩
  · exact (below_step h.hb hB).setCell hbg _
set_option maxHeartbeats 2000000 in
theorem opens_calls (A : Option Addr) (c : Nat) (l : List S59) (w : World) (hr : Kd.C k59 w A l.length l) (hb : l.length * 32 ≤ 140737488355328) (hb2 : ∀ x ∈ l, x.f1.length * 8 ≤ 140737488355328) :
    Calls Try.prog 38 #[.slice A l.length c] w fun e w' => ∃ v, e = .returned v ∧ Kd.S k59 59 w' w.heap.size (fun _ => True) v l ∧ Below w.heap.size w w' := by
  have hlen := hr.2.1
  go_enter Try.func38, Try.ntmps38
  go_wp2_with fail
  refine (clone45_calls A c l w hr hb).mono ?_
  rintro e w1 ⟨v, rfl, hCl⟩
  obtain ⟨rows0, h0⟩ := opi_start hCl (fun _ => trivial)
  obtain ⟨A1, c1, rfl⟩ := Kd.R_slice h0.hr
  rw [h0.hn] at h0 ⊢
  clear hCl
  go_wp2_with fail
  go_loopg [8] l.length (fun gg s8 wr => ∃ (kk : Nat) (own : Nat → Nat) (rows : List (List Value)), kk ≤ l.length ∧ l.length - kk ≤ gg ∧ s8 = .int .i64 kk ∧ Aside0 (OpI w wr (.slice A1 l.length c1) l kk own rows))
  case atStart => exact ⟨0, _, _, Nat.zero_le _, by omega, rfl, ⟨h0⟩⟩
  case round =>
    obtain ⟨kk, own, rows, hkk, hg, rfl, HI⟩ := hrel
    by_cases hlt : kk < l.length
    · have hltz : (kk : Int) < (l.length : Int) := by omega
      have hx : l[kk]? = some (l[kk]'hlt) := List.getElem?_eq_getElem hlt
      have hxm : l[kk]'hlt ∈ l := List.getElem_mem hlt
      generalize l[kk]'hlt = x at hx hxm
      obtain ⟨g, rfl⟩ : ∃ g, A1 = some ⟨g, 0, none⟩ := by
        cases A1 with
        | none =>
          obtain ⟨_, _, hC⟩ := Kd.R_reads' HI.out.hr
          obtain ⟨ad', e', _⟩ := hC.2.2 (by rw [HI.out.hn]; omega)
          cases e'
        | some a =>
          obtain ⟨g, e⟩ := Kd.R_head HI.out.hr
          exact ⟨g, by rw [e]⟩
      obtain ⟨A0, c0, hrow, hc0, hC0⟩ := HI.out.hnew kk x hx (by omega)
      obtain ⟨cc, hcl2, hM, hcc, hfr⟩ := Kd.R_elem HI.out.hr [] (kk : Int) (by omega) hltz
      have hz : cc = [.int .i64 x.f0, .slice A0 x.f1.length c0] := by
        have := hM.1
        rw [this, Int.toNat_natCast, List.getD_eq_getElem?_getD, hrow]
        rfl
      subst hz
      have hc1 : wr.cell? ⟨g, kk * 2 + 1, none⟩ = some (.slice A0 x.f1.length c0) := by
        have := hcc 1 _ rfl
        rw [Int.toNat_natCast] at this
        exact this
      have p0 : (0 ≤ (kk : Int)) = True := eq_true (by omega)
      have p1 : ((kk : Int) < (l.length : Int)) = True := eq_true hltz
      have hCw : Kd.C (Kd.int .i64) wr A0 x.f1.length x.f1 := Kd.C_below hC0 HI.out.hb
      clear hcc hfr hM hrow hC0
      go_wp2_with fail
      refine (clone37_calls A0 c0 x.f1 wr hCw (hb2 x hxm)).mono ?_
      rintro e w2 ⟨v', rfl, hCl2⟩
      have h' := opi_step HI.out hx hCl2
      obtain ⟨cells, htg⟩ := Kd.R_typed (Kd.R_below HI.out.hr hCl2.2) g rfl
      have hfz : w2.frozen? ⟨g, kk * 2 + 1, none⟩ = false := blk_frozen htg _
      have hc2 : w2.cell? ⟨g, kk * 2 + 1, none⟩ = some (.slice A0 x.f1.length c0) := pw_cell_below hCl2.2 hc1
      obtain ⟨Av, cv, rfl, _⟩ := hCl2.1.slice_
      clear hc1 hCw hCl2 htg h0
      go_wp2_with fail
      go_roundg (l.length - (kk + 1))
      case measure => omega
      case rel => exact ⟨kk + 1, _, _, by omega, by omega, by go_num, ⟨h'⟩⟩
    · have hltz : ¬ (kk : Int) < (l.length : Int) := by omega
      have : kk = l.length := by omega
      subst this
      clear h0
      go_wp2_with fail
      exact bodyPost_ret (v := .slice A1 l.length c1) (by simp [results, Try.results38, go_sem]) rfl ⟨_, rfl, opi_end HI.out, HI.out.hb⟩
end Go.Proofs.Ytmglkgjnhoojaaa.PCodeRows
