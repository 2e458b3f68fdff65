/- scan.Cut: the reference's Cut; both are the lists'. -/
import Derived.Test.YtnnhpbghimjhiaaCutQ
namespace Go.Proofs.Ytnnhpbghimjhiaa
open Go.RowKit Go.Proofs.YtnnhpbghimjhiaaW.PrintWords Go.Proofs.YtnnhpbghimjhiaaW.PrintLast Go.Proofs.YtnnhpbghimjhiaaW.PrintMore Go.Proofs.Ytnnhpbghimjhiaa.QScan
set_option linter.unusedVariables false
set_option linter.unusedSimpArgs false
theorem r_skip (s : ByteArray) (hs : s.size ≤ 4096) (acc : List S30) {R : List S30 × Int} : ∀ l : List UInt8, l <:+ s.data.toList →
    Ev (fun k => tinderref06_Cut.l0 k s acc (pos s (l.dropWhile isB))) R → Ev (fun k => tinderref06_Cut.l0 k s acc (pos s l)) R
  | [], hl, h => h
  | b :: r, hl, h => by
    cases hb : isB b with
    | true =>
      rw [show (b :: r).dropWhile isB = r.dropWhile isB by rw [List.dropWhile_cons, hb]; rfl] at h
      refine Ev.step (f := fun k => tinderref06_Cut.l0 (k + 1) _ _ _) (fun k => rfl) ?_
      simp only [tinderref06_Cut.l0, pos_lt, ↓reduceIte, rblank_f hl, hb, Option.bind_some, pos_next hs hl]
      exact r_skip s hs acc r (sfx_tl hl) h
    | false =>
      rw [show (b :: r).dropWhile isB = b :: r by rw [List.dropWhile_cons, hb]; rfl] at h
      exact h
theorem r_word (s : ByteArray) (hs : s.size ≤ 4096) (acc : List S30) {R : List S30 × Int} (L : List UInt8) : ∀ m w : List UInt8, L = w ++ m → L <:+ s.data.toList →
    Ev (fun k => tinderref06_Cut.j2 k s acc (pos s L) (pos s (restL m))) R → Ev (fun k => tinderref06_Cut.l1 k s acc (pos s L) (pos s m)) R
  | [], w, e, hL, h => by
    refine Ev.step (f := fun k => tinderref06_Cut.l1 (k + 1) _ _ _ _) (fun k => rfl) ?_
    simp only [tinderref06_Cut.l1, pos_nil, Int.lt_irrefl, ↓reduceIte]
    rw [← pos_nil]
    exact h
  | b :: m, w, e, hL, h => by
    have hm : (b :: m) <:+ s.data.toList := by subst e; exact sfx_app hL
    rw [rest_cons] at h
    refine Ev.step (f := fun k => tinderref06_Cut.l1 (k + 1) _ _ _ _) (fun k => rfl) ?_
    cases hb : isB b with
    | true =>
      rw [hb] at h
      simp only [tinderref06_Cut.l1, pos_lt, ↓reduceIte, rblank_f hm, hb, Option.bind_some]
      exact h
    | false =>
      rw [hb] at h
      simp only [tinderref06_Cut.l1, pos_lt, ↓reduceIte, rblank_f hm, hb, Option.bind_some, Bool.false_eq_true, pos_next hs hm]
      exact r_word s hs acc L m (w ++ [b]) (by rw [e]; simp) hL h
theorem rest_sfx_pos {s : ByteArray} {L : List UInt8} (hL : L <:+ s.data.toList) : s.extract (pos s L).toNat (pos s (restL L)).toNat = byt (wordL L) ∧ pos s L ≤ pos s (restL L) := by
  have h1 := ext_pos (s := s) (w := wordL L) (r := restL L) (by rw [word_rest]; exact hL)
  have h2 := pos_mono (s := s) (w := wordL L) (r := restL L)
  rw [word_rest] at h1 h2
  exact ⟨h1, h2⟩
theorem r_head {s : ByteArray} (hs : s.size ≤ 4096) {l L : List UInt8} (acc : List S30) (hl : l <:+ s.data.toList) (hL : l.dropWhile isB = L) (h0 : L ≠ []) {R : List S30 × Int}
    (h : Ev (fun k => tinderref06_Cut.j2 (k + 1) s acc (pos s L) (pos s (restL L))) R) : Ev (fun k => tinderref06_Cut.l0 k s acc (pos s l)) R := by
  have hLs := suffix_drop hl hL
  refine r_skip s hs acc l hl ?_
  rw [hL]
  have h2 : Ev (fun k => tinderref06_Cut.l1 k s acc (pos s L) (pos s L)) R := r_word s hs acc L L [] rfl hLs (Ev.step (fun k => rfl) h)
  cases L with
  | nil => exact absurd rfl h0
  | cons b r =>
    refine Ev.step (f := fun k => tinderref06_Cut.l0 (k + 1) _ _ _) (fun k => rfl) ?_
    simp only [tinderref06_Cut.l0, pos_lt, ↓reduceIte, rblank_f hLs, drop_head hL, Option.bind_some, Bool.false_eq_true]
    exact h2
theorem rspec_t {w : List UInt8} (h : specW w) : tinderref06_Special.f (byt w) = some true := by rw [rspecial_f, decide_eq_true h]
theorem pos_def (s : ByteArray) (L : List UInt8) : pos s L = (s.size : Int) - L.length := rfl
theorem not_gt {s : ByteArray} {r : List UInt8} : ¬ pos s r > (s.size : Int) := by have := pos_le s r; omega
theorem rcut_ev (s : ByteArray) (hs : s.size ≤ 4096) {l : List UInt8} {q : Int × List S30} (h : CutR (s.size : Int) l q) :
    l <:+ s.data.toList → ∀ acc : List S30, acc.length + l.length ≤ 10000 → Ev (fun n => tinderref06_Cut.l0 n s acc (pos s l)) (fin acc q) := by
  induction h with
  | @done l hL =>
    intro hl acc hb
    refine r_skip s hs acc l hl ?_
    rw [hL]
    refine Ev.step (f := fun k => tinderref06_Cut.l0 (k + 1) _ _ _) (fun k => rfl) ?_
    simp only [tinderref06_Cut.l0, pos_nil, Int.lt_irrefl, ↓reduceIte]
    have : fin acc (0, []) = (acc, 0) := by simp [fin]
    rw [this]
    exact Ev.now _
  | @lineEnd l L hL h0 hw hu =>
    intro hl acc hb
    have hLs := suffix_drop hl hL
    have hR := sfx_rest hLs
    refine r_head hs acc hl hL h0 ?_
    simp only [tinderref06_Cut.j2, pos_ge hLs, (rest_sfx_pos hLs).2, pos_le, (rest_sfx_pos hLs).1, ↓reduceIte, rspec_t (show specW [92] from by decide), Option.bind_some, byt_toList, hw]
    refine Ev.bind (next10 hs hR) ?_
    have h5 : ¬ (wrap64 ((s.size : Int) + 1) < (s.size : Int)) := by rw [w64 (by omega) (by omega)]; omega
    simp only [nextP_none hu]
    refine Ev.step (f := fun k => tinderref06_Cut.l0 (k + 1) _ _ _) (fun k => rfl) ?_
    simp only [tinderref06_Cut.l0, h5, ↓reduceIte]
    have : fin acc (0, []) = (acc, 0) := by simp [fin]
    rw [this]
    exact Ev.now _
  | @line l L t r q hL h0 hw hu hq ih =>
    intro hl acc hb
    have hLs := suffix_drop hl hL
    have hR := sfx_rest hLs
    have hc : (10 :: r) <:+ s.data.toList := sfx_app (up_sfx hR hu)
    refine r_head hs acc hl hL h0 ?_
    simp only [tinderref06_Cut.j2, pos_ge hLs, (rest_sfx_pos hLs).2, pos_le, (rest_sfx_pos hLs).1, ↓reduceIte, rspec_t (show specW [92] from by decide), Option.bind_some, byt_toList, hw]
    refine Ev.bind (next10 hs hR) ?_
    simp only [nextP_some hu, pos_next hs hc]
    have := upL_len hu
    have := rest_lt hL h0
    exact ih (sfx_tl hc) acc (by omega)
  | @noParen l L hL h0 hw hu =>
    intro hl acc hb
    have hLs := suffix_drop hl hL
    have hR := sfx_rest hLs
    refine r_head hs acc hl hL h0 ?_
    simp only [tinderref06_Cut.j2, pos_ge hLs, (rest_sfx_pos hLs).2, pos_le, (rest_sfx_pos hLs).1, ↓reduceIte, rspec_t (show specW [40] from by decide), Option.bind_some, byt_toList, hw, w40]
    refine Ev.bind (next41 hs hR) ?_
    have h5 : wrap64 ((s.size : Int) + 1) > (s.size : Int) := by rw [w64 (by omega) (by omega)]; omega
    simp only [nextP_none hu, h5, ↓reduceIte]
    exact Ev.now _
  | @paren l L t r q hL h0 hw hu hq ih =>
    intro hl acc hb
    have hLs := suffix_drop hl hL
    have hR := sfx_rest hLs
    have hc : (41 :: r) <:+ s.data.toList := sfx_app (up_sfx hR hu)
    refine r_head hs acc hl hL h0 ?_
    simp only [tinderref06_Cut.j2, pos_ge hLs, (rest_sfx_pos hLs).2, pos_le, (rest_sfx_pos hLs).1, ↓reduceIte, rspec_t (show specW [40] from by decide), Option.bind_some, byt_toList, hw, w40]
    refine Ev.bind (next41 hs hR) ?_
    simp only [nextP_some hu, pos_next hs hc, not_gt, ↓reduceIte]
    have := upL_len hu
    have := rest_lt hL h0
    exact ih (sfx_tl hc) acc (by omega)
  | @bare l L hL h0 hw h1 h2 hr =>
    intro hl acc hb
    have hLs := suffix_drop hl hL
    have hR := sfx_rest hLs
    refine r_head hs acc hl hL h0 ?_
    have h6 : pos s (restL L) = s.size := by rw [hr, pos_nil]
    simp only [tinderref06_Cut.j2, pos_ge hLs, (rest_sfx_pos hLs).2, pos_le, (rest_sfx_pos hLs).1, ↓reduceIte, rspec_t hw, Option.bind_some, byt_toList, h1, h2]
    simp only [h6, ↓reduceIte]
    exact Ev.now _
  | @noPrint l L r b hL h0 hw hr hu =>
    intro hl acc hb
    have hLs := suffix_drop hl hL
    have hR := sfx_rest hLs
    have hR2 := hR
    rw [hr] at hR2
    refine r_head hs acc hl hL h0 ?_
    have h6 : ¬ pos s (restL L) = s.size := by rw [hr]; exact pos_ne
    have h7 : wrap64 (pos s (restL L) + 1) = pos s r := by rw [hr]; exact pos_next hs hR2
    simp only [tinderref06_Cut.j2, pos_ge hLs, (rest_sfx_pos hLs).2, pos_le, (rest_sfx_pos hLs).1, ↓reduceIte, rspec_t (show specW [46, 40] from by decide), Option.bind_some, byt_toList, hw, w4640a, w4640b, h6, h7]
    refine Ev.bind (next41 hs (sfx_tl hR2)) ?_
    simp only [nextP_none hu, ↓reduceIte]
    exact Ev.now _
  | @longPrint l L r t r2 b hL h0 hw hr hu ht =>
    intro hl acc hb
    have hLs := suffix_drop hl hL
    have hR := sfx_rest hLs
    have hR2 := hR
    rw [hr] at hR2
    refine r_head hs acc hl hL h0 ?_
    have h6 : ¬ pos s (restL L) = s.size := by rw [hr]; exact pos_ne
    have h7 : wrap64 (pos s (restL L) + 1) = pos s r := by rw [hr]; exact pos_next hs hR2
    have h8 : wrap64 (wrap64 (pos s (41 :: r2) - pos s (restL L)) - 1) > 255 := by
      have a := upL_len hu
      have b := sfx_len hR2
      have e1 : pos s (41 :: r2) - pos s (restL L) = (t.length : Int) + 1 := by rw [hr, pos_def, pos_def]; simp at b ⊢; omega
      simp at b
      rw [e1, w64 (n := (t.length : Int) + 1) (by omega) (by omega), w64 (n := (t.length : Int) + 1 - 1) (by omega) (by omega)]
      omega
    simp only [tinderref06_Cut.j2, pos_ge hLs, (rest_sfx_pos hLs).2, pos_le, (rest_sfx_pos hLs).1, ↓reduceIte, rspec_t (show specW [46, 40] from by decide), Option.bind_some, byt_toList, hw, w4640a, w4640b, h6, h7]
    refine Ev.bind (next41 hs (sfx_tl hR2)) ?_
    simp only [nextP_some hu, pos_ne, ↓reduceIte, h8]
    exact Ev.now _
  | @print l L r t r2 b q hL h0 hw hr hu ht hq ih =>
    intro hl acc hb
    have hLs := suffix_drop hl hL
    have hR := sfx_rest hLs
    have hR2 := hR
    rw [hr] at hR2
    have hr1 := sfx_tl hR2
    have hc : (41 :: r2) <:+ s.data.toList := sfx_app (up_sfx hr1 hu)
    refine r_head hs acc hl hL h0 ?_
    have h6 : ¬ pos s (restL L) = s.size := by rw [hr]; exact pos_ne
    have h7 : wrap64 (pos s (restL L) + 1) = pos s r := by rw [hr]; exact pos_next hs hR2
    have h1 := upL_len hu
    have h2 := rest_lt hL h0
    rw [hr] at h2
    simp at h2
    have h8 : ¬ wrap64 (wrap64 (pos s (41 :: r2) - pos s (restL L)) - 1) > 255 := by
      have b := sfx_len hR2
      have e1 : pos s (41 :: r2) - pos s (restL L) = (t.length : Int) + 1 := by rw [hr, pos_def, pos_def]; simp at b ⊢; omega
      simp at b
      rw [e1, w64 (n := (t.length : Int) + 1) (by omega) (by omega), w64 (n := (t.length : Int) + 1 - 1) (by omega) (by omega)]
      omega
    have h3 : acc.length < 4398046511104 := by omega
    simp only [tinderref06_Cut.j2, pos_ge hLs, (rest_sfx_pos hLs).2, pos_le, (rest_sfx_pos hLs).1, ↓reduceIte, rspec_t (show specW [46, 40] from by decide), Option.bind_some, byt_toList, hw, w4640a, w4640b, h6, h7]
    refine Ev.bind (next41 hs (sfx_tl hR2)) ?_
    simp only [nextP_some hu, pos_ne, ↓reduceIte, h8, pos_ge hr1, up_le hu, pos_le, h3, ext_up hr1 hu, pos_next hs hc]
    rw [fin_cons]
    exact ih (sfx_tl hc) _ (by simp; omega)
  | @noQuot l L r t r2 b e hL h0 hw hr hq he =>
    intro hl acc hb
    have hLs := suffix_drop hl hL
    have hR := sfx_rest hLs
    have hR2 := hR
    rw [hr] at hR2
    refine r_head hs acc hl hL h0 ?_
    have hspw : specW (wordL L) := hw.elim (fun h => .inr (.inr (.inr (.inl h)))) (fun h => .inr (.inr (.inr (.inr h))))
    have h6 : ¬ pos s (restL L) = s.size := by rw [hr]; exact pos_ne
    have h7 : wrap64 (pos s (restL L) + 1) = pos s r := by rw [hr]; exact pos_next hs hR2
    have a1 : ¬ (wordL L = [92]) := by rcases hw with h | h <;> rw [h] <;> decide
    have a2 : ¬ (wordL L = [40]) := by rcases hw with h | h <;> rw [h] <;> decide
    have a3 : ¬ (wordL L = [46, 40]) := by rcases hw with h | h <;> rw [h] <;> decide
    obtain ⟨p, hp, _⟩ := rquoted_ev s hs hq (sfx_tl hR2) (by have := sfx_len hR2; simp at this ⊢; omega)
    simp only [tinderref06_Cut.j2, pos_ge hLs, (rest_sfx_pos hLs).2, pos_le, (rest_sfx_pos hLs).1, ↓reduceIte, rspec_t hspw, Option.bind_some, byt_toList, a1, a2, a3, h6, h7]
    have hp2 : Ev (fun k => tinderref06_quoted.f k s (pos s r)) (byt t, p, e) := hp
    refine Ev.bind hp2 ?_
    simp only [he, ↓reduceIte]
    have : fin acc (e, []) = ([], e) := by simp [fin, he]
    rw [this]
    exact Ev.now _
  | @quot l L r t r2 b q hL h0 hw hr hq hc ih =>
    intro hl acc hb
    have hLs := suffix_drop hl hL
    have hR := sfx_rest hLs
    have hR2 := hR
    rw [hr] at hR2
    refine r_head hs acc hl hL h0 ?_
    have hspw : specW (wordL L) := hw.elim (fun h => .inr (.inr (.inr (.inl h)))) (fun h => .inr (.inr (.inr (.inr h))))
    have h6 : ¬ pos s (restL L) = s.size := by rw [hr]; exact pos_ne
    have h7 : wrap64 (pos s (restL L) + 1) = pos s r := by rw [hr]; exact pos_next hs hR2
    have a1 : ¬ (wordL L = [92]) := by rcases hw with h | h <;> rw [h] <;> decide
    have a2 : ¬ (wordL L = [40]) := by rcases hw with h | h <;> rw [h] <;> decide
    have a3 : ¬ (wordL L = [46, 40]) := by rcases hw with h | h <;> rw [h] <;> decide
    obtain ⟨p, hp, hpr⟩ := rquoted_ev s hs hq (sfx_tl hR2) (by have := sfx_len hR2; simp at this ⊢; omega)
    have h1 := quot_len hq rfl
    have h2 := rest_lt hL h0
    rw [hr] at h2
    simp at h2
    have h3 : acc.length < 4398046511104 := by omega
    have hs2 : r2 <:+ s.data.toList := quot_sfx hq rfl (sfx_tl hR2)
    have ih2 := ih hs2 (acc ++ [⟨if wordL L = [34] then 2 else 3, byt t, (s.size : Int) - L.length⟩]) (by simp; omega)
    simp only [tinderref06_Cut.j2, pos_ge hLs, (rest_sfx_pos hLs).2, pos_le, (rest_sfx_pos hLs).1, ↓reduceIte, rspec_t hspw, Option.bind_some, byt_toList, a1, a2, a3, h6, h7]
    have hp2 : Ev (fun k => tinderref06_quoted.f k s (pos s r)) (byt t, p, 0) := hp
    rw [hpr rfl] at hp2
    refine Ev.bind hp2 ?_
    rw [fin_cons]
    by_cases h4 : wordL L = [34]
    · simp only [h4, ↓reduceIte, h3] at ih2 ⊢; exact ih2
    · simp only [h4, ↓reduceIte, h3] at ih2 ⊢; exact ih2
  | @word l L q hL h0 hw hq ih =>
    intro hl acc hb
    have hLs := suffix_drop hl hL
    have hR := sfx_rest hLs
    have h2 := rest_lt hL h0
    have h3 : acc.length < 4398046511104 := by omega
    refine r_head hs acc hl hL h0 ?_
    simp only [tinderref06_Cut.j2, pos_ge hLs, (rest_sfx_pos hLs).2, pos_le, (rest_sfx_pos hLs).1, ↓reduceIte, rspecial_f, decide_eq_false hw, Option.bind_some, Bool.false_eq_true]
    refine Ev.bind (rsmall_f _ (word_len hLs hs)) ?_
    simp only [h3, ↓reduceIte]
    rw [fin_cons]
    exact ih hR _ (by simp; omega)
/-! ### Cut of a whole text -/
theorem cuts (s : ByteArray) (hs : s.size ≤ 4096) {q : Int × List S30} (h : CutR (s.size : Int) s.data.toList q) :
    Ev (fun k => scan_Cut.f k s) (fin [] q) ∧ Ev (fun k => tinderref06_Cut.f k s) (fin [] q) := by
  have hp : pos s s.data.toList = 0 := by unfold pos; rw [size_len]; omega
  have hlen := size_len s
  have h1 := cut_ev s hs h (List.suffix_refl _) [] (by simp; omega)
  have h2 := rcut_ev s hs h (List.suffix_refl _) [] (by simp; omega)
  rw [hp] at h1 h2
  constructor
  · simp only [scan_Cut.f, show ¬ ((s.size : Int) > 4096) by omega, ↓reduceIte]; exact h1
  · simp only [tinderref06_Cut.f, show ¬ ((s.size : Int) > 4096) by omega, ↓reduceIte]; exact h2
theorem same_ev (l : List S30) (hl : l.length ≤ 100000) : ∀ n i : Nat, i + n = l.length → Ev (fun k => tinderref06_Same.l0 k l l (i : Int)) true := by
  intro n
  induction n with
  | zero =>
    intro i hi
    refine Ev.step (f := fun k => tinderref06_Same.l0 (k + 1) _ _ _) (fun k => rfl) ?_
    simp only [tinderref06_Same.l0, show ¬ ((i : Int) < (l.length : Int)) by omega, ↓reduceIte]
    exact Ev.now _
  | succ n ih =>
    intro i hi
    refine Ev.step (f := fun k => tinderref06_Same.l0 (k + 1) _ _ _) (fun k => rfl) ?_
    have hw : wrap64 ((i : Int) + 1) = ((i + 1 : Nat) : Int) := by rw [w64 (by omega) (by omega)]; omega
    simp only [tinderref06_Same.l0, show (i : Int) < (l.length : Int) by omega, show (0 : Int) ≤ i by omega, ↓reduceIte, beq_self_eq_true, Bool.not_true, Bool.or_self, Bool.false_eq_true, hw]
    exact ih (i + 1) (by omega)
theorem same_f (l : List S30) (hl : l.length ≤ 100000) : Ev (fun k => tinderref06_Same.f k l l) true := by
  simp only [tinderref06_Same.f, ↓reduceIte]
  exact same_ev l hl l.length 0 (by omega)
theorem cut_count {N : Int} {l : List UInt8} {q : Int × List S30} (h : CutR N l q) : q.2.length ≤ l.length := by
  induction h with
  | done _ => simp
  | lineEnd _ _ _ _ => simp
  | line hL h0 hw hu hq ih => have := upL_len hu; have := rest_lt hL h0; omega
  | noParen _ _ _ _ => simp
  | paren hL h0 hw hu hq ih => have := upL_len hu; have := rest_lt hL h0; omega
  | bare _ _ _ _ _ _ => simp
  | noPrint _ _ _ _ _ => simp
  | longPrint _ _ _ _ _ _ => simp
  | print hL h0 hw hr hu ht hq ih =>
    have := upL_len hu; have h2 := rest_lt hL h0; rw [hr] at h2; simp at h2
    unfold consT; split <;> simp <;> omega
  | noQuot _ _ _ _ _ _ => simp
  | quot hL h0 hw hr hq hc ih =>
    have := quot_len hq rfl; have h2 := rest_lt hL h0; rw [hr] at h2; simp at h2
    unfold consT; split <;> simp <;> omega
  | word hL h0 hw hq ih =>
    have h2 := rest_lt hL h0
    unfold consT; split <;> simp <;> omega
end Go.Proofs.Ytnnhpbghimjhiaa
