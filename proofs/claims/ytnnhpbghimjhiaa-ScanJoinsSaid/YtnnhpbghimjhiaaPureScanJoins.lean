/- ScanJoins: two texts that can be cut, with a line's end between, are cut to the tokens of the one and then those of the other. No condition. -/
import Derived.Test.YtnnhpbghimjhiaaCutC
import Derived.Test.YtnnhpbghimjhiaaQScanx9
namespace Go.Proofs.Ytnnhpbghimjhiaa.Pure
open Go.RowKit Go.Proofs.YtnnhpbghimjhiaaW.PrintWords Go.Proofs.YtnnhpbghimjhiaaW.PrintLast Go.Proofs.YtnnhpbghimjhiaaW.PrintMore Go.Proofs.Ytnnhpbghimjhiaa.QScan
theorem alive_ev : Ev (fun k => tinderlaw06_alive.f k) true := by
  refine Ev.of tinderlaw06_alive.mono (k := 60) ?_
  decide +kernel
/-! ### one text behind the other -/
theorem cut_of_drop {N : Int} {l l' : List UInt8} {q : Int × List S30} (h : CutR N l' q) : l.dropWhile isB = l'.dropWhile isB → CutR N l q := by
  intro e
  cases h with
  | done h => exact .done (e.trans h)
  | lineEnd h a b c => exact .lineEnd (e.trans h) a b c
  | line h a b c d => exact .line (e.trans h) a b c d
  | noParen h a b c => exact .noParen (e.trans h) a b c
  | paren h a b c d => exact .paren (e.trans h) a b c d
  | bare h a b c d f => exact .bare (e.trans h) a b c d f
  | noPrint h a b c d => exact .noPrint (e.trans h) a b c d
  | longPrint h a b c d f => exact .longPrint (e.trans h) a b c d f
  | print h a b c d f g => exact .print (e.trans h) a b c d f g
  | noQuot h a b c d f => exact .noQuot (e.trans h) a b c d f
  | quot h a b c d f => exact .quot (e.trans h) a b c d f
  | word h a b c => exact .word (e.trans h) a b c
theorem drop_app {l X : List UInt8} : l.dropWhile isB ≠ [] → (l ++ X).dropWhile isB = l.dropWhile isB ++ X := by
  induction l with
  | nil => intro h; exact absurd rfl h
  | cons b l ih =>
    intro h
    rw [List.dropWhile_cons] at h
    rw [List.cons_append, List.dropWhile_cons, List.dropWhile_cons]
    split
    · rename_i hb; rw [if_pos hb] at h; exact ih h
    · rfl
theorem drop_all {l X : List UInt8} : l.dropWhile isB = [] → (l ++ X).dropWhile isB = X.dropWhile isB := by
  induction l with
  | nil => intro _; rfl
  | cons b l ih =>
    intro h
    rw [List.dropWhile_cons] at h
    rw [List.cons_append, List.dropWhile_cons]
    split
    · rename_i hb; rw [if_pos hb] at h; exact ih h
    · rename_i hb; rw [if_neg hb] at h; cases h
theorem word_app (L lb : List UInt8) : wordL (L ++ 10 :: lb) = wordL L ∧ restL (L ++ 10 :: lb) = restL L ++ 10 :: lb := by
  induction L with
  | nil => exact ⟨rfl, rfl⟩
  | cons b L ih =>
    unfold wordL restL at ih ⊢
    rw [List.cons_append, List.takeWhile_cons, List.takeWhile_cons, List.dropWhile_cons, List.dropWhile_cons]
    split
    · exact ⟨by rw [ih.1], ih.2⟩
    · exact ⟨rfl, rfl⟩
theorem up_app {c : UInt8} {R t r X : List UInt8} (h : upL c R = some (t, r)) : upL c (R ++ X) = some (t, r ++ X) := by
  obtain ⟨h1, h2⟩ := upL_some h
  rw [h1, List.append_assoc, List.cons_append]
  exact upL_of h2
theorem quot_app {lb acc l : List UInt8} {e : Int} {t r : List UInt8} (h : QuotR acc l e t r) (he : e = 0) : QuotR acc (l ++ 10 :: lb) e t (r ++ 10 :: lb) := by
  induction h with
  | none _ => cases he
  | fin h => exact .blank (up_app h) rfl
  | blank h hb => exact .blank (up_app h) hb
  | bad _ _ _ => cases he
  | noend _ _ => cases he
  | nohex _ _ _ => cases he
  | hex h1 h2 h3 _ ih => exact .hex (up_app h1) (up_app h2) h3 (ih he)
def appT (q : List S30) (p : Int × List S30) : Int × List S30 := if p.1 = 0 then (0, q ++ p.2) else (p.1, [])
theorem appT_cons (x : S30) (q : List S30) (p : Int × List S30) : appT (x :: q) p = consT x (appT q p) := by
  unfold appT consT
  by_cases h : p.1 = 0 <;> simp [h]
theorem consT_ok {x : S30} {q : Int × List S30} (h : (consT x q).1 = 0) : q.1 = 0 ∧ (consT x q).2 = x :: q.2 := by
  unfold consT at h ⊢
  split at h
  · rename_i hq; exact ⟨hq, by rw [if_pos hq]⟩
  · rename_i hq; exact absurd h hq
theorem join {N M : Int} {lb : List UInt8} {ps : List S30} (hM : M = lb.length) (hp : CutR (N + 1 + M) lb (0, ps)) {la : List UInt8} {q : Int × List S30} (h : CutR N la q) (he : q.1 = 0) :
    CutR (N + 1 + M) (la ++ 10 :: lb) (0, q.2 ++ ps) := by
  have hlen : ∀ L : List UInt8, N + 1 + M - (L ++ 10 :: lb).length = N - L.length := fun L => by simp; omega
  induction h with
  | done hL => exact cut_of_drop hp (by rw [drop_all hL]; rfl)
  | @lineEnd l L hL h0 hw hu =>
    have hd : (l ++ 10 :: lb).dropWhile isB = L ++ 10 :: lb := by rw [drop_app (by rw [hL]; exact h0), hL]
    refine .line hd (by simp) ((word_app L lb).1.trans hw) (t := restL L) (r := lb) ?_ hp
    rw [(word_app L lb).2]
    exact upL_of (upL_none hu)
  | @line l L t r q hL h0 hw hu hq ih =>
    have hd : (l ++ 10 :: lb).dropWhile isB = L ++ 10 :: lb := by rw [drop_app (by rw [hL]; exact h0), hL]
    exact .line hd (by simp) ((word_app L lb).1.trans hw) (by rw [(word_app L lb).2]; exact up_app hu) (ih he)
  | noParen _ _ _ _ => cases he
  | @paren l L t r q hL h0 hw hu hq ih =>
    have hd : (l ++ 10 :: lb).dropWhile isB = L ++ 10 :: lb := by rw [drop_app (by rw [hL]; exact h0), hL]
    exact .paren hd (by simp) ((word_app L lb).1.trans hw) (by rw [(word_app L lb).2]; exact up_app hu) (ih he)
  | bare _ _ _ _ _ _ => cases he
  | noPrint _ _ _ _ _ => cases he
  | longPrint _ _ _ _ _ _ => cases he
  | @print l L r t r2 b q hL h0 hw hr hu ht hq ih =>
    have hd : (l ++ 10 :: lb).dropWhile isB = L ++ 10 :: lb := by rw [drop_app (by rw [hL]; exact h0), hL]
    obtain ⟨h1, h2⟩ := consT_ok he
    have := CutR.print (N := N + 1 + M) hd (by simp) ((word_app L lb).1.trans hw) (b := b) (r := r ++ 10 :: lb) (by rw [(word_app L lb).2, hr]; rfl) (up_app hu) ht (ih h1)
    rw [hlen] at this
    rw [h2]
    exact this
  | noQuot _ _ _ _ _ h => exact absurd he h
  | @quot l L r t r2 b q hL h0 hw hr hq hc ih =>
    have hd : (l ++ 10 :: lb).dropWhile isB = L ++ 10 :: lb := by rw [drop_app (by rw [hL]; exact h0), hL]
    obtain ⟨h1, h2⟩ := consT_ok he
    have := CutR.quot (N := N + 1 + M) hd (by simp) (by rw [(word_app L lb).1]; exact hw) (b := b) (r := r ++ 10 :: lb) (by rw [(word_app L lb).2, hr]; rfl) (quot_app hq rfl) (ih h1)
    rw [hlen, (word_app L lb).1] at this
    rw [h2]
    exact this
  | @word l L q hL h0 hw hq ih =>
    have hd : (l ++ 10 :: lb).dropWhile isB = L ++ 10 :: lb := by rw [drop_app (by rw [hL]; exact h0), hL]
    obtain ⟨h1, h2⟩ := consT_ok he
    have := CutR.word (N := N + 1 + M) hd (by simp) (by rw [(word_app L lb).1]; exact hw) (by rw [(word_app L lb).2]; exact ih h1)
    rw [hlen, (word_app L lb).1] at this
    rw [h2]
    exact this
/-! ### further on in a text -/
def shift (d : Int) (x : S30) : S30 := ⟨x.f0, x.f1, x.f2 + d⟩
theorem consT_shift (d : Int) (x : S30) (q : Int × List S30) : ((consT x q).1, (consT x q).2.map (shift d)) = consT (shift d x) (q.1, q.2.map (shift d)) := by
  unfold consT
  by_cases h : q.1 = 0 <;> simp [h]
theorem cut_shift {N : Int} (d : Int) {l : List UInt8} {q : Int × List S30} (h : CutR N l q) : CutR (N + d) l (q.1, q.2.map (shift d)) := by
  have hN : ∀ L : List UInt8, N + d - (L.length : Int) = N - L.length + d := fun L => by omega
  induction h with
  | done h => exact .done h
  | lineEnd h a b c => exact .lineEnd h a b c
  | line h a b c d ih => exact .line h a b c ih
  | noParen h a b c => exact .noParen h a b c
  | paren h a b c d ih => exact .paren h a b c ih
  | bare h a b c d f => exact .bare h a b c d f
  | noPrint h a b c d => exact .noPrint h a b c d
  | longPrint h a b c d f => exact .longPrint h a b c d f
  | print h a b c e f g ih =>
    rw [consT_shift]
    have := CutR.print h a b c e f ih
    rw [hN] at this
    exact this
  | noQuot h a b c d f => exact .noQuot h a b c d f
  | quot h a b c e f ih =>
    rw [consT_shift]
    have := CutR.quot h a b c e ih
    rw [hN] at this
    exact this
  | word h a b c ih =>
    rw [consT_shift]
    have := CutR.word h a b ih
    rw [hN] at this
    exact this
theorem at_range {N : Int} {l : List UInt8} {q : Int × List S30} (h : CutR N l q) : (l.length : Int) ≤ N → ∀ x ∈ q.2, 0 ≤ x.f2 ∧ x.f2 ≤ N := by
  have key : ∀ {x : S30} {q : Int × List S30}, (0 ≤ x.f2 ∧ x.f2 ≤ N) → (∀ y ∈ q.2, 0 ≤ y.f2 ∧ y.f2 ≤ N) → ∀ y ∈ (consT x q).2, 0 ≤ y.f2 ∧ y.f2 ≤ N := by
    intro x q hx hq y hy
    unfold consT at hy
    split at hy
    · rcases List.mem_cons.1 hy with rfl | hy
      · exact hx
      · exact hq y hy
    · cases hy
  induction h with
  | done _ => intro _ x hx; cases hx
  | lineEnd _ _ _ _ => intro _ x hx; cases hx
  | line hL h0 hw hu hq ih => intro hl; have := upL_len hu; have := rest_lt hL h0; exact ih (by omega)
  | noParen _ _ _ _ => intro _ x hx; cases hx
  | paren hL h0 hw hu hq ih => intro hl; have := upL_len hu; have := rest_lt hL h0; exact ih (by omega)
  | bare _ _ _ _ _ _ => intro _ x hx; cases hx
  | noPrint _ _ _ _ _ => intro _ x hx; cases hx
  | longPrint _ _ _ _ _ _ => intro _ x hx; cases hx
  | @print l L r t r2 b q hL h0 hw hr hu ht hq ih =>
    intro hl
    have := upL_len hu; have h2 := rest_lt hL h0; rw [hr] at h2; simp at h2
    have h3 := drop_len l
    rw [hL] at h3
    exact key ⟨by show 0 ≤ N - (L.length : Int); omega, by show N - (L.length : Int) ≤ N; omega⟩ (ih (by omega))
  | noQuot _ _ _ _ _ _ => intro _ x hx; cases hx
  | @quot l L r t r2 b q hL h0 hw hr hq hc ih =>
    intro hl
    have := quot_len hq rfl; have h2 := rest_lt hL h0; rw [hr] at h2; simp at h2
    have h3 := drop_len l
    rw [hL] at h3
    exact key ⟨by show 0 ≤ N - (L.length : Int); omega, by show N - (L.length : Int) ≤ N; omega⟩ (ih (by omega))
  | @word l L q hL h0 hw hq ih =>
    intro hl
    have h2 := rest_lt hL h0
    have h3 := drop_len l
    rw [hL] at h3
    exact key ⟨by show 0 ≤ N - (L.length : Int); omega, by show N - (L.length : Int) ≤ N; omega⟩ (ih (by omega))
theorem cut_big (s : ByteArray) (h : ¬ s.size ≤ 4096) : Ev (fun k => scan_Cut.f k s) ([], 3) := by
  simp only [scan_Cut.f, show (s.size : Int) > 4096 by omega, ↓reduceIte]
  exact Ev.now _
theorem j0_true (a b : ByteArray) (x y : List S30) : Ev (fun k => tinderlaw06_ScanJoins.j0 k a b x y true) true := by
  refine Ev.step (f := fun k => tinderlaw06_ScanJoins.j0 (k + 1) _ _ _ _ _) (fun k => rfl) ?_
  simp only [tinderlaw06_ScanJoins.j0, ↓reduceIte]
  exact Ev.now _
theorem loop_ev (a : ByteArray) (ha : a.size ≤ 4096) (xs ys : List S30) (hx : xs.length ≤ 5000) (hy : ys.length ≤ 5000) (hr : ∀ y ∈ ys, 0 ≤ y.f2 ∧ y.f2 ≤ 5000) : ∀ n i : Nat, i + n = ys.length →
    Ev (fun k => tinderlaw06_ScanJoins.l0 k a xs ys (xs ++ ys.map (shift ((a.size : Int) + 1))) (i : Int)) true := by
  intro n
  induction n with
  | zero =>
    intro i hi
    refine Ev.step (f := fun k => tinderlaw06_ScanJoins.l0 (k + 1) _ _ _ _ _) (fun k => rfl) ?_
    simp only [tinderlaw06_ScanJoins.l0, show ¬ ((i : Int) < (ys.length : Int)) by omega, ↓reduceIte]
    exact Ev.now _
  | succ n ih =>
    intro i hi
    have hi2 : i < ys.length := by omega
    obtain ⟨y, hyi⟩ : ∃ y, ys[i]? = some y := ⟨ys[i], List.getElem?_eq_getElem hi2⟩
    have hry := hr y (List.mem_of_getElem? hyi)
    have e1 : wrap64 ((xs.length : Int) + i) = ((xs.length + i : Nat) : Int) := by rw [w64 (by omega) (by omega)]; omega
    have e2 : rd_T30 (xs ++ ys.map (shift ((a.size : Int) + 1))) ((xs.length + i : Nat) : Int) = shift ((a.size : Int) + 1) y := by
      unfold rd_T30
      rw [Int.toNat_natCast, List.getD_eq_getElem?_getD, List.getElem?_append_right (by omega), Nat.add_sub_cancel_left, List.getElem?_map, hyi]
      rfl
    have e3 : rd_T30 ys (i : Int) = y := by
      unfold rd_T30
      rw [Int.toNat_natCast, List.getD_eq_getElem?_getD, hyi]
      rfl
    have e4 : wrap64 (wrap64 (y.f2 + ((a.size : Int) + 1) - a.size) - 1) = y.f2 := by
      rw [w64 (n := y.f2 + ((a.size : Int) + 1) - a.size) (by omega) (by omega), w64 (by omega) (by omega)]; omega
    have hw : wrap64 ((i : Int) + 1) = ((i + 1 : Nat) : Int) := by rw [w64 (by omega) (by omega)]; omega
    refine Ev.step (f := fun k => tinderlaw06_ScanJoins.l0 (k + 1) _ _ _ _ _) (fun k => rfl) ?_
    simp only [tinderlaw06_ScanJoins.l0, show (i : Int) < (ys.length : Int) by omega, show (0 : Int) ≤ i by omega, ↓reduceIte, e1, e2, e3, shift, e4, beq_self_eq_true, Bool.not_true, Bool.or_self, Bool.false_eq_true, hw, show (0 : Int) ≤ ((xs.length + i : Nat) : Int) by omega, show ((xs.length + i : Nat) : Int) < ((xs ++ ys.map (shift ((a.size : Int) + 1))).length : Int) by simp; omega]
    exact ih (i + 1) (by omega)
theorem ScanJoins : tinderlaw06_ScanJoins.Pure := by
  intro a b ha hb
  refine Ev.rounds (g := fun k => tinderlaw06_ScanJoins.f k a b) ?_
  unfold tinderlaw06_ScanJoins.f
  refine Ev.bind alive_ev ?_
  simp only [↓reduceIte]
  by_cases hA : a.size ≤ 4096
  case neg =>
    refine Ev.bind (cut_big a hA) ?_
    by_cases hB : b.size ≤ 4096
    · obtain ⟨q, hq⟩ := cut_ex (b.size : Int) _ b.data.toList (Nat.lt_succ_self _)
      refine Ev.bind (cuts b hB hq).1 ?_
      simp only [show ¬ ((3 : Int) = 0) by decide, ↓reduceIte]
      exact j0_true _ _ _ _
    · refine Ev.bind (cut_big b hB) ?_
      simp only [show ¬ ((3 : Int) = 0) by decide, ↓reduceIte]
      exact j0_true _ _ _ _
  obtain ⟨q, hq⟩ := cut_ex (a.size : Int) _ a.data.toList (Nat.lt_succ_self _)
  refine Ev.bind (cuts a hA hq).1 ?_
  by_cases hB : b.size ≤ 4096
  case neg =>
    refine Ev.bind (cut_big b hB) ?_
    simp only [show ¬ ((3 : Int) = 0) by decide, ↓reduceIte]
    split
    · exact j0_true _ _ _ _
    · exact j0_true _ _ _ _
  obtain ⟨p, hp⟩ := cut_ex (b.size : Int) _ b.data.toList (Nat.lt_succ_self _)
  refine Ev.bind (cuts b hB hp).1 ?_
  by_cases hq0 : q.1 = 0
  case neg =>
    simp only [fin, hq0, ↓reduceIte]
    exact j0_true _ _ _ _
  by_cases hp0 : p.1 = 0
  case neg =>
    simp only [fin, hq0, hp0, ↓reduceIte]
    exact j0_true _ _ _ _
  simp only [fin, hq0, hp0, ↓reduceIte, List.nil_append]
  by_cases h1 : (a.size : Int) ≥ 4096
  · simp only [h1, ↓reduceIte]
    exact j0_true _ _ _ _
  have hw : wrap64 (4096 - (a.size : Int)) = 4096 - a.size := w64 (by omega) (by omega)
  simp only [h1, ↓reduceIte, hw]
  by_cases h2 : (b.size : Int) ≥ 4096 - a.size
  · simp only [h2, decide_true]
    exact j0_true _ _ _ _
  simp only [h2, decide_false]
  -- both texts in one
  obtain ⟨q1, xs⟩ := q
  obtain ⟨p1, ys⟩ := p
  simp only at hq0 hp0
  subst hq0 hp0
  have hdata : ((a ++ (⟨#[10]⟩ : ByteArray)) ++ b).data.toList = a.data.toList ++ 10 :: b.data.toList := by
    simp [ByteArray.data_append]
  have hsize : ((a ++ (⟨#[10]⟩ : ByteArray)) ++ b).size = a.size + 1 + b.size := by
    have := congrArg List.length hdata
    rw [size_len] at this
    rw [this]
    simp; omega
  have hsz1 : (a ++ (⟨#[10]⟩ : ByteArray)).size + b.size ≤ 9223372036854775807 := by
    rw [ByteArray.size_append] at hsize
    omega
  have hsh := cut_shift ((a.size : Int) + 1) hp
  have hsh2 : CutR ((a.size : Int) + 1 + b.size) b.data.toList (0, ys.map (shift ((a.size : Int) + 1))) := by
    have e : (b.size : Int) + ((a.size : Int) + 1) = (a.size : Int) + 1 + b.size := by omega
    rw [e] at hsh
    exact hsh
  have hj := join (N := a.size) (M := b.size) (by rw [size_len]) hsh2 hq rfl
  have hj2 : CutR (((a ++ (⟨#[10]⟩ : ByteArray)) ++ b).size : Int) ((a ++ (⟨#[10]⟩ : ByteArray)) ++ b).data.toList (0, xs ++ ys.map (shift ((a.size : Int) + 1))) := by
    rw [hdata, hsize]
    have e : ((a.size + 1 + b.size : Nat) : Int) = (a.size : Int) + 1 + b.size := by omega
    rw [e]
    exact hj
  have hc := (cuts _ (by rw [hsize]; omega) hj2).1
  have hcx := cut_count hq
  have hcy := cut_count hp
  rw [size_len] at hcx hcy
  simp only at hcx hcy
  have hry := at_range hp (by rw [size_len]; exact Int.le_refl _)
  refine Ev.step (f := fun k => tinderlaw06_ScanJoins.j0 (k + 1) _ _ _ _ _) (fun k => rfl) ?_
  simp only [tinderlaw06_ScanJoins.j0, Bool.false_eq_true, ↓reduceIte, show a.size + 1 ≤ 9223372036854775807 by omega, hsz1]
  refine Ev.bind hc ?_
  have e1 : wrap64 ((xs.length : Int) + (ys.length : Int)) = (xs.length : Int) + ys.length := w64 (by omega) (by omega)
  have e2 : (((xs ++ ys.map (shift ((a.size : Int) + 1))).length : Nat) : Int) = (xs.length : Int) + ys.length := by simp
  simp only [fin, ↓reduceIte, List.nil_append, e1, e2, show (0 : Int) ≤ (xs.length : Int) by omega, show (xs.length : Int) ≤ (xs.length : Int) + ys.length by omega, Int.toNat_natCast, List.take_left]
  refine Ev.bind (same_f xs (by omega)) ?_
  refine Ev.step (f := fun k => tinderlaw06_ScanJoins.j1 (k + 1) _ _ _ _ _) (fun k => rfl) ?_
  simp only [tinderlaw06_ScanJoins.j1, Bool.not_true, Bool.false_eq_true, ↓reduceIte]
  exact loop_ev a hA xs ys (by omega) (by omega) (fun y hy => ⟨(hry y hy).1, by have := (hry y hy).2; omega⟩) ys.length 0 (by omega)
end Go.Proofs.Ytnnhpbghimjhiaa.Pure
