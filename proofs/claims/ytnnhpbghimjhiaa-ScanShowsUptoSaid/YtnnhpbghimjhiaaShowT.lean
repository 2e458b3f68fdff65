/- scan.Show: what it computes, over lists; and the cut of what is shown. -/
import Derived.Test.YtnnhpbghimjhiaaBackT
namespace Go.Proofs.Ytnnhpbghimjhiaa
open Go.RowKit Go.Proofs.YtnnhpbghimjhiaaW.PrintWords Go.Proofs.YtnnhpbghimjhiaaW.PrintLast Go.Proofs.Ytnnhpbghimjhiaa.QScanT
set_option linter.unusedVariables false
set_option linter.unusedSimpArgs false
def pv (x : S30) : ByteArray := if x.f0 = 1 then x.f1 else ⟨(partL x).toArray⟩
theorem pv_data (x : S30) : (pv x).data.toList = partS x := by unfold pv partS; split <;> rfl
theorem tail_show : ∀ l : List S30, l ≠ [] → Lib.joinTail [32] (l.map partS) = 32 :: showS l
  | [], h => absurd rfl h
  | [x], _ => by simp [Lib.joinTail, showS]
  | x :: y :: l, _ => by
    have ih := tail_show (y :: l) (by simp)
    have : Lib.joinTail [32] ((x :: y :: l).map partS) = ([32] ++ partS x) ++ Lib.joinTail [32] ((y :: l).map partS) := rfl
    rw [this, ih]
    simp [showS]
theorem join_show : ∀ l : List S30, Lib.join (l.map partS) [32] = showS l
  | [] => rfl
  | [x] => by rw [List.map_cons, List.map_nil, Lib.join_one]; rfl
  | x :: y :: l => by
    rw [List.map_cons, Lib.join_cons, tail_show (y :: l) (by simp)]
    rfl
theorem part_len (x : S30) (M : Nat) (h : x.f1.size ≤ M) : (partS x).length ≤ 5 * M + 4 := by
  unfold partS
  have h1 := size_len x.f1
  split
  · omega
  · unfold partL
    have h2 := show_len x.f1.data.toList
    have h3 : (preL x.f0).length ≤ 1 := by unfold preL; split <;> simp
    simp only [List.length_append, List.length_cons, List.length_nil]
    omega
theorem showS_len (M : Nat) : ∀ l : List S30, (∀ x ∈ l, x.f1.size ≤ M) → (showS l).length ≤ l.length * (5 * M + 5)
  | [], _ => by simp [showS]
  | x :: l, h => by
    have ih := showS_len M l (fun y hy => h y (by simp [hy]))
    have hp := part_len x M (h x (by simp))
    obtain ⟨rest, hs, hr⟩ := showS_cons x l
    rw [hs, List.length_append]
    have : rest.length ≤ 1 + (showS l).length := by
      rcases hr with ⟨_, rfl⟩ | ⟨_, rfl⟩
      · simp
      · simp; omega
    rw [List.length_cons, Nat.succ_mul]
    omega
theorem go_ev : ∀ (l : List S30) (ps : List ByteArray) (L : List (List UInt8)), ps.map (·.data.toList) = L → (∀ x ∈ l, rightP x = true) → (∀ x ∈ l, x.f1.size ≤ 4611686018427387904) → ps.length + l.length ≤ 8796093022207 →
    (Lib.join (L ++ l.map partS) [32]).length ≤ 140737488355328 → Ev (fun k => scan_Show.go k l ps) (byt (Lib.join (L ++ l.map partS) [32]), 0)
  | [], ps, L, hL, _, _, hn, hj => by
    simp only [List.map_nil, List.append_nil] at hj ⊢
    rw [← hL] at hj ⊢
    have hn' : ps.length ≤ 140737488355328 := by simp at hn; omega
    unfold scan_Show.go
    simp only [hn', hj, and_self, ↓reduceIte]
    exact Ev.now _
  | x :: l, ps, L, hL, hr, hs, hn, hj => by
    unfold scan_Show.go
    have h1 := right_ev x (hs x (by simp))
    rw [hr x (by simp)] at h1
    refine Ev.bind h1 ?_
    simp only [List.length_cons] at hn
    have hn' : ps.length < 8796093022208 := by omega
    simp only [↓reduceIte, hn']
    have := go_ev l (ps ++ [pv x]) (L ++ [partS x]) (by simp [hL, pv_data]) (fun y hy => hr y (by simp [hy])) (fun y hy => hs y (by simp [hy])) (by simp; omega) (by simpa using hj)
    simpa [pv] using this
theorem go_bad : ∀ (l : List S30) (ps : List ByteArray), (∃ x ∈ l, rightP x = false) → (∀ x ∈ l, x.f1.size ≤ 4611686018427387904) → ps.length + l.length ≤ 8796093022207 →
    Ev (fun k => scan_Show.go k l ps) (byt [], 1)
  | [], ps, h, _, _ => by obtain ⟨x, hx, _⟩ := h; cases hx
  | x :: l, ps, hr, hs, hn => by
    unfold scan_Show.go
    have h1 := right_ev x (hs x (by simp))
    refine Ev.bind h1 ?_
    cases hx : rightP x with
    | false => simp only [Bool.false_eq_true, ↓reduceIte]; exact Ev.now _
    | true =>
      simp only [List.length_cons] at hn
      have hn' : ps.length < 8796093022208 := by omega
      simp only [↓reduceIte, hn']
      obtain ⟨y, hy, hyr⟩ := hr
      rcases List.mem_cons.1 hy with rfl | hy
      · rw [hx] at hyr; cases hyr
      · exact go_bad l (ps ++ [pv x]) ⟨y, hy, hyr⟩ (fun y hy => hs y (by simp [hy])) (by simp; omega)
theorem show_ev (l : List S30) (hr : ∀ x ∈ l, rightP x = true) (hs : ∀ x ∈ l, x.f1.size ≤ 1048576) (hn : l.length ≤ 1048576) : Ev (fun k => scan_Show.f k l) (byt (showS l), 0) := by
  have h1 := showS_len 1048576 l hs
  have h2 : l.length * (5 * 1048576 + 5) ≤ 1048576 * (5 * 1048576 + 5) := Nat.mul_le_mul_right _ hn
  have := go_ev l [] [] rfl hr (fun x hx => by have := hs x hx; omega) (by simp; omega) (by rw [List.nil_append, join_show]; omega)
  rw [List.nil_append, join_show] at this
  exact this
theorem show_bad (l : List S30) (hr : ∃ x ∈ l, rightP x = false) (hs : ∀ x ∈ l, x.f1.size ≤ 1048576) (hn : l.length ≤ 1048576) : Ev (fun k => scan_Show.f k l) (byt [], 1) :=
  go_bad l [] hr (fun x hx => by have := hs x hx; omega) (by simp; omega)
theorem atL_show (N : Int) : ∀ l : List S30, showS (atL N l) = showS l
  | [] => rfl
  | [x] => rfl
  | x :: y :: l => by
    have ih := atL_show N (y :: l)
    show partS _ ++ 32 :: showS (atL N (y :: l)) = _
    rw [ih]
    rfl
theorem atL_len (N : Int) : ∀ l : List S30, (atL N l).length = l.length
  | [] => rfl
  | x :: l => by simp [atL, atL_len N l]
theorem atL_right {N : Int} : ∀ {l : List S30}, (∀ x ∈ l, rightP x = true) → ∀ x ∈ atL N l, rightP x = true
  | [], _, x, hx => by cases hx
  | y :: l, h, x, hx => by
    rcases List.mem_cons.1 hx with rfl | hx
    · exact h y (by simp)
    · exact atL_right (fun z hz => h z (by simp [hz])) x hx
theorem atL_size {N : Int} {M : Nat} : ∀ {l : List S30}, (∀ x ∈ l, x.f1.size ≤ M) → ∀ x ∈ atL N l, x.f1.size ≤ M
  | [], _, x, hx => by cases hx
  | y :: l, h, x, hx => by
    rcases List.mem_cons.1 hx with rfl | hx
    · exact h y (by simp)
    · exact atL_size (fun z hz => h z (by simp [hz])) x hx
/-! ### scan.Cut, whole -/
theorem cutS (s : ByteArray) (hs : s.size ≤ 4096) {q : Int × List S30} (h : CutR (s.size : Int) s.data.toList q) : Ev (fun k => scan_Cut.f k s) (fin [] q) := by
  have hp : pos s s.data.toList = 0 := by unfold pos; rw [size_len]; omega
  have hlen := size_len s
  have h1 := cut_ev s hs h (List.suffix_refl _) [] (by simp; omega)
  rw [hp] at h1
  simp only [scan_Cut.f, show ¬ ((s.size : Int) > 4096) by omega, ↓reduceIte]; exact h1
theorem cut_big (s : ByteArray) (hs : 4096 < s.size) : Ev (fun k => scan_Cut.f k s) ([], 3) := by
  simp only [scan_Cut.f, show (s.size : Int) > 4096 by omega, ↓reduceIte]
  exact Ev.now _
theorem cut_count {N : Int} {l : List UInt8} {q : Int × List S30} (h : CutR N l q) : q.2.length ≤ l.length := by
  induction h with
  | done _ => simp
  | lineEnd _ _ _ _ => simp
  | line hL h0 hw hu hq ih => have := upL_len hu; have := rest_lt hL h0; omega
  | noParen _ _ _ _ => simp
  | paren hL h0 hw hu hq ih => have := upL_len hu; have := rest_lt hL h0; omega
  | bare _ _ _ _ _ _ => simp
  | noPrint _ _ _ _ _ => simp
  | longPrint _ _ _ _ _ _ => simp
  | print hL h0 hw hr hu ht hq ih =>
    have := upL_len hu; have h2 := rest_lt hL h0; rw [hr] at h2; simp at h2
    unfold consT; split <;> simp <;> omega
  | noQuot _ _ _ _ _ _ => simp
  | quot hL h0 hw hr hq hc ih =>
    have := quot_len hq rfl; have h2 := rest_lt hL h0; rw [hr] at h2; simp at h2
    unfold consT; split <;> simp <;> omega
  | word hL h0 hw hq ih =>
    have h2 := rest_lt hL h0
    unfold consT; split <;> simp <;> omega
theorem cut_sizes {N : Int} {l : List UInt8} {q : Int × List S30} (h : CutR N l q) : ∀ x ∈ q.2, x.f1.size ≤ l.length + 255 := by
  induction h with
  | done _ => intro x hx; cases hx
  | lineEnd _ _ _ _ => intro x hx; cases hx
  | line hL h0 hw hu hq ih => intro x hx; have := ih x hx; have := upL_len hu; have := rest_lt hL h0; omega
  | noParen _ _ _ _ => intro x hx; cases hx
  | paren hL h0 hw hu hq ih => intro x hx; have := ih x hx; have := upL_len hu; have := rest_lt hL h0; omega
  | bare _ _ _ _ _ _ => intro x hx; cases hx
  | noPrint _ _ _ _ _ => intro x hx; cases hx
  | longPrint _ _ _ _ _ _ => intro x hx; cases hx
  | print hL h0 hw hr hu ht hq ih =>
    intro x hx
    rcases consT_mem hx with rfl | hx
    · show (byt _).size ≤ _; rw [byt_size]; omega
    · have := ih x hx; have := upL_len hu; have h2 := rest_lt hL h0; rw [hr] at h2; simp at h2; omega
  | noQuot _ _ _ _ _ _ => intro x hx; cases hx
  | quot hL h0 hw hr hq hc ih =>
    intro x hx
    rcases consT_mem hx with rfl | hx
    · show (byt _).size ≤ _; rw [byt_size]; have := quot_short hq rfl; omega
    · have := ih x hx; have := quot_len hq rfl; have h2 := rest_lt hL h0; rw [hr] at h2; simp at h2; omega
  | @word l L q hL h0 hw hq ih =>
    intro x hx
    rcases consT_mem hx with rfl | hx
    · show (byt _).size ≤ _
      rw [byt_size, List.length_map]
      have h3 := rest_len L
      have h4 := drop_len l
      rw [hL] at h4
      omega
    · have := ih x hx; have h2 := rest_lt hL h0; omega
end Go.Proofs.Ytnnhpbghimjhiaa
