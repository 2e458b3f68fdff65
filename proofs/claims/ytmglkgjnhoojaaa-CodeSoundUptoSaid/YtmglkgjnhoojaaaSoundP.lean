/- What stays so by acts: a draft that is formed stays formed; each branch leads into the code, or to its end. -/
import Derived.Test.YtmglkgjnhoojaaaBuildP
namespace Go.Proofs.Ytmglkgjnhoojaaa.PCodeRows
open Go.RowKit Go.Proofs.YtmglkgjnhoojaaaW.PrintWords
set_option linter.unusedVariables false
set_option linter.unusedSimpArgs false
theorem isOf_iff {code : List S37} {ks : List Int} {n : Int} : isOf code ks n = true ↔ 0 ≤ n ∧ n < (code.length : Int) ∧ (rd_T37 code n).f0 ∈ ks := by
  unfold isOf
  simp [Bool.and_eq_true]
theorem isOf_app {code : List S37} {ks : List Int} {n : Int} (x : S37) (h : isOf code ks n = true) : isOf (code ++ [x]) ks n = true := by
  rw [isOf_iff] at h ⊢
  obtain ⟨h0, h1, h2⟩ := h
  refine ⟨h0, by simp; omega, ?_⟩
  have e : rd_T37 (code ++ [x]) n = rd_T37 code n := by
    unfold rd_T37
    rw [List.getD_eq_getElem?_getD, List.getD_eq_getElem?_getD, List.getElem?_append_left (by omega)]
  rw [e]
  exact h2
theorem isOf_last {code : List S37} {ks : List Int} (x : S37) (h : x.f0 ∈ ks) : isOf (code ++ [x]) ks (code.length : Int) = true := by
  rw [isOf_iff]
  refine ⟨by omega, by simp; omega, ?_⟩
  have e : rd_T37 (code ++ [x]) (code.length : Int) = x := by
    unfold rd_T37
    rw [List.getD_eq_getElem?_getD, Int.toNat_natCast, List.getElem?_append_right (Nat.le_refl _), Nat.sub_self]
    rfl
  rw [e]
  exact h
theorem kind_aim1 (t : Int) (code : List S37) (m n : Int) : (rd_T37 (aim1 t code m) n).f0 = (rd_T37 code n).f0 := by
  unfold aim1 rd_T37
  rw [List.getD_eq_getElem?_getD, List.getD_eq_getElem?_getD, List.getD_eq_getElem?_getD, List.getElem?_set]
  by_cases h : m.toNat = n.toNat
  · rw [if_pos h, ← h]
    by_cases hl : m.toNat < code.length
    · rw [if_pos hl]
      simp
    · rw [if_neg hl, List.getElem?_eq_none (by omega)]
  · rw [if_neg h]
theorem isOf_aim1 (t : Int) (code : List S37) (ks : List Int) (m n : Int) : isOf (aim1 t code m) ks n = isOf code ks n := by
  unfold isOf
  rw [kind_aim1]
  unfold aim1
  rw [List.length_set]
theorem isOf_aimed (t : Int) (ks : List Int) (n : Int) (l : List Int) : ∀ code : List S37, isOf (aimed t code l) ks n = isOf code ks n := by
  induction l with
  | nil => intro code; rfl
  | cons m r ih =>
    intro code
    show isOf (aimed t (aim1 t code m) r) ks n = _
    rw [ih, isOf_aim1]
theorem are_app {code : List S37} {ks l : List Int} (x : S37) (h : areP code l ks = true) : areP (code ++ [x]) l ks = true := by
  unfold areP at h ⊢
  rw [List.all_eq_true] at h ⊢
  exact fun y hy => isOf_app x (h y hy)
theorem are_aimed (t : Int) (ks l m : List Int) (code : List S37) : areP (aimed t code m) l ks = areP code l ks := by
  unfold areP
  congr 1
  funext n
  exact isOf_aimed t ks n m code
theorem Fd.aimed {code : List S37} {origs dests : List Int} {loops cases : List S59} (h : Fd code origs dests loops cases) (t : Int) (m : List Int) : Fd (aimed t code m) origs dests loops cases := by
  refine ⟨by rw [aimed_len]; exact h.len, by rw [are_aimed]; exact h.origs, ?_, fun x hx => ?_, fun x hx => ?_⟩
  · have := h.dests
    unfold destsP at this ⊢
    rw [aimed_len]
    exact this
  · rw [isOf_aimed, are_aimed]; exact h.loops x hx
  · rw [isOf_aimed, are_aimed]; exact h.cases x hx
theorem Fd.app {code : List S37} {origs dests : List Int} {loops cases : List S59} (h : Fd code origs dests loops cases) (x : S37) (hl : code.length < 256) : Fd (code ++ [x]) origs dests loops cases := by
  refine ⟨by simp; omega, are_app x h.origs, ?_, fun y hy => ?_, fun y hy => ?_⟩
  · have := h.dests
    unfold destsP at this ⊢
    rw [List.all_eq_true] at this ⊢
    intro n hn
    have := this n hn
    simp at this ⊢
    omega
  · exact ⟨isOf_app x (h.loops y hy).1, are_app x (h.loops y hy).2⟩
  · exact ⟨(h.cases y hy).1.imp_right (isOf_app x), are_app x (h.cases y hy).2⟩
theorem are_sub {code : List S37} {ks l m : List Int} (h : areP code l ks = true) (hm : ∀ x ∈ m, x ∈ l ∨ isOf code ks x = true) : areP code m ks = true := by
  unfold areP at h ⊢
  rw [List.all_eq_true] at h ⊢
  intro x hx
  rcases hm x hx with h1 | h1
  · exact h x h1
  · exact h1
theorem Fd.put {code : List S37} {origs dests xs ys : List Int} {loops cases ls ms : List S59} (h : Fd code origs dests loops cases) (ho : ∀ x ∈ xs, x ∈ origs ∨ isOf code [3, 4] x = true) (hd : ∀ x ∈ ys, x ∈ dests ∨ (0 ≤ x ∧ x ≤ (code.length : Int)))
    (hl : ∀ x ∈ ls, x ∈ loops ∨ (isOf code [5, 6] x.f0 = true ∧ areP code x.f1 [9] = true)) (hc : ∀ x ∈ ms, x ∈ cases ∨ ((x.f0 = -1 ∨ isOf code [10] x.f0 = true) ∧ areP code x.f1 [3] = true)) : Fd code xs ys ls ms := by
  refine ⟨h.len, are_sub h.origs ho, ?_, fun x hx => (hl x hx).elim (h.loops x) id, fun x hx => (hc x hx).elim (h.cases x) id⟩
  have := h.dests
  unfold destsP at this ⊢
  rw [List.all_eq_true] at this ⊢
  intro n hn
  rcases hd n hn with h1 | h1
  · exact this n h1
  · simp; exact h1
theorem are_snoc {code : List S37} {ks l : List Int} {x : Int} (h : areP code l ks = true) (hx : isOf code ks x = true) : areP code (l ++ [x]) ks = true :=
  are_sub h (fun y hy => (List.mem_append.1 hy).imp id (fun e => by rw [List.mem_singleton.1 e]; exact hx))
theorem mem_l {α : Type} {xs : List α} {x : α} {l : List α} (e : l = xs ++ [x]) : ∀ y ∈ xs, y ∈ l := fun y hy => by rw [e]; exact List.mem_append_left _ hy
theorem mem_x {α : Type} {xs : List α} {x : α} {l : List α} (e : l = xs ++ [x]) : x ∈ l := by rw [e]; simp
abbrev Dr.Fd (d : Dr) : Prop := PCodeRows.Fd d.code d.origs d.dests d.loops d.cases
/-- A draft that is formed stays formed. -/
theorem fd_act {d d' : Dr} {a : Int} (h : d.Fd) (ha : actP d a = .inl d') : d'.Fd := by
  have I : ∀ {α : Type} {P : α → Prop} (l : List α), ∀ x ∈ l, x ∈ l ∨ P x := fun l x hx => .inl hx
  have S : ∀ {α : Type} {P : α → Prop} {l xs : List α} {y : α}, (∀ x ∈ xs, x ∈ l) → P y → ∀ x ∈ xs ++ [y], x ∈ l ∨ P x := fun hx hy x h => (List.mem_append.1 h).imp (hx x) (fun e => by rw [List.mem_singleton.1 e]; exact hy)
  cases acted ha
  case a1 hl => exact (h.app ⟨4, 0⟩ hl).put (S (fun _ h => h) (isOf_last _ (by simp))) (I _) (I _) (I _)
  case a2 xs x e hl =>
    refine (h.app ⟨3, 0⟩ hl).put (fun y hy => ?_) (I _) (I _) (I _)
    simp only [List.mem_append, List.mem_cons, List.not_mem_nil, or_false] at hy
    rcases hy with hy | rfl | rfl
    · exact .inl (mem_l e y hy)
    · exact .inr (isOf_last _ (by simp))
    · exact .inl (mem_x e)
  case a3 xs x e => exact (h.aimed _ _).put (fun y hy => .inl (mem_l e y hy)) (I _) (I _) (I _)
  case a4 => exact h.put (I _) (S (fun _ h => h) ⟨by omega, by omega⟩) (I _) (I _)
  case a5 xs x e hl => exact (h.app _ hl).put (I _) (fun y hy => .inl (mem_l e y hy)) (I _) (I _)
  case a6 xs x e hl => exact (h.app _ hl).put (I _) (fun y hy => .inl (mem_l e y hy)) (I _) (I _)
  case a7 hl => exact (h.app ⟨5, 0⟩ hl).put (I _) (I _) (S (fun _ h => h) ⟨isOf_last _ (by simp), rfl⟩) (I _)
  case a8 hl => exact (h.app ⟨6, 0⟩ hl).put (I _) (I _) (S (fun _ h => h) ⟨isOf_last _ (by simp), rfl⟩) (I _)
  case a9 ls x e hl => exact ((h.app ⟨7, _⟩ hl).aimed _ _).put (I _) (I _) (fun y hy => .inl (mem_l e y hy)) (I _)
  case a10 ls x e hl => exact ((h.app ⟨8, _⟩ hl).aimed _ _).put (I _) (I _) (fun y hy => .inl (mem_l e y hy)) (I _)
  case a11 ls x e hl =>
    have hx := h.loops x (mem_x e)
    exact (h.app ⟨9, 0⟩ hl).put (I _) (I _) (S (mem_l e) ⟨isOf_app _ hx.1, are_snoc (are_app _ hx.2) (isOf_last _ (by simp))⟩) (I _)
  case a12 => exact h.put (I _) (I _) (I _) (S (fun _ h => h) ⟨.inl rfl, rfl⟩)
  case a13 ls x e hx hl => exact (h.app ⟨10, 0⟩ hl).put (I _) (I _) (I _) (S (mem_l e) ⟨.inr (isOf_last _ (by simp)), are_app _ (h.cases x (mem_x e)).2⟩)
  case a14 ls x e hx hl => exact ((h.app ⟨3, 0⟩ hl).put (I _) (I _) (I _) (S (mem_l e) ⟨.inl rfl, are_snoc (are_app _ (h.cases x (mem_x e)).2) (isOf_last _ (by simp))⟩)).aimed _ _
  case a15 ls x e hx hl => exact ((h.app ⟨11, 0⟩ hl).aimed _ _).put (I _) (I _) (I _) (fun y hy => .inl (mem_l e y hy))
theorem fd_put {d d' : Dr} {k n : Int} (h : d.Fd) (ha : putP d k n = .inl d') : d'.Fd := by
  obtain ⟨_, hl, rfl⟩ := putP_inl ha
  exact h.app _ hl
/-- Each branch leads into the code, or to its end. -/
def Snd (code : List S37) : Prop := ∀ c ∈ code, 3 ≤ c.f0 → c.f0 ≤ 10 → 0 ≤ c.f1 ∧ c.f1 ≤ (code.length : Int)
theorem Snd.app {code : List S37} {x : S37} (h : Snd code) (hx : 3 ≤ x.f0 → x.f0 ≤ 10 → 0 ≤ x.f1 ∧ x.f1 ≤ (code.length : Int) + 1) : Snd (code ++ [x]) := by
  intro c hc h3 h10
  have e : ((code ++ [x]).length : Int) = code.length + 1 := by simp
  rw [e]
  rcases List.mem_append.1 hc with hc | hc
  · have := h c hc h3 h10; omega
  · rw [List.mem_singleton.1 hc] at h3 h10 ⊢
    exact hx h3 h10
theorem Snd.aim1 {code : List S37} (h : Snd code) {t : Int} (h0 : 0 ≤ t) (ht : t ≤ code.length) (n : Int) : Snd (aim1 t code n) := by
  intro c hc h3 h10
  have e : (PCodeRows.aim1 t code n).length = code.length := by unfold PCodeRows.aim1; rw [List.length_set]
  rw [e]
  unfold PCodeRows.aim1 at hc
  rcases List.mem_or_eq_of_mem_set hc with hc | rfl
  · exact h c hc h3 h10
  · exact ⟨h0, ht⟩
theorem Snd.aimed {t : Int} (h0 : 0 ≤ t) (l : List Int) : ∀ {code : List S37}, Snd code → t ≤ code.length → Snd (aimed t code l) := by
  induction l with
  | nil => intro code h _; exact h
  | cons m r ih =>
    intro code h ht
    exact ih (code := PCodeRows.aim1 t code m) (h.aim1 h0 ht m) (by unfold PCodeRows.aim1; rw [List.length_set]; exact ht)
theorem snd_act {d d' : Dr} {a : Int} (hf : d.Fd) (h : Snd d.code) (ha : actP d a = .inl d') : Snd d'.code := by
  have hd : ∀ x ∈ d.dests, 0 ≤ x ∧ x ≤ (d.code.length : Int) := fun x hx => by
    have := hf.dests
    unfold destsP at this
    rw [List.all_eq_true] at this
    simpa using this x hx
  have len1 : ∀ x : S37, ((d.code.length + 1 : Nat) : Int) ≤ ((d.code ++ [x]).length : Int) := fun x => by simp
  cases acted ha
  case a1 => exact h.app (fun _ _ => by show 0 ≤ (0 : Int) ∧ (0 : Int) ≤ _; omega)
  case a2 => exact h.app (fun _ _ => by show 0 ≤ (0 : Int) ∧ (0 : Int) ≤ _; omega)
  case a3 => exact Snd.aimed (by omega) _ h (by omega)
  case a4 => exact h
  case a5 xs x e hl => exact h.app (fun _ _ => by have := hd x (mem_x e); show 0 ≤ x % 4294967296 ∧ x % 4294967296 ≤ _; omega)
  case a6 xs x e hl => exact h.app (fun _ _ => by have := hd x (mem_x e); show 0 ≤ x % 4294967296 ∧ x % 4294967296 ≤ _; omega)
  case a7 => exact h.app (fun _ _ => by show 0 ≤ (0 : Int) ∧ (0 : Int) ≤ _; omega)
  case a8 => exact h.app (fun _ _ => by show 0 ≤ (0 : Int) ∧ (0 : Int) ≤ _; omega)
  case a9 ls x e hl => exact Snd.aimed (by omega) _ (h.app (x := ⟨7, (x.f0 + 1) % 4294967296⟩) (fun _ _ => by have := isOf_range (hf.loops x (mem_x e)).1; show 0 ≤ (x.f0 + 1) % 4294967296 ∧ (x.f0 + 1) % 4294967296 ≤ _; omega)) (len1 _)
  case a10 ls x e hl => exact Snd.aimed (by omega) _ (h.app (x := ⟨8, (x.f0 + 1) % 4294967296⟩) (fun _ _ => by have := isOf_range (hf.loops x (mem_x e)).1; show 0 ≤ (x.f0 + 1) % 4294967296 ∧ (x.f0 + 1) % 4294967296 ≤ _; omega)) (len1 _)
  case a11 => exact h.app (fun _ _ => by show 0 ≤ (0 : Int) ∧ (0 : Int) ≤ _; omega)
  case a12 => exact h
  case a13 => exact h.app (fun _ _ => by show 0 ≤ (0 : Int) ∧ (0 : Int) ≤ _; omega)
  case a14 ls x e hx hl => exact Snd.aimed (by omega) _ (h.app (x := ⟨3, 0⟩) (fun _ _ => by show 0 ≤ (0 : Int) ∧ (0 : Int) ≤ _; omega)) (len1 _)
  case a15 ls x e hx hl => exact Snd.aimed (by omega) _ (h.app (x := ⟨11, 0⟩) (fun _ _ => by show 0 ≤ (0 : Int) ∧ (0 : Int) ≤ _; omega)) (len1 _)
theorem snd_put {d d' : Dr} {k n : Int} (h : Snd d.code) (ha : putP d k n = .inl d') : Snd d'.code := by
  obtain ⟨hk, hl, rfl⟩ := putP_inl ha
  refine h.app (fun h3 h10 => ?_)
  have h3 : 3 ≤ k := h3
  have h10 : k ≤ 10 := h10
  simp only [List.mem_cons, List.not_mem_nil, or_false] at hk
  omega
theorem layP_errs {code : List S37} {k n c : Int} {f : List S37 → Dr} (h : layP code k n f = .inr c) : c = 3 := by
  unfold layP at h
  split at h
  · cases h
  · injection h with h; omega
theorem popP_errs {α : Type} {l : List α} {f : List α → α → Dr ⊕ Int} {c : Int} (h : popP l f = .inr c) (hf : ∀ xs x, f xs x = .inr c → c = 3 ∨ c = 13) : c = 3 ∨ c = 13 := by
  unfold popP at h
  split at h
  · injection h with h; omega
  · exact hf _ _ h
theorem actP_errs {d : Dr} {a c : Int} (h : actP d a = .inr c) : c = 1 ∨ c = 3 ∨ c = 13 := by
  by_cases h0 : a < 1 ∨ 15 < a
  · rw [actP_none h0] at h
    injection h with h; omega
  refine .inr ?_
  rcases act_split h0 with rfl | rfl | rfl | rfl | rfl | rfl | rfl | rfl | rfl | rfl | rfl | rfl | rfl | rfl | rfl <;> simp [actP] at h <;> try exact .inl (layP_errs h)
  all_goals
    refine popP_errs h (fun xs x h => ?_)
    first
      | exact .inl (layP_errs h)
      | (cases h; done)
      | (split at h <;> first | exact .inl (layP_errs h) | (injection h with h; omega))
theorem stepP_errs {d : Dr} {x : S48} {c : Int} (h : stepP d x = .inr c) : c = 1 ∨ c = 3 ∨ c = 13 := by
  unfold stepP putR actR putP at h
  split at h
  · split at h
    · split at h
      · exact .inr (.inl (layP_errs h))
      · injection h with h; omega
    · injection h with h; omega
  · split at h
    · exact actP_errs h
    · injection h with h; omega
theorem fd_step {d d' : Dr} {x : S48} (ha : stepP d x = .inl d') : d'.Fd := by
  obtain ⟨hf, h⟩ := stepP_inl ha
  rcases h with ⟨_, h⟩ | ⟨_, h⟩
  · exact fd_put (formed_iff.1 hf) h
  · exact fd_act (formed_iff.1 hf) h
theorem snd_step {d d' : Dr} {x : S48} (hs : Snd d.code) (ha : stepP d x = .inl d') : Snd d'.code := by
  obtain ⟨hf, h⟩ := stepP_inl ha
  rcases h with ⟨_, h⟩ | ⟨_, h⟩
  · exact snd_put hs h
  · exact snd_act (formed_iff.1 hf) hs h
theorem fd_zdr : zdr.Fd := ⟨by decide, rfl, rfl, fun x hx => (by cases hx), fun x hx => (by cases hx)⟩
/-- What building keeps. -/
theorem build_keeps (l : List S48) : ∀ (d : Dr) (i : Nat), d.Fd → Snd d.code → (buildP d l i).1.Fd ∧ Snd (buildP d l i).1.code ∧ ((buildP d l i).2.2 = 0 ∨ (buildP d l i).2.2 = 1 ∨ (buildP d l i).2.2 = 3 ∨ (buildP d l i).2.2 = 13) := by
  induction l with
  | nil => intro d i hf hs; exact ⟨hf, hs, .inl rfl⟩
  | cons x r ih =>
    intro d i hf hs
    unfold buildP
    cases hx : stepP d x with
    | inl d' => exact ih d' (i + 1) (fd_step hx) (snd_step hs hx)
    | inr c => exact ⟨hf, hs, .inr (stepP_errs hx)⟩
theorem build_bnd (l : List S48) : ∀ (d : Dr) (i N : Nat), Bnd d N → Bnd (buildP d l i).1 (N + l.length) := by
  induction l with
  | nil => intro d i N h; exact h
  | cons x r ih =>
    intro d i N h
    unfold buildP
    cases hx : stepP d x with
    | inl d' =>
      have := ih d' (i + 1) (N + 1) (h.step hx)
      rw [List.length_cons]
      have e : N + (r.length + 1) = N + 1 + r.length := by omega
      rw [e]
      exact this
    | inr c => exact h.mono (by omega)
end Go.Proofs.Ytmglkgjnhoojaaa.PCodeRows
