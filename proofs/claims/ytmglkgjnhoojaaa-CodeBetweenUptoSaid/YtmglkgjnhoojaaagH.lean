/- What stays so by acts: a draft that is formed stays formed; each branch leads into the code, or to its end. -/
import Derived.Test.YtmglkgjnhoojaaagF
namespace Go.Proofs.Ytmglkgjnhoojaaa.PCodeRows
open Go.RowKit Go.Proofs.YtmglkgjnhoojaaaW.PrintWords
set_option linter.unusedVariables false
set_option linter.unusedSimpArgs false
theorem isOf_iff {code : List S37} {ks : List Int} {n : Int} : isOf code ks n = true ↔ 0 ≤ n ∧ n < (code.length : Int) ∧ (rd_T37 code n).f0 ∈ ks := by
  unfold isOf
  simp [Bool.and_eq_true]
theorem isOf_app {code : List S37} {ks : List Int} {n : Int} (x : S37) (h : isOf code ks n = true) : isOf (code ++ [x]) ks n = true := by
  rw [isOf_iff] at h ⊢
  obtain ⟨h0, h1, h2⟩ := h
  refine ⟨h0, by simp; omega, ?_⟩
  have e : rd_T37 (code ++ [x]) n = rd_T37 code n := by
    unfold rd_T37
    rw [List.getD_eq_getElem?_getD, List.getD_eq_getElem?_getD, List.getElem?_append_left (by omega)]
  rw [e]
  exact h2
theorem isOf_last {code : List S37} {ks : List Int} (x : S37) (h : x.f0 ∈ ks) : isOf (code ++ [x]) ks (code.length : Int) = true := by
  rw [isOf_iff]
  refine ⟨by omega, by simp; omega, ?_⟩
  have e : rd_T37 (code ++ [x]) (code.length : Int) = x := by
    unfold rd_T37
    rw [List.getD_eq_getElem?_getD, Int.toNat_natCast, List.getElem?_append_right (Nat.le_refl _), Nat.sub_self]
    rfl
  rw [e]
  exact h
theorem kind_aim1 (t : Int) (code : List S37) (m n : Int) : (rd_T37 (aim1 t code m) n).f0 = (rd_T37 code n).f0 := by
  unfold aim1 rd_T37
  rw [List.getD_eq_getElem?_getD, List.getD_eq_getElem?_getD, List.getD_eq_getElem?_getD, List.getElem?_set]
  by_cases h : m.toNat = n.toNat
  · rw [if_pos h, ← h]
    by_cases hl : m.toNat < code.length
    · rw [if_pos hl]
      simp
    · rw [if_neg hl, List.getElem?_eq_none (by omega)]
  · rw [if_neg h]
theorem isOf_aim1 (t : Int) (code : List S37) (ks : List Int) (m n : Int) : isOf (aim1 t code m) ks n = isOf code ks n := by
  unfold isOf
  rw [kind_aim1]
  unfold aim1
  rw [List.length_set]
theorem isOf_aimed (t : Int) (ks : List Int) (n : Int) (l : List Int) : ∀ code : List S37, isOf (aimed t code l) ks n = isOf code ks n := by
  induction l with
  | nil => intro code; rfl
  | cons m r ih =>
    intro code
    show isOf (aimed t (aim1 t code m) r) ks n = _
    rw [ih, isOf_aim1]
theorem are_app {code : List S37} {ks l : List Int} (x : S37) (h : areP code l ks = true) : areP (code ++ [x]) l ks = true := by
  unfold areP at h ⊢
  rw [List.all_eq_true] at h ⊢
  exact fun y hy => isOf_app x (h y hy)
theorem are_aimed (t : Int) (ks l m : List Int) (code : List S37) : areP (aimed t code m) l ks = areP code l ks := by
  unfold areP
  congr 1
  funext n
  exact isOf_aimed t ks n m code
theorem Fd.aimed {code : List S37} {origs dests : List Int} {loops cases : List S59} (h : Fd code origs dests loops cases) (t : Int) (m : List Int) : Fd (aimed t code m) origs dests loops cases := by
  refine ⟨by rw [aimed_len]; exact h.len, by rw [are_aimed]; exact h.origs, ?_, fun x hx => ?_, fun x hx => ?_⟩
  · have := h.dests
    unfold destsP at this ⊢
    rw [aimed_len]
    exact this
  · rw [isOf_aimed, are_aimed]; exact h.loops x hx
  · rw [isOf_aimed, are_aimed]; exact h.cases x hx
theorem Fd.app {code : List S37} {origs dests : List Int} {loops cases : List S59} (h : Fd code origs dests loops cases) (x : S37) (hl : code.length < 256) : Fd (code ++ [x]) origs dests loops cases := by
  refine ⟨by simp; omega, are_app x h.origs, ?_, fun y hy => ?_, fun y hy => ?_⟩
  · have := h.dests
    unfold destsP at this ⊢
    rw [List.all_eq_true] at this ⊢
    intro n hn
    have := this n hn
    simp at this ⊢
    omega
  · exact ⟨isOf_app x (h.loops y hy).1, are_app x (h.loops y hy).2⟩
  · exact ⟨(h.cases y hy).1.imp_right (isOf_app x), are_app x (h.cases y hy).2⟩
theorem are_sub {code : List S37} {ks l m : List Int} (h : areP code l ks = true) (hm : ∀ x ∈ m, x ∈ l ∨ isOf code ks x = true) : areP code m ks = true := by
  unfold areP at h ⊢
  rw [List.all_eq_true] at h ⊢
  intro x hx
  rcases hm x hx with h1 | h1
  · exact h x h1
  · exact h1
theorem Fd.put {code : List S37} {origs dests xs ys : List Int} {loops cases ls ms : List S59} (h : Fd code origs dests loops cases) (ho : ∀ x ∈ xs, x ∈ origs ∨ isOf code [3, 4] x = true) (hd : ∀ x ∈ ys, x ∈ dests ∨ (0 ≤ x ∧ x ≤ (code.length : Int)))
    (hl : ∀ x ∈ ls, x ∈ loops ∨ (isOf code [5, 6] x.f0 = true ∧ areP code x.f1 [9] = true)) (hc : ∀ x ∈ ms, x ∈ cases ∨ ((x.f0 = -1 ∨ isOf code [10] x.f0 = true) ∧ areP code x.f1 [3] = true)) : Fd code xs ys ls ms := by
  refine ⟨h.len, are_sub h.origs ho, ?_, fun x hx => (hl x hx).elim (h.loops x) id, fun x hx => (hc x hx).elim (h.cases x) id⟩
  have := h.dests
  unfold destsP at this ⊢
  rw [List.all_eq_true] at this ⊢
  intro n hn
  rcases hd n hn with h1 | h1
  · exact this n h1
  · simp; exact h1
theorem are_snoc {code : List S37} {ks l : List Int} {x : Int} (h : areP code l ks = true) (hx : isOf code ks x = true) : areP code (l ++ [x]) ks = true :=
  are_sub h (fun y hy => (List.mem_append.1 hy).imp id (fun e => by rw [List.mem_singleton.1 e]; exact hx))
theorem mem_l {α : Type} {xs : List α} {x : α} {l : List α} (e : l = xs ++ [x]) : ∀ y ∈ xs, y ∈ l := fun y hy => by rw [e]; exact List.mem_append_left _ hy
theorem mem_x {α : Type} {xs : List α} {x : α} {l : List α} (e : l = xs ++ [x]) : x ∈ l := by rw [e]; simp
abbrev Dr.Fd (d : Dr) : Prop := PCodeRows.Fd d.code d.origs d.dests d.loops d.cases
/-- A draft that is formed stays formed. -/
theorem fd_act {d d' : Dr} {a : Int} (h : d.Fd) (ha : actP d a = .inl d') : d'.Fd := by
  have I : ∀ {α : Type} {P : α → Prop} (l : List α), ∀ x ∈ l, x ∈ l ∨ P x := fun l x hx => .inl hx
  have S : ∀ {α : Type} {P : α → Prop} {l xs : List α} {y : α}, (∀ x ∈ xs, x ∈ l) → P y → ∀ x ∈ xs ++ [y], x ∈ l ∨ P x := fun hx hy x h => (List.mem_append.1 h).imp (hx x) (fun e => by rw [List.mem_singleton.1 e]; exact hy)
  cases acted ha
  case a1 hl => exact (h.app ⟨4, 0⟩ hl).put (S (fun _ h => h) (isOf_last _ (by simp))) (I _) (I _) (I _)
  case a2 xs x e hl =>
    refine (h.app ⟨3, 0⟩ hl).put (fun y hy => ?_) (I _) (I _) (I _)
    simp only [List.mem_append, List.mem_cons, List.not_mem_nil, or_false] at hy
    rcases hy with hy | rfl | rfl
    · exact .inl (mem_l e y hy)
    · exact .inr (isOf_last _ (by simp))
    · exact .inl (mem_x e)
  case a3 xs x e => exact (h.aimed _ _).put (fun y hy => .inl (mem_l e y hy)) (I _) (I _) (I _)
  case a4 => exact h.put (I _) (S (fun _ h => h) ⟨by omega, by omega⟩) (I _) (I _)
  case a5 xs x e hl => exact (h.app _ hl).put (I _) (fun y hy => .inl (mem_l e y hy)) (I _) (I _)
  case a6 xs x e hl => exact (h.app _ hl).put (I _) (fun y hy => .inl (mem_l e y hy)) (I _) (I _)
  case a7 hl => exact (h.app ⟨5, 0⟩ hl).put (I _) (I _) (S (fun _ h => h) ⟨isOf_last _ (by simp), rfl⟩) (I _)
  case a8 hl => exact (h.app ⟨6, 0⟩ hl).put (I _) (I _) (S (fun _ h => h) ⟨isOf_last _ (by simp), rfl⟩) (I _)
  case a9 ls x e hl => exact ((h.app ⟨7, _⟩ hl).aimed _ _).put (I _) (I _) (fun y hy => .inl (mem_l e y hy)) (I _)
  case a10 ls x e hl => exact ((h.app ⟨8, _⟩ hl).aimed _ _).put (I _) (I _) (fun y hy => .inl (mem_l e y hy)) (I _)
  case a11 ls x e hl =>
    have hx := h.loops x (mem_x e)
    exact (h.app ⟨9, 0⟩ hl).put (I _) (I _) (S (mem_l e) ⟨isOf_app _ hx.1, are_snoc (are_app _ hx.2) (isOf_last _ (by simp))⟩) (I _)
  case a12 => exact h.put (I _) (I _) (I _) (S (fun _ h => h) ⟨.inl rfl, rfl⟩)
  case a13 ls x e hx hl => exact (h.app ⟨10, 0⟩ hl).put (I _) (I _) (I _) (S (mem_l e) ⟨.inr (isOf_last _ (by simp)), are_app _ (h.cases x (mem_x e)).2⟩)
  case a14 ls x e hx hl => exact ((h.app ⟨3, 0⟩ hl).put (I _) (I _) (I _) (S (mem_l e) ⟨.inl rfl, are_snoc (are_app _ (h.cases x (mem_x e)).2) (isOf_last _ (by simp))⟩)).aimed _ _
  case a15 ls x e hx hl => exact ((h.app ⟨11, 0⟩ hl).aimed _ _).put (I _) (I _) (I _) (fun y hy => .inl (mem_l e y hy))
theorem fd_put {d d' : Dr} {k n : Int} (h : d.Fd) (ha : putP d k n = .inl d') : d'.Fd := by
  obtain ⟨_, hl, rfl⟩ := putP_inl ha
  exact h.app _ hl
/-- Each branch leads into the code, or to its end. -/
def Snd (code : List S37) : Prop := ∀ c ∈ code, 3 ≤ c.f0 → c.f0 ≤ 10 → 0 ≤ c.f1 ∧ c.f1 ≤ (code.length : Int)
theorem Snd.app {code : List S37} {x : S37} (h : Snd code) (hx : 3 ≤ x.f0 → x.f0 ≤ 10 → 0 ≤ x.f1 ∧ x.f1 ≤ (code.length : Int) + 1) : Snd (code ++ [x]) := by
  intro c hc h3 h10
  have e : ((code ++ [x]).length : Int) = code.length + 1 := by simp
  rw [e]
  rcases List.mem_append.1 hc with hc | hc
  · have := h c hc h3 h10; omega
  · rw [List.mem_singleton.1 hc] at h3 h10 ⊢
    exact hx h3 h10
theorem Snd.aim1 {code : List S37} (h : Snd code) {t : Int} (h0 : 0 ≤ t) (ht : t ≤ code.length) (n : Int) : Snd (aim1 t code n) := by
  intro c hc h3 h10
  have e : (PCodeRows.aim1 t code n).length = code.length := by unfold PCodeRows.aim1; rw [List.length_set]
  rw [e]
  unfold PCodeRows.aim1 at hc
  rcases List.mem_or_eq_of_mem_set hc with hc | rfl
  · exact h c hc h3 h10
  · exact ⟨h0, ht⟩
theorem Snd.aimed {t : Int} (h0 : 0 ≤ t) (l : List Int) : ∀ {code : List S37}, Snd code → t ≤ code.length → Snd (aimed t code l) := by
  induction l with
  | nil => intro code h _; exact h
  | cons m r ih =>
    intro code h ht
    exact ih (code := PCodeRows.aim1 t code m) (h.aim1 h0 ht m) (by unfold PCodeRows.aim1; rw [List.length_set]; exact ht)
theorem snd_act {d d' : Dr} {a : Int} (hf : d.Fd) (h : Snd d.code) (ha : actP d a = .inl d') : Snd d'.code := by
  have hd : ∀ x ∈ d.dests, 0 ≤ x ∧ x ≤ (d.code.length : Int) := fun x hx => by
    have := hf.dests
    unfold destsP at this
    rw [List.all_eq_true] at this
    simpa using this x hx
  have len1 : ∀ x : S37, ((d.code.length + 1 : Nat) : Int) ≤ ((d.code ++ [x]).length : Int) := fun x => by simp
  cases acted ha
  case a1 => exact h.app (fun _ _ => by show 0 ≤ (0 : Int) ∧ (0 : Int) ≤ _; omega)
  case a2 => exact h.app (fun _ _ => by show 0 ≤ (0 : Int) ∧ (0 : Int) ≤ _; omega)
  case a3 => exact Snd.aimed (by omega) _ h (by omega)
  case a4 => exact h
  case a5 xs x e hl => exact h.app (fun _ _ => by have := hd x (mem_x e); show 0 ≤ x % 4294967296 ∧ x % 4294967296 ≤ _; omega)
  case a6 xs x e hl => exact h.app (fun _ _ => by have := hd x (mem_x e); show 0 ≤ x % 4294967296 ∧ x % 4294967296 ≤ _; omega)
  case a7 => exact h.app (fun _ _ => by show 0 ≤ (0 : Int) ∧ (0 : Int) ≤ _; omega)
  case a8 => exact h.app (fun _ _ => by show 0 ≤ (0 : Int) ∧ (0 : Int) ≤ _; omega)
  case a9 ls x e hl => exact Snd.aimed (by omega) _ (h.app (x := ⟨7, (x.f0 + 1) % 4294967296⟩) (fun _ _ => by have := isOf_range (hf.loops x (mem_x e)).1; show 0 ≤ (x.f0 + 1) % 4294967296 ∧ (x.f0 + 1) % 4294967296 ≤ _; omega)) (len1 _)
  case a10 ls x e hl => exact Snd.aimed (by omega) _ (h.app (x := ⟨8, (x.f0 + 1) % 4294967296⟩) (fun _ _ => by have := isOf_range (hf.loops x (mem_x e)).1; show 0 ≤ (x.f0 + 1) % 4294967296 ∧ (x.f0 + 1) % 4294967296 ≤ _; omega)) (len1 _)
  case a11 => exact h.app (fun _ _ => by show 0 ≤ (0 : Int) ∧ (0 : Int) ≤ _; omega)
  case a12 => exact h
  case a13 => exact h.app (fun _ _ => by show 0 ≤ (0 : Int) ∧ (0 : Int) ≤ _; omega)
  case a14 ls x e hx hl => exact Snd.aimed (by omega) _ (h.app (x := ⟨3, 0⟩) (fun _ _ => by show 0 ≤ (0 : Int) ∧ (0 : Int) ≤ _; omega)) (len1 _)
  case a15 ls x e hx hl => exact Snd.aimed (by omega) _ (h.app (x := ⟨11, 0⟩) (fun _ _ => by show 0 ≤ (0 : Int) ∧ (0 : Int) ≤ _; omega)) (len1 _)
theorem snd_put {d d' : Dr} {k n : Int} (h : Snd d.code) (ha : putP d k n = .inl d') : Snd d'.code := by
  obtain ⟨hk, hl, rfl⟩ := putP_inl ha
  refine h.app (fun h3 h10 => ?_)
  have h3 : 3 ≤ k := h3
  have h10 : k ≤ 10 := h10
  simp only [List.mem_cons, List.not_mem_nil, or_false] at hk
  omega
theorem layP_errs {code : List S37} {k n c : Int} {f : List S37 → Dr} (h : layP code k n f = .inr c) : c = 3 := by
  unfold layP at h
  split at h
  · cases h
  · injection h with h; omega
theorem popP_errs {α : Type} {l : List α} {f : List α → α → Dr ⊕ Int} {c : Int} (h : popP l f = .inr c) (hf : ∀ xs x, f xs x = .inr c → c = 3 ∨ c = 13) : c = 3 ∨ c = 13 := by
  unfold popP at h
  split at h
  · injection h with h; omega
  · exact hf _ _ h
theorem actP_errs {d : Dr} {a c : Int} (h : actP d a = .inr c) : c = 1 ∨ c = 3 ∨ c = 13 := by
  by_cases h0 : a < 1 ∨ 15 < a
  · rw [actP_none h0] at h
    injection h with h; omega
  refine .inr ?_
  rcases act_split h0 with rfl | rfl | rfl | rfl | rfl | rfl | rfl | rfl | rfl | rfl | rfl | rfl | rfl | rfl | rfl <;> simp [actP] at h <;> try exact .inl (layP_errs h)
  all_goals
    refine popP_errs h (fun xs x h => ?_)
    first
      | exact .inl (layP_errs h)
      | (cases h; done)
      | (split at h <;> first | exact .inl (layP_errs h) | (injection h with h; omega))
theorem stepP_errs {d : Dr} {x : S48} {c : Int} (h : stepP d x = .inr c) : c = 1 ∨ c = 3 ∨ c = 13 := by
  unfold stepP putR actR putP at h
  split at h
  · split at h
    · split at h
      · exact .inr (.inl (layP_errs h))
      · injection h with h; omega
    · injection h with h; omega
  · split at h
    · exact actP_errs h
    · injection h with h; omega
theorem fd_step {d d' : Dr} {x : S48} (ha : stepP d x = .inl d') : d'.Fd := by
  obtain ⟨hf, h⟩ := stepP_inl ha
  rcases h with ⟨_, h⟩ | ⟨_, h⟩
  · exact fd_put (formed_iff.1 hf) h
  · exact fd_act (formed_iff.1 hf) h
theorem snd_step {d d' : Dr} {x : S48} (hs : Snd d.code) (ha : stepP d x = .inl d') : Snd d'.code := by
  obtain ⟨hf, h⟩ := stepP_inl ha
  rcases h with ⟨_, h⟩ | ⟨_, h⟩
  · exact snd_put hs h
  · exact snd_act (formed_iff.1 hf) hs h
theorem fd_zdr : zdr.Fd := ⟨by decide, rfl, rfl, fun x hx => (by cases hx), fun x hx => (by cases hx)⟩
/-- What building keeps. -/
theorem build_keeps (l : List S48) : ∀ (d : Dr) (i : Nat), d.Fd → Snd d.code → (buildP d l i).1.Fd ∧ Snd (buildP d l i).1.code ∧ ((buildP d l i).2.2 = 0 ∨ (buildP d l i).2.2 = 1 ∨ (buildP d l i).2.2 = 3 ∨ (buildP d l i).2.2 = 13) := by
  induction l with
  | nil => intro d i hf hs; exact ⟨hf, hs, .inl rfl⟩
  | cons x r ih =>
    intro d i hf hs
    unfold buildP
    cases hx : stepP d x with
    | inl d' => exact ih d' (i + 1) (fd_step hx) (snd_step hs hx)
    | inr c => exact ⟨hf, hs, .inr (stepP_errs hx)⟩
theorem build_bnd (l : List S48) : ∀ (d : Dr) (i N : Nat), Bnd d N → Bnd (buildP d l i).1 (N + l.length) := by
  induction l with
  | nil => intro d i N h; exact h
  | cons x r ih =>
    intro d i N h
    unfold buildP
    cases hx : stepP d x with
    | inl d' =>
      have := ih d' (i + 1) (N + 1) (h.step hx)
      rw [List.length_cons]
      have e : N + (r.length + 1) = N + 1 + r.length := by omega
      rw [e]
      exact this
    | inr c => exact h.mono (by omega)
end Go.Proofs.Ytmglkgjnhoojaaa.PCodeRows
/- What is complete by itself and built in between lies in between, its branches shifted (the plain law). -/
namespace Go.Proofs.Ytmglkgjnhoojaaa.PCodeRows
open Go.RowKit Go.Proofs.YtmglkgjnhoojaaaW.PrintWords
set_option linter.unusedVariables false
set_option linter.unusedSimpArgs false
theorem of_acted {d d' : Dr} {a : Int} (h : Acted d a d') : actP d a = .inl d' := by
  cases h
  case a1 hl => simp [actP, layP, hl]
  case a2 xs x e hl => simp [actP, e, popP_snoc, layP, hl]
  case a3 xs x e => simp [actP, e, popP_snoc]
  case a4 => simp [actP]
  case a5 xs x e hl => simp [actP, e, popP_snoc, layP, hl]
  case a6 xs x e hl => simp [actP, e, popP_snoc, layP, hl]
  case a7 hl => simp [actP, layP, hl]
  case a8 hl => simp [actP, layP, hl]
  case a9 ls x e hl => simp [actP, e, popP_snoc, layP, hl]
  case a10 ls x e hl => simp [actP, e, popP_snoc, layP, hl]
  case a11 ls x e hl => simp [actP, e, popP_snoc, layP, hl]
  case a12 => simp [actP]
  case a13 ls x e hx hl => simp [actP, e, popP_snoc, layP, hl, hx]
  case a14 ls x e hx hl => simp [actP, e, popP_snoc, layP, hl, hx]
  case a15 ls x e hx hl => simp [actP, e, popP_snoc, layP, hl, hx]
/-- An instruction's number behind a shift. -/
def sh (n : Nat) (a : S37) : Int := if 3 ≤ a.f0 ∧ a.f0 ≤ 10 then (a.f1 + n) % 4294967296 else a.f1
structure Rel (n : Nat) (c c2 : List S37) (O : Int → Prop) : Prop where
  len : c2.length = c.length
  all : ∀ (i : Nat) (a : S37), c[i]? = some a → ∃ b, c2[i]? = some b ∧ b.f0 = a.f0 ∧ (b.f1 = sh n a ∨ (O i ∧ b.f1 = a.f1))
theorem Rel.mono {n : Nat} {c c2 : List S37} {O O' : Int → Prop} (h : Rel n c c2 O) (ho : ∀ i, O i → O' i) : Rel n c c2 O' :=
  ⟨h.len, fun i a hi => by obtain ⟨b, h1, h2, h3⟩ := h.all i a hi; exact ⟨b, h1, h2, h3.imp id (fun h => ⟨ho _ h.1, h.2⟩)⟩⟩
theorem Rel.mono0 {n : Nat} {c c2 : List S37} {O O' : Int → Prop} (h : Rel n c c2 O) (ho : ∀ i, 0 ≤ i → O i → O' i) : Rel n c c2 O' :=
  ⟨h.len, fun i a hi => by obtain ⟨b, h1, h2, h3⟩ := h.all i a hi; exact ⟨b, h1, h2, h3.imp id (fun h => ⟨ho _ (by omega) h.1, h.2⟩)⟩⟩
theorem Rel.snoc {n : Nat} {c c2 : List S37} {O : Int → Prop} (h : Rel n c c2 O) {a b : S37} (h0 : b.f0 = a.f0) (h1 : b.f1 = sh n a ∨ (O c.length ∧ b.f1 = a.f1)) : Rel n (c ++ [a]) (c2 ++ [b]) O := by
  refine ⟨by simp [h.len], fun i x hi => ?_⟩
  by_cases hlt : i < c.length
  · rw [List.getElem?_append_left hlt] at hi
    rw [List.getElem?_append_left (by rw [h.len]; exact hlt)]
    exact h.all i x hi
  · rw [List.getElem?_append_right (by omega)] at hi
    have hi0 : i - c.length = 0 := by
      by_cases h : i - c.length = 0
      · exact h
      · rw [List.getElem?_eq_none (by simp; omega)] at hi; cases hi
    have e : i = c.length := by omega
    subst e
    rw [Nat.sub_self] at hi
    simp at hi
    subst hi
    exact ⟨b, by rw [List.getElem?_append_right (by rw [h.len]; exact Nat.le_refl _), h.len, Nat.sub_self]; rfl, h0, h1⟩
theorem rd_at {c : List S37} {m : Int} (h0 : 0 ≤ m) (h1 : m < (c.length : Int)) : c[m.toNat]? = some (rd_T37 c m) := by
  unfold rd_T37
  rw [List.getD_eq_getElem?_getD, List.getElem?_eq_getElem (by omega)]
  rfl
theorem Rel.aim1 {n : Nat} {c c2 : List S37} {O : Int → Prop} (h : Rel n c c2 O) {t m : Int} (h0 : 0 ≤ m) (h1 : m < (c.length : Int)) (hk : 3 ≤ (rd_T37 c m).f0 ∧ (rd_T37 c m).f0 ≤ 10) (ht0 : 0 ≤ t) (ht : t + n < 4294967296) :
    Rel n (aim1 t c m) (aim1 (t + n) c2 m) (fun i => O i ∧ i ≠ m) := by
  refine ⟨by unfold PCodeRows.aim1; rw [List.length_set, List.length_set, h.len], fun i a hi => ?_⟩
  unfold PCodeRows.aim1 at hi ⊢
  rw [List.getElem?_set] at hi ⊢
  by_cases e : m.toNat = i
  · rw [if_pos e] at hi ⊢
    have hc : m.toNat < c.length := by omega
    rw [if_pos hc] at hi
    rw [if_pos (by rw [h.len]; exact hc)]
    injection hi with hi
    subst hi
    obtain ⟨b, hb, hb0, _⟩ := h.all m.toNat _ (rd_at h0 h1)
    have e2 : rd_T37 c2 m = b := by
      have := rd_at (c := c2) h0 (by rw [h.len]; exact h1)
      rw [hb] at this
      injection this with this
      exact this.symm
    refine ⟨_, rfl, by show (rd_T37 c2 m).f0 = (rd_T37 c m).f0; rw [e2, hb0], .inl ?_⟩
    show t + n = sh n ⟨(rd_T37 c m).f0, t⟩
    unfold sh
    rw [if_pos hk]
    show t + n = (t + n) % 4294967296
    omega
  · rw [if_neg e] at hi ⊢
    obtain ⟨b, hb, hb0, hb1⟩ := h.all i a hi
    exact ⟨b, hb, hb0, hb1.imp id (fun h => ⟨⟨h.1, by omega⟩, h.2⟩)⟩
theorem Rel.aimed {n : Nat} {t : Int} (ht0 : 0 ≤ t) (ht : t + n < 4294967296) (l : List Int) : ∀ {c c2 : List S37} {O : Int → Prop}, Rel n c c2 O → (∀ m ∈ l, 0 ≤ m ∧ m < (c.length : Int) ∧ 3 ≤ (rd_T37 c m).f0 ∧ (rd_T37 c m).f0 ≤ 10) →
    Rel n (aimed t c l) (aimed (t + n) c2 l) (fun i => O i ∧ i ∉ l) := by
  induction l with
  | nil => intro c c2 O h _; exact h.mono (fun i hi => ⟨hi, by simp⟩)
  | cons m r ih =>
    intro c c2 O h hl
    obtain ⟨h0, h1, hk⟩ := hl m (by simp)
    have h2 := ih (h.aim1 h0 h1 hk ht0 ht) (fun m' hm' => by
      rw [kind_aim1]
      have e : (PCodeRows.aim1 t c m).length = c.length := by unfold PCodeRows.aim1; rw [List.length_set]
      rw [e]
      exact hl m' (List.mem_cons_of_mem _ hm'))
    exact h2.mono (fun i hi => ⟨hi.1.1, by simp; exact ⟨hi.1.2, hi.2⟩⟩)
theorem aim1_app (t : Int) (c0 c : List S37) (m : Int) (h0 : 0 ≤ m) : aim1 t (c0 ++ c) (m + c0.length) = c0 ++ aim1 t c m := by
  unfold aim1
  have e : rd_T37 (c0 ++ c) (m + c0.length) = rd_T37 c m := by
    unfold rd_T37
    rw [List.getD_eq_getElem?_getD, List.getD_eq_getElem?_getD, List.getElem?_append_right (by omega)]
    congr 2
    omega
  rw [e, List.set_append_right _ _ (by omega)]
  congr 2
  omega
theorem aimed_app (t : Int) (c0 : List S37) (l : List Int) : ∀ c : List S37, (∀ m ∈ l, 0 ≤ m) → aimed t (c0 ++ c) (l.map fun m => m + c0.length) = c0 ++ aimed t c l := by
  induction l with
  | nil => intro c _; rfl
  | cons m r ih =>
    intro c h
    show aimed t (aim1 t (c0 ++ c) (m + c0.length)) _ = _
    rw [aim1_app t c0 c m (h m (by simp))]
    exact ih _ (fun m' hm' => h m' (List.mem_cons_of_mem _ hm'))
def shO (n : Nat) (x : S59) : S59 := ⟨x.f0 + n, x.f1.map fun m => m + n⟩
def shC (n : Nat) (x : S59) : S59 := ⟨if x.f0 = -1 then -1 else x.f0 + n, x.f1.map fun m => m + n⟩
/-- The instructions that wait for their place. -/
def Opn (s : Dr) (i : Int) : Prop := i ∈ s.origs ∨ (∃ x ∈ s.loops, i = x.f0 ∨ i ∈ x.f1) ∨ ∃ x ∈ s.cases, i = x.f0 ∨ i ∈ x.f1
structure Sim (d s s2 : Dr) : Prop where
  code : ∃ c2, s2.code = d.code ++ c2 ∧ Rel d.code.length s.code c2 (Opn s)
  origs : s2.origs = d.origs ++ s.origs.map fun m => m + (d.code.length : Int)
  dests : s2.dests = d.dests ++ s.dests.map fun m => m + (d.code.length : Int)
  loops : s2.loops = d.loops ++ s.loops.map (shO d.code.length)
  cases : s2.cases = d.cases ++ s.cases.map (shC d.code.length)
theorem Sim.start (d : Dr) : Sim d zdr d := ⟨⟨[], by simp, rfl, fun i a h => by simp [zdr] at h⟩, by simp [zdr], by simp [zdr], by simp [zdr], by simp [zdr]⟩
theorem Sim.len {d s s2 : Dr} (h : Sim d s s2) : s2.code.length = d.code.length + s.code.length := by
  obtain ⟨c2, e, hr⟩ := h.code
  rw [e, List.length_append, hr.len]
theorem range_of {code : List S37} {ks : List Int} {n : Int} (h : isOf code ks n = true) (hk : ∀ k ∈ ks, 3 ≤ k ∧ k ≤ 10) : 0 ≤ n ∧ n < (code.length : Int) ∧ 3 ≤ (rd_T37 code n).f0 ∧ (rd_T37 code n).f0 ≤ 10 := by
  rw [isOf_iff] at h
  exact ⟨h.1, h.2.1, hk _ h.2.2⟩
theorem ranges_of {code : List S37} {ks l : List Int} (h : areP code l ks = true) (hk : ∀ k ∈ ks, 3 ≤ k ∧ k ≤ 10) : ∀ n ∈ l, 0 ≤ n ∧ n < (code.length : Int) ∧ 3 ≤ (rd_T37 code n).f0 ∧ (rd_T37 code n).f0 ≤ 10 := fun n hn => by
  unfold areP at h
  exact range_of (List.all_eq_true.1 h n hn) hk
theorem range_app {code : List S37} {n : Int} (a : S37) (h : 0 ≤ n ∧ n < (code.length : Int) ∧ 3 ≤ (rd_T37 code n).f0 ∧ (rd_T37 code n).f0 ≤ 10) : 0 ≤ n ∧ n < ((code ++ [a]).length : Int) ∧ 3 ≤ (rd_T37 (code ++ [a]) n).f0 ∧ (rd_T37 (code ++ [a]) n).f0 ≤ 10 := by
  have e : rd_T37 (code ++ [a]) n = rd_T37 code n := by
    unfold rd_T37
    rw [List.getD_eq_getElem?_getD, List.getD_eq_getElem?_getD, List.getElem?_append_left (by omega)]
  rw [e]
  exact ⟨h.1, by simp; omega, h.2.2⟩
theorem split_map {α : Type} {l0 l l2 xs : List α} {x : α} {f : α → α} (h : l2 = l0 ++ l.map f) (e : l = xs ++ [x]) : l2 = (l0 ++ xs.map f) ++ [f x] := by
  rw [h, e, List.map_append, List.append_assoc]
  rfl
theorem snoc_map {α : Type} {l0 l l2 : List α} {f : α → α} {x y : α} (h : l2 = l0 ++ l.map f) (hy : y = f x) : l2 ++ [y] = l0 ++ (l ++ [x]).map f := by
  rw [h, hy, List.map_append, List.append_assoc]
  rfl
theorem sh_pos {n : Nat} {k v : Int} (h3 : 3 ≤ k) (h10 : k ≤ 10) : sh n ⟨k, v⟩ = (v + n) % 4294967296 := by unfold sh; rw [if_pos ⟨h3, h10⟩]
theorem sh_neg {n : Nat} {k v : Int} (h : ¬ (3 ≤ k ∧ k ≤ 10)) : sh n ⟨k, v⟩ = v := by unfold sh; rw [if_neg h]
/-- An act in between. -/
theorem sim_act {d s s' s2 : Dr} {a : Int} (h : Sim d s s2) (hf : s.Fd) (ha : actP s a = .inl s') (hl : d.code.length + s'.code.length ≤ 256) : ∃ s2', actP s2 a = .inl s2' ∧ Sim d s' s2' := by
  have hlen := h.len
  obtain ⟨c2, hc, hr⟩ := h.code
  have k3 : ∀ k ∈ ([3, 4] : List Int), 3 ≤ k ∧ k ≤ 10 := by decide
  have k5 : ∀ k ∈ ([5, 6] : List Int), 3 ≤ k ∧ k ≤ 10 := by decide
  have k9 : ∀ k ∈ ([9] : List Int), 3 ≤ k ∧ k ≤ 10 := by decide
  have k10 : ∀ k ∈ ([10] : List Int), 3 ≤ k ∧ k ≤ 10 := by decide
  have k33 : ∀ k ∈ ([3] : List Int), 3 ≤ k ∧ k ≤ 10 := by decide
  have hd : ∀ x ∈ s.dests, 0 ≤ x ∧ x ≤ (s.code.length : Int) := fun x hx => by
    have := hf.dests
    unfold destsP at this
    rw [List.all_eq_true] at this
    simpa using this x hx
  have h256 : s.code.length ≤ 256 := hf.len
  have hnew : ((s2.code.length : Nat) : Int) = (s.code.length : Int) + (d.code.length : Int) := by rw [hlen]; omega
  cases acted ha
  case a1 hl1 =>
    simp only [List.length_append, List.length_singleton] at hl
    refine ⟨_, of_acted (.a1 (by omega)), ⟨c2 ++ [⟨4, 0⟩], by rw [hc, List.append_assoc], (hr.mono ?_).snoc rfl (.inr ⟨.inl (by simp), rfl⟩)⟩, snoc_map h.origs hnew, h.dests, h.loops, h.cases⟩
    exact fun i hi => hi.imp (fun h => List.mem_append_left _ h) id
  case a2 xs x e hl1 =>
    simp only [List.length_append, List.length_singleton] at hl
    refine ⟨_, of_acted (.a2 _ _ (split_map h.origs e) (by omega)), ⟨c2 ++ [⟨3, 0⟩], by rw [hc, List.append_assoc], (hr.mono ?_).snoc rfl (.inr ⟨.inl (by simp), rfl⟩)⟩, ?_, h.dests, h.loops, h.cases⟩
    · exact fun i hi => hi.imp (fun h => by rw [e] at h; simp at h ⊢; rcases h with h | h <;> simp [h]) id
    · simp [hnew]
  case a3 xs x e =>
    have hx := ranges_of hf.origs k3 x (mem_x e)
    have ht := hr.aimed (t := s.code.length) (by omega) (by have : d.code.length + (aimed s.code.length s.code [x]).length ≤ 256 := hl; rw [aimed_len] at this; omega) [x] (fun m hm => by rw [List.mem_singleton.1 hm]; exact hx)
    refine ⟨_, of_acted (.a3 _ _ (split_map h.origs e)), ⟨aimed (s.code.length + d.code.length) c2 [x], ?_, ht.mono ?_⟩, rfl, h.dests, h.loops, h.cases⟩
    · show aimed (s2.code.length : Int) s2.code [x + (d.code.length : Int)] = _
      rw [hnew, hc]
      exact aimed_app _ _ [x] c2 (fun m hm => by rw [List.mem_singleton.1 hm]; exact hx.1)
    · rintro i ⟨hi, hn⟩
      rcases hi with hi | hi | hi
      · rw [e] at hi
        simp at hi hn
        rcases hi with hi | hi
        · exact .inl hi
        · exact absurd hi hn
      · exact .inr (.inl hi)
      · exact .inr (.inr hi)
  case a4 => exact ⟨_, of_acted .a4, ⟨c2, hc, hr⟩, h.origs, snoc_map h.dests hnew, h.loops, h.cases⟩
  case a5 xs x e hl1 =>
    simp only [List.length_append, List.length_singleton] at hl
    have hx := hd x (mem_x e)
    exact ⟨_, of_acted (.a5 _ _ (split_map h.dests e) (by omega)), ⟨c2 ++ [⟨3, (x + (d.code.length : Int)) % 4294967296⟩], by rw [hc, List.append_assoc], hr.snoc rfl (.inl (by rw [sh_pos (by decide) (by decide)]; show (x + _) % _ = _; omega))⟩, h.origs, rfl, h.loops, h.cases⟩
  case a6 xs x e hl1 =>
    simp only [List.length_append, List.length_singleton] at hl
    have hx := hd x (mem_x e)
    exact ⟨_, of_acted (.a6 _ _ (split_map h.dests e) (by omega)), ⟨c2 ++ [⟨4, (x + (d.code.length : Int)) % 4294967296⟩], by rw [hc, List.append_assoc], hr.snoc rfl (.inl (by rw [sh_pos (by decide) (by decide)]; show (x + _) % _ = _; omega))⟩, h.origs, rfl, h.loops, h.cases⟩
  case a7 hl1 =>
    simp only [List.length_append, List.length_singleton] at hl
    refine ⟨_, of_acted (.a7 (by omega)), ⟨c2 ++ [⟨5, 0⟩], by rw [hc, List.append_assoc], (hr.mono ?_).snoc rfl (.inr ⟨.inr (.inl ⟨_, List.mem_append_right _ (List.mem_singleton.2 rfl), .inl rfl⟩), rfl⟩)⟩, h.origs, h.dests, snoc_map h.loops (by unfold shO; rw [hnew]; rfl), h.cases⟩
    exact fun i hi => hi.imp id (fun h => h.imp (fun ⟨x, hx, hy⟩ => ⟨x, List.mem_append_left _ hx, hy⟩) id)
  case a8 hl1 =>
    simp only [List.length_append, List.length_singleton] at hl
    refine ⟨_, of_acted (.a8 (by omega)), ⟨c2 ++ [⟨6, 0⟩], by rw [hc, List.append_assoc], (hr.mono ?_).snoc rfl (.inr ⟨.inr (.inl ⟨_, List.mem_append_right _ (List.mem_singleton.2 rfl), .inl rfl⟩), rfl⟩)⟩, h.origs, h.dests, snoc_map h.loops (by unfold shO; rw [hnew]; rfl), h.cases⟩
    exact fun i hi => hi.imp id (fun h => h.imp (fun ⟨x, hx, hy⟩ => ⟨x, List.mem_append_left _ hx, hy⟩) id)
  case a9 ls x e hl1 =>
    have hx := hf.loops x (mem_x e)
    have r1 := range_of hx.1 k5
    have r2 := ranges_of hx.2 k9
    have hl2 : d.code.length + (s.code.length + 1) ≤ 256 := by have := hl; simp [aimed_len] at this; omega
    have hs := hr.snoc (a := ⟨7, (x.f0 + 1) % 4294967296⟩) (b := ⟨7, (x.f0 + d.code.length + 1) % 4294967296⟩) rfl (.inl (by rw [sh_pos (by decide) (by decide)]; show (x.f0 + _ + 1) % _ = _; omega))
    have ht := hs.aimed (t := (s.code.length + 1 : Nat)) (by omega) (by omega) (x.f1 ++ [x.f0]) (fun m hm => by
      rcases List.mem_append.1 hm with hm | hm
      · exact range_app _ (r2 m hm)
      · rw [List.mem_singleton.1 hm]; exact range_app _ r1)
    refine ⟨_, of_acted (.a9 _ _ (split_map h.loops e) (by omega)), ⟨_, ?_, ht.mono ?_⟩, h.origs, h.dests, rfl, h.cases⟩
    · show aimed ((s2.code.length + 1 : Nat) : Int) (s2.code ++ [⟨7, (x.f0 + (d.code.length : Int) + 1) % 4294967296⟩]) ((x.f1.map fun m => m + (d.code.length : Int)) ++ [x.f0 + (d.code.length : Int)]) = _
      have e1 : ((s2.code.length + 1 : Nat) : Int) = ((s.code.length + 1 : Nat) : Int) + (d.code.length : Int) := by rw [hlen]; omega
      have e2 : ((x.f1.map fun m => m + (d.code.length : Int)) ++ [x.f0 + (d.code.length : Int)]) = (x.f1 ++ [x.f0]).map fun m => m + (d.code.length : Int) := by simp
      rw [e1, e2, hc, List.append_assoc]
      refine aimed_app _ _ _ _ (fun m hm => ?_)
      rcases List.mem_append.1 hm with hm | hm
      · exact (r2 m hm).1
      · rw [List.mem_singleton.1 hm]; exact r1.1
    · rintro i ⟨hi, hn⟩
      rcases hi with hi | ⟨y, hy, hi⟩ | hi
      · exact .inl hi
      · rw [e] at hy
        rcases List.mem_append.1 hy with hy | hy
        · exact .inr (.inl ⟨y, hy, hi⟩)
        · rw [List.mem_singleton.1 hy] at hi
          refine absurd ?_ hn
          rcases hi with hi | hi
          · rw [hi]; simp
          · exact List.mem_append_left _ hi
      · exact .inr (.inr hi)
  case a10 ls x e hl1 =>
    have hx := hf.loops x (mem_x e)
    have r1 := range_of hx.1 k5
    have r2 := ranges_of hx.2 k9
    have hl2 : d.code.length + (s.code.length + 1) ≤ 256 := by have := hl; simp [aimed_len] at this; omega
    have hs := hr.snoc (a := ⟨8, (x.f0 + 1) % 4294967296⟩) (b := ⟨8, (x.f0 + d.code.length + 1) % 4294967296⟩) rfl (.inl (by rw [sh_pos (by decide) (by decide)]; show (x.f0 + _ + 1) % _ = _; omega))
    have ht := hs.aimed (t := (s.code.length + 1 : Nat)) (by omega) (by omega) (x.f1 ++ [x.f0]) (fun m hm => by
      rcases List.mem_append.1 hm with hm | hm
      · exact range_app _ (r2 m hm)
      · rw [List.mem_singleton.1 hm]; exact range_app _ r1)
    refine ⟨_, of_acted (.a10 _ _ (split_map h.loops e) (by omega)), ⟨_, ?_, ht.mono ?_⟩, h.origs, h.dests, rfl, h.cases⟩
    · show aimed ((s2.code.length + 1 : Nat) : Int) (s2.code ++ [⟨8, (x.f0 + (d.code.length : Int) + 1) % 4294967296⟩]) ((x.f1.map fun m => m + (d.code.length : Int)) ++ [x.f0 + (d.code.length : Int)]) = _
      have e1 : ((s2.code.length + 1 : Nat) : Int) = ((s.code.length + 1 : Nat) : Int) + (d.code.length : Int) := by rw [hlen]; omega
      have e2 : ((x.f1.map fun m => m + (d.code.length : Int)) ++ [x.f0 + (d.code.length : Int)]) = (x.f1 ++ [x.f0]).map fun m => m + (d.code.length : Int) := by simp
      rw [e1, e2, hc, List.append_assoc]
      refine aimed_app _ _ _ _ (fun m hm => ?_)
      rcases List.mem_append.1 hm with hm | hm
      · exact (r2 m hm).1
      · rw [List.mem_singleton.1 hm]; exact r1.1
    · rintro i ⟨hi, hn⟩
      rcases hi with hi | ⟨y, hy, hi⟩ | hi
      · exact .inl hi
      · rw [e] at hy
        rcases List.mem_append.1 hy with hy | hy
        · exact .inr (.inl ⟨y, hy, hi⟩)
        · rw [List.mem_singleton.1 hy] at hi
          refine absurd ?_ hn
          rcases hi with hi | hi
          · rw [hi]; simp
          · exact List.mem_append_left _ hi
      · exact .inr (.inr hi)
  case a11 ls x e hl1 =>
    simp only [List.length_append, List.length_singleton] at hl
    refine ⟨_, of_acted (.a11 _ _ (split_map h.loops e) (by omega)), ⟨c2 ++ [⟨9, 0⟩], by rw [hc, List.append_assoc], (hr.mono ?_).snoc rfl (.inr ⟨.inr (.inl ⟨_, List.mem_append_right _ (List.mem_singleton.2 rfl), .inr (List.mem_append_right _ (List.mem_singleton.2 rfl))⟩), rfl⟩)⟩, h.origs, h.dests, snoc_map rfl (by simp [shO, hnew]), h.cases⟩
    rintro i (hi | ⟨y, hy, hi⟩ | hi)
    · exact .inl hi
    · rw [e] at hy
      rcases List.mem_append.1 hy with hy | hy
      · exact .inr (.inl ⟨y, List.mem_append_left _ hy, hi⟩)
      · rw [List.mem_singleton.1 hy] at hi
        exact .inr (.inl ⟨_, List.mem_append_right _ (List.mem_singleton.2 rfl), hi.imp id (fun h => List.mem_append_left _ h)⟩)
    · exact .inr (.inr hi)
  case a12 =>
    refine ⟨_, of_acted .a12, ⟨c2, hc, hr.mono ?_⟩, h.origs, h.dests, h.loops, snoc_map h.cases (by simp [shC])⟩
    exact fun i hi => hi.imp id (fun h => h.imp id (fun ⟨x, hx, hy⟩ => ⟨x, List.mem_append_left _ hx, hy⟩))
  case a13 ls x e hx hl1 =>
    simp only [List.length_append, List.length_singleton] at hl
    have hx2 : (shC d.code.length x).f0 = -1 := by unfold shC; rw [if_pos hx]
    refine ⟨_, of_acted (.a13 _ _ (split_map h.cases e) hx2 (by omega)), ⟨c2 ++ [⟨10, 0⟩], by rw [hc, List.append_assoc], (hr.mono0 ?_).snoc rfl (.inr ⟨.inr (.inr ⟨_, List.mem_append_right _ (List.mem_singleton.2 rfl), .inl rfl⟩), rfl⟩)⟩, h.origs, h.dests, h.loops, snoc_map rfl (by simp only [shC, hnew]; rw [if_neg (by omega)])⟩
    rintro i hi0 (hi | hi | ⟨y, hy, hi⟩)
    · exact .inl hi
    · exact .inr (.inl hi)
    · rw [e] at hy
      rcases List.mem_append.1 hy with hy | hy
      · exact .inr (.inr ⟨y, List.mem_append_left _ hy, hi⟩)
      · rw [List.mem_singleton.1 hy] at hi
        rcases hi with hi | hi
        · omega
        · exact .inr (.inr ⟨_, List.mem_append_right _ (List.mem_singleton.2 rfl), .inr hi⟩)
  case a14 ls x e hx hl1 =>
    have hx1 := hf.cases x (mem_x e)
    have r1 := range_of (hx1.1.resolve_left hx) k10
    have hl2 : d.code.length + (s.code.length + 1) ≤ 256 := by have := hl; simp [aimed_len] at this; omega
    have hx2 : (shC d.code.length x).f0 = x.f0 + (d.code.length : Int) := by unfold shC; rw [if_neg hx]
    have hs := (hr.mono (O' := fun i => Opn s i ∨ i = (s.code.length : Int)) (fun i hi => .inl hi)).snoc (a := ⟨3, 0⟩) (b := ⟨3, 0⟩) rfl (.inr ⟨.inr rfl, rfl⟩)
    have ht := hs.aimed (t := (s.code.length + 1 : Nat)) (by omega) (by omega) [x.f0] (fun m hm => by rw [List.mem_singleton.1 hm]; exact range_app _ r1)
    refine ⟨_, of_acted (.a14 _ _ (split_map h.cases e) (by rw [hx2]; omega) (by omega)), ⟨_, ?_, ht.mono ?_⟩, h.origs, h.dests, h.loops, snoc_map rfl (by simp [shC, hnew])⟩
    · show aimed ((s2.code.length + 1 : Nat) : Int) (s2.code ++ [⟨3, 0⟩]) [(shC d.code.length x).f0] = _
      have e1 : ((s2.code.length + 1 : Nat) : Int) = ((s.code.length + 1 : Nat) : Int) + (d.code.length : Int) := by rw [hlen]; omega
      rw [e1, hx2, hc, List.append_assoc]
      exact aimed_app _ _ [x.f0] _ (fun m hm => by rw [List.mem_singleton.1 hm]; exact r1.1)
    · rintro i ⟨hi | hi, hn⟩
      · rcases hi with hi | hi | ⟨y, hy, hi⟩
        · exact .inl hi
        · exact .inr (.inl hi)
        · rw [e] at hy
          rcases List.mem_append.1 hy with hy | hy
          · exact .inr (.inr ⟨y, List.mem_append_left _ hy, hi⟩)
          · rw [List.mem_singleton.1 hy] at hi
            rcases hi with hi | hi
            · exact absurd (List.mem_singleton.2 hi) hn
            · exact .inr (.inr ⟨_, List.mem_append_right _ (List.mem_singleton.2 rfl), .inr (List.mem_append_left _ hi)⟩)
      · exact .inr (.inr ⟨_, List.mem_append_right _ (List.mem_singleton.2 rfl), .inr (by rw [hi]; simp)⟩)
  case a15 ls x e hx hl1 =>
    have r2 := ranges_of (hf.cases x (mem_x e)).2 k33
    have hl2 : d.code.length + (s.code.length + 1) ≤ 256 := by have := hl; simp [aimed_len] at this; omega
    have hx2 : (shC d.code.length x).f0 = -1 := by unfold shC; rw [if_pos hx]
    have hs := hr.snoc (a := ⟨11, 0⟩) (b := ⟨11, 0⟩) rfl (.inl (sh_neg (by omega)).symm)
    have ht := hs.aimed (t := (s.code.length + 1 : Nat)) (by omega) (by omega) x.f1 (fun m hm => range_app _ (r2 m hm))
    refine ⟨_, of_acted (.a15 _ _ (split_map h.cases e) hx2 (by omega)), ⟨_, ?_, ht.mono0 ?_⟩, h.origs, h.dests, h.loops, rfl⟩
    · show aimed ((s2.code.length + 1 : Nat) : Int) (s2.code ++ [⟨11, 0⟩]) (x.f1.map fun m => m + (d.code.length : Int)) = _
      have e1 : ((s2.code.length + 1 : Nat) : Int) = ((s.code.length + 1 : Nat) : Int) + (d.code.length : Int) := by rw [hlen]; omega
      rw [e1, hc, List.append_assoc]
      exact aimed_app _ _ _ _ (fun m hm => (r2 m hm).1)
    · rintro i hi0 ⟨hi, hn⟩
      rcases hi with hi | hi | ⟨y, hy, hi⟩
      · exact .inl hi
      · exact .inr (.inl hi)
      · rw [e] at hy
        rcases List.mem_append.1 hy with hy | hy
        · exact .inr (.inr ⟨y, hy, hi⟩)
        · rw [List.mem_singleton.1 hy] at hi
          rcases hi with hi | hi
          · omega
          · exact absurd hi hn
theorem sim_put {d s s' s2 : Dr} {k n : Int} (h : Sim d s s2) (ha : putP s k n = .inl s') (hl : d.code.length + s'.code.length ≤ 256) : ∃ s2', putP s2 k n = .inl s2' ∧ Sim d s' s2' := by
  have hlen := h.len
  obtain ⟨c2, hc, hr⟩ := h.code
  obtain ⟨hk, hl1, rfl⟩ := putP_inl ha
  simp only [List.length_append, List.length_singleton] at hl
  have hk2 : ¬ (3 ≤ k ∧ k ≤ 10) := by
    simp only [List.mem_cons, List.not_mem_nil, or_false] at hk
    omega
  refine ⟨⟨s2.code ++ [⟨k, n % 4294967296⟩], s2.origs, s2.dests, s2.loops, s2.cases⟩, ?_, ⟨c2 ++ [⟨k, n % 4294967296⟩], by rw [hc, List.append_assoc], hr.snoc rfl (.inl (sh_neg hk2).symm)⟩, h.origs, h.dests, h.loops, h.cases⟩
  unfold putP
  rw [if_pos hk]
  unfold layP
  rw [if_pos (by omega)]
theorem sim_step {d s s' s2 : Dr} {x : S48} (h : Sim d s s2) (h2 : s2.Fd) (ha : stepP s x = .inl s') (hl : d.code.length + s'.code.length ≤ 256) : ∃ s2', stepP s2 x = .inl s2' ∧ Sim d s' s2' := by
  obtain ⟨hf, h1⟩ := stepP_inl ha
  unfold stepP putR actR
  rw [if_pos (formed_iff.2 h2), if_pos (formed_iff.2 h2)]
  rcases h1 with ⟨h0, h1⟩ | ⟨h0, h1⟩
  · rw [if_pos h0]; exact sim_put h h1 hl
  · rw [if_neg h0]; exact sim_act h (formed_iff.1 hf) h1 hl
theorem act_grows {d d' : Dr} {a : Int} (h : actP d a = .inl d') : d.code.length ≤ d'.code.length := by
  cases acted h <;> simp [aimed_len]
theorem step_grows {d d' : Dr} {x : S48} (h : stepP d x = .inl d') : d.code.length ≤ d'.code.length := by
  rcases (stepP_inl h).2 with ⟨_, h⟩ | ⟨_, h⟩
  · obtain ⟨_, _, rfl⟩ := putP_inl h; simp
  · exact act_grows h
theorem build_grows (l : List S48) : ∀ (d : Dr) (i : Nat), d.code.length ≤ (buildP d l i).1.code.length := by
  induction l with
  | nil => intro d i; exact Nat.le_refl _
  | cons x r ih =>
    intro d i
    unfold buildP
    cases hx : stepP d x with
    | inl d' => exact Nat.le_trans (step_grows hx) (ih d' (i + 1))
    | inr c => exact Nat.le_refl _
theorem sim_build (d : Dr) (l : List S48) : ∀ (s s2 : Dr) (i j : Nat), Sim d s s2 → s2.Fd → (buildP s l i).2.2 = 0 → d.code.length + (buildP s l i).1.code.length ≤ 256 → Sim d (buildP s l i).1 (buildP s2 l j).1 ∧ (buildP s2 l j).2.2 = 0 := by
  induction l with
  | nil => intro s s2 i j h _ _ _; exact ⟨h, rfl⟩
  | cons x r ih =>
    intro s s2 i j h h2 hz hl
    unfold buildP at hz hl ⊢
    cases hx : stepP s x with
    | inl s' =>
      rw [hx] at hz hl
      have hg := build_grows r s' (i + 1)
      obtain ⟨s2', e, h'⟩ := sim_step h h2 hx (by have : d.code.length + (buildP s' r (i + 1)).1.code.length ≤ 256 := hl; omega)
      rw [e]
      exact ih s' s2' (i + 1) (j + 1) h' (fd_step e) hz hl
    | inr c =>
      rw [hx] at hz
      exact absurd hz (stepP_err hx)
/-- An instruction, shifted. -/
def shI (n : Nat) (a : S37) : S37 := ⟨a.f0, sh n a⟩
theorem sim_end {d s s2 : Dr} (h : Sim d s s2) (h1 : s.origs = []) (h2 : s.dests = []) (h3 : s.loops = []) (h4 : s.cases = []) : s2 = ⟨d.code ++ s.code.map (shI d.code.length), d.origs, d.dests, d.loops, d.cases⟩ := by
  obtain ⟨c2, hc, hr⟩ := h.code
  have e : c2 = s.code.map (shI d.code.length) := by
    apply List.ext_getElem?
    intro i
    rw [List.getElem?_map]
    cases hi : s.code[i]? with
    | none =>
      rw [List.getElem?_eq_none_iff] at hi
      rw [List.getElem?_eq_none (by rw [hr.len]; exact hi)]
      rfl
    | some a =>
      obtain ⟨b, hb, hb0, hb1⟩ := hr.all i a hi
      rw [hb]
      refine congrArg some ?_
      rcases hb1 with hb1 | ⟨ho, _⟩
      · cases b
        simp only at hb0 hb1
        subst hb0 hb1
        rfl
      · rcases ho with ho | ⟨x, ho, _⟩ | ⟨x, ho, _⟩
        · rw [h1] at ho; cases ho
        · rw [h3] at ho; cases ho
        · rw [h4] at ho; cases ho
  obtain ⟨a, b, c, e1, f⟩ := s2
  have q0 : a = _ := hc
  have q1 := h.origs
  have q2 := h.dests
  have q3 := h.loops
  have q4 := h.cases
  rw [h1] at q1
  rw [h2] at q2
  rw [h3] at q3
  rw [h4] at q4
  simp only [List.map_nil, List.append_nil] at q1 q2 q3 q4
  rw [q0, q1, q2, q3, q4, e]
/-- THE PLAIN LAW. -/
theorem between {d x : Dr} {between : List S48} {n : Nat} (hd : d.Fd) (hx : buildP zdr between 0 = (x, n, 0)) (hf : finP x.code x.origs x.dests x.loops x.cases = .inl x.code) (hl : d.code.length + x.code.length ≤ 256) :
    ∃ m, buildP d between 0 = (⟨d.code ++ x.code.map (shI d.code.length), d.origs, d.dests, d.loops, d.cases⟩, m, 0) := by
  have hz : (buildP zdr between 0).2.2 = 0 := by rw [hx]
  have hx1 : (buildP zdr between 0).1 = x := by rw [hx]
  have h := sim_build d between zdr d 0 0 (Sim.start d) hd hz (by rw [hx1]; exact hl)
  rw [hx1] at h
  have h0 : x.origs.length + x.dests.length + x.loops.length + x.cases.length = 0 := by
    unfold finP at hf
    split at hf
    · split at hf
      · cases hf
      · omega
    · cases hf
  have e := sim_end h.1 (List.eq_nil_of_length_eq_zero (by omega)) (List.eq_nil_of_length_eq_zero (by omega)) (List.eq_nil_of_length_eq_zero (by omega)) (List.eq_nil_of_length_eq_zero (by omega))
  refine ⟨(buildP d between 0).2.1, ?_⟩
  rw [← e, ← h.2]
end Go.Proofs.Ytmglkgjnhoojaaa.PCodeRows
/- The reference's Copy (9): a draft with rows of its own, each in blocks of its own. -/
namespace Go.Proofs.Ytmglkgjnhoojaaa.PCodeRows
open Go.RowKit Go.Proofs.YtmglkgjnhoojaaaW.PrintWords Go.Proofs.YtmglkgjnhoojaaaW.PrintLast Go.Proofs.YtmglkgjnhoojaaaW.PrintMore
set_option linter.unusedVariables false
set_option linter.unusedSimpArgs false
theorem copyOpen_l (l : List S59) (hl : l.length < 4398046511104) (ho : ∀ x ∈ l, x.f1.length < 17592186044416) : ∀ m i : Nat, i + m = l.length → tinderref10_copyOpen.l0 (m + 1) l (l.take i) (i : Int) = some l := by
  intro m
  induction m with
  | zero =>
    intro i hi
    simp only [tinderref10_copyOpen.l0]
    rw [if_neg (by omega), List.take_of_length_le (by omega)]
  | succ m ih =>
    intro i hi
    have hlt : i < l.length := by omega
    have e : rd_T59 l (i : Int) = l[i] := by simp [rd_T59, List.getD_eq_getElem?_getD, hlt]
    have hx := ho _ (List.getElem_mem hlt)
    have ht : l.take (i + 1) = l.take i ++ [l[i]] := by rw [List.take_add_one, List.getElem?_eq_getElem hlt]; rfl
    have hw : wrap64 ((i : Int) + 1) = ((i + 1 : Nat) : Int) := by unfold wrap64; omega
    rw [tinderref10_copyOpen.l0, if_pos (by omega), if_pos (by omega), e, if_pos (by simp; omega), if_pos (by rw [List.length_take]; omega), hw]
    have h2 := ih (i + 1) (by omega)
    rw [ht] at h2
    exact h2
theorem copyOpen_f (l : List S59) (hl : l.length < 4398046511104) (ho : ∀ x ∈ l, x.f1.length < 17592186044416) : tinderref10_copyOpen.f (l.length + 1) l = some l := by
  have := copyOpen_l l hl ho l.length 0 (by omega)
  simpa [tinderref10_copyOpen.f] using this
theorem copyOpen_calls (A : Option Addr) (c : Nat) (l : List S59) (w : World) (h : Kd.C k59 w A l.length l) (hc : l.length ≤ c) (hl : l.length < 4398046511104 - 1) (ho : ∀ x ∈ l, x.f1.length < 4398046511104 - 1) :
    Calls Try.prog 21 #[.slice A l.length c] w fun e w' => ∃ v, e = .returned v ∧ Kd.S k59 59 w' w.heap.size (fun _ => True) v l ∧ Below w.heap.size w w' :=
  tinderref10_copyOpen.calls (l.length + 1) A c l l w h hc (copyOpen_f l (by omega) (fun x hx => by have := ho x hx; omega))
theorem below_grown {W w1 : World} (hg : W.grownBy w1 (Value.slice none 0 0).ownBlock) : Below W.heap.size W w1 := ⟨hg.os, hg.tape, hg.output, hg.size, fun i hi => hg.block i hi (by simp [Value.ownBlock])⟩
theorem k37_KM {w : World} {base : Nat} {ok : Nat → Prop} : ∀ x cs, k37.K w x cs → k37.M w base ok x cs := fun x cs h => by have := k37_open h; subst this; exact k37_mkM _ _ _ x
set_option maxHeartbeats 4000000 in
theorem copy_calls (A0 A1 A2 A3 A4 : Option Addr) (c0 c1 c2 c3 c4 : Nat) (code : List S37) (origs dests : List Int) (loops cases : List S59) (w : World) (h : DrC w A0 A1 A2 A3 A4 c0 c1 c2 c3 c4 code origs dests loops cases) (hs : Small code origs dests loops cases) (hm : Room ⟨code, origs, dests, loops, cases⟩) :
    Calls Try.prog 9 #[drV A0 A1 A2 A3 A4 c0 c1 c2 c3 c4 code.length origs.length dests.length loops.length cases.length] w fun e w' => ∃ (B0 B1 B2 B3 B4 : Option Addr) (b0 b1 b2 b3 b4 : Nat) (o : Nat → Nat), e = .returned (drV B0 B1 B2 B3 B4 b0 b1 b2 b3 b4 code.length origs.length dests.length loops.length cases.length) ∧ C5 w' w.heap.size (.slice B0 code.length b0) (.slice B1 origs.length b1) (.slice B2 dests.length b2) (.slice B3 loops.length b3) (.slice B4 cases.length b4) o code origs dests loops cases ∧ Below w.heap.size w w' := by
  have HH := Aside0.mk h
  have HS := Aside0.mk hs
  have HM := Aside0.mk hm
  have hsz : (w.alloc (.cells #[.slice A0 code.length c0, .slice A1 origs.length c1, .slice A2 dests.length c2, .slice A3 loops.length c3, .slice A4 cases.length c4] 26)).heap.size = w.heap.size + 1 := by simp
  have hsz2 : ((w.alloc (.cells #[.slice A0 code.length c0, .slice A1 origs.length c1, .slice A2 dests.length c2, .slice A3 loops.length c3, .slice A4 cases.length c4] 26)).alloc (.cells #[.slice none 0 0, .slice none 0 0, .slice none 0 0, .slice none 0 0, .slice none 0 0] 26)).heap.size = w.heap.size + 1 + 1 := by simp
  have HD := blk_alloc (blk_alloc (blk_new w (.cells #[.slice A0 code.length c0, .slice A1 origs.length c1, .slice A2 dests.length c2, .slice A3 loops.length c3, .slice A4 cases.length c4] 26)) (.cells #[.slice none 0 0, .slice none 0 0, .slice none 0 0, .slice none 0 0, .slice none 0 0] 26)) (.cells #[.slice none 0 0, .slice none 0 0, .slice none 0 0, .slice none 0 0, .slice none 0 0] 26)
  have HR := blk_alloc (blk_new (w.alloc (.cells #[.slice A0 code.length c0, .slice A1 origs.length c1, .slice A2 dests.length c2, .slice A3 loops.length c3, .slice A4 cases.length c4] 26)) (.cells #[.slice none 0 0, .slice none 0 0, .slice none 0 0, .slice none 0 0, .slice none 0 0] 26)) (.cells #[.slice none 0 0, .slice none 0 0, .slice none 0 0, .slice none 0 0, .slice none 0 0] 26)
  rw [hsz] at HR
  have HX := blk_new ((w.alloc (.cells #[.slice A0 code.length c0, .slice A1 origs.length c1, .slice A2 dests.length c2, .slice A3 loops.length c3, .slice A4 cases.length c4] 26)).alloc (.cells #[.slice none 0 0, .slice none 0 0, .slice none 0 0, .slice none 0 0, .slice none 0 0] 26)) (.cells #[.slice none 0 0, .slice none 0 0, .slice none 0 0, .slice none 0 0, .slice none 0 0] 26)
  rw [hsz2] at HX
  have HB := below_alloc (below_alloc (below_alloc (Below.refl w.heap.size w) (.cells #[.slice A0 code.length c0, .slice A1 origs.length c1, .slice A2 dests.length c2, .slice A3 loops.length c3, .slice A4 cases.length c4] 26)) (.cells #[.slice none 0 0, .slice none 0 0, .slice none 0 0, .slice none 0 0, .slice none 0 0] 26)) (.cells #[.slice none 0 0, .slice none 0 0, .slice none 0 0, .slice none 0 0, .slice none 0 0] 26)
  clear h hs hm hsz hsz2
  have d0 : (((w.alloc (.cells #[.slice A0 code.length c0, .slice A1 origs.length c1, .slice A2 dests.length c2, .slice A3 loops.length c3, .slice A4 cases.length c4] 26)).alloc (.cells #[.slice none 0 0, .slice none 0 0, .slice none 0 0, .slice none 0 0, .slice none 0 0] 26)).alloc (.cells #[.slice none 0 0, .slice none 0 0, .slice none 0 0, .slice none 0 0, .slice none 0 0] 26)).cell? ⟨w.heap.size, 0, none⟩ = some (.slice A0 code.length c0) := (blk_cell HD 0).trans rfl
  have y0 : (((w.alloc (.cells #[.slice A0 code.length c0, .slice A1 origs.length c1, .slice A2 dests.length c2, .slice A3 loops.length c3, .slice A4 cases.length c4] 26)).alloc (.cells #[.slice none 0 0, .slice none 0 0, .slice none 0 0, .slice none 0 0, .slice none 0 0] 26)).alloc (.cells #[.slice none 0 0, .slice none 0 0, .slice none 0 0, .slice none 0 0, .slice none 0 0] 26)).cell? ⟨w.heap.size + 1 + 1, 0, none⟩ = some (.slice none 0 0) := (blk_cell HX 0).trans rfl
  replace HD := Aside0.mk HD
  replace HR := Aside0.mk HR
  replace HX := Aside0.mk HX
  replace HB := Aside0.mk HB
  go_enter Try.func9, Try.ntmps9
  go_wp2_with (at_builtin; refine Kd.R_append_rows k37 (Rr := k37.K (((w.alloc (.cells #[.slice A0 code.length c0, .slice A1 origs.length c1, .slice A2 dests.length c2, .slice A3 loops.length c3, .slice A4 cases.length c4] 26)).alloc (.cells #[.slice none 0 0, .slice none 0 0, .slice none 0 0, .slice none 0 0, .slice none 0 0] 26)).alloc (.cells #[.slice none 0 0, .slice none 0 0, .slice none 0 0, .slice none 0 0, .slice none 0 0] 26))) (w0 := (((w.alloc (.cells #[.slice A0 code.length c0, .slice A1 origs.length c1, .slice A2 dests.length c2, .slice A3 loops.length c3, .slice A4 cases.length c4] 26)).alloc (.cells #[.slice none 0 0, .slice none 0 0, .slice none 0 0, .slice none 0 0, .slice none 0 0] 26)).alloc (.cells #[.slice none 0 0, .slice none 0 0, .slice none 0 0, .slice none 0 0, .slice none 0 0] 26))) (W := (((w.alloc (.cells #[.slice A0 code.length c0, .slice A1 origs.length c1, .slice A2 dests.length c2, .slice A3 loops.length c3, .slice A4 cases.length c4] 26)).alloc (.cells #[.slice none 0 0, .slice none 0 0, .slice none 0 0, .slice none 0 0, .slice none 0 0] 26)).alloc (.cells #[.slice none 0 0, .slice none 0 0, .slice none 0 0, .slice none 0 0, .slice none 0 0] 26))) w.heap.size rfl _ _ 22 37 (.agg #[(.int .i64 0), (.int .u32 0)]) 16 rfl Try.underlying22 info37 rfl (by decide) (by decide) (.slice none 0 0) [] code A0 code.length c0 (fun _ => True) (fun _ => False) rfl rfl (Kd.R_nil _ _ _ _ _) (Kd.C_below HH.out.r0 HB.out) k37_KM (fun _ h => h.elim) (fun _ _ => trivial) (Below.refl _ _) HB.out.size (by simp; have := HS.out.s0; omega) ?_)
  intro v w4 hR0 hB0 hg0 hat0
  clear hat0 hB0
  obtain ⟨B0, b0, rfl⟩ := Kd.R_slice hR0
  have hb0 := below_grown hg0
  clear hg0 d0 y0
  have HX1 := Aside0.mk (blk_below HX.out hb0)
  have HD1 := Aside0.mk (blk_far (blk_below HD.out hb0) (p := ⟨w.heap.size + 1 + 1, 0, none⟩) (by show w.heap.size ≠ w.heap.size + 1 + 1; omega) (.slice B0 code.length b0))
  have HR1 := Aside0.mk (blk_far (blk_below HR.out hb0) (p := ⟨w.heap.size + 1 + 1, 0, none⟩) (by show w.heap.size + 1 ≠ w.heap.size + 1 + 1; omega) (.slice B0 code.length b0))
  have HX2 := Aside0.mk (blk_put HX1.out 0 (.slice B0 code.length b0) rfl)
  have HB1 := Aside0.mk ((below_step HB.out hb0).setCell (p := ⟨w.heap.size + 1 + 1, 0, none⟩) (by show w.heap.size ≤ w.heap.size + 1 + 1; omega) (.slice B0 code.length b0))
  have hf := blk_frozen HX1.out 0
  have x0 : w4.cell? ⟨w.heap.size + 1 + 1, 0, none⟩ = some (.slice none 0 0) := (blk_cell HX1.out 0).trans rfl
  have h0 := Aside0.mk (Kd.R_set hR0 HX1.out (fun q hq => n26a hq) 0 (.slice B0 code.length b0))
  clear hR0 hb0 HB HX HD HR
  have HB := HB1
  have HX := HX2
  have HD := HD1
  have HR := HR1
  clear HB1 HX1 HX2 HD1 HR1
  have d1 : (w4.setCell ⟨w.heap.size + 1 + 1, 0, none⟩ (.slice B0 code.length b0)).cell? ⟨w.heap.size, 1, none⟩ = some (.slice A1 origs.length c1) := (blk_cell HD.out 1).trans rfl
  have y1 : (w4.setCell ⟨w.heap.size + 1 + 1, 0, none⟩ (.slice B0 code.length b0)).cell? ⟨w.heap.size + 1 + 1, 1, none⟩ = some (.slice none 0 0) := (blk_cell HX.out 1).trans rfl
  go_wp2_with (at_builtin; refine Kd.R_append_rows (Kd.int .i64) (Rr := (Kd.int .i64).K (w4.setCell ⟨w.heap.size + 1 + 1, 0, none⟩ (.slice B0 code.length b0))) (w0 := (w4.setCell ⟨w.heap.size + 1 + 1, 0, none⟩ (.slice B0 code.length b0))) (W := (w4.setCell ⟨w.heap.size + 1 + 1, 0, none⟩ (.slice B0 code.length b0))) w.heap.size rfl _ _ 23 3 (.int .i64 0) 8 rfl Try.underlying23 infoI rfl (by decide) (by decide) (.slice none 0 0) [] origs A1 origs.length c1 (fun k => new_ (w4.setCell ⟨w.heap.size + 1 + 1, 0, none⟩ (.slice B0 code.length b0)) (fun _ => 0) 1 k = 1) (fun _ => False) rfl rfl (Kd.R_nil _ _ _ _ _) (Kd.C_below HH.out.r1 HB.out) (fun x cs h => h) (fun _ h => h.elim) (fun k hk => new_new hk) (Below.refl _ _) HB.out.size (by simp; have := HS.out.s1; omega) ?_)
  intro v w5 hR1 hB1 hg1 hat1
  clear hat1 hB1
  obtain ⟨B1, b1, rfl⟩ := Kd.R_slice hR1
  have hb1 := below_grown hg1
  clear hg1 d1 y1
  have HX1 := Aside0.mk (blk_below HX.out hb1)
  have HD1 := Aside0.mk (blk_far (blk_below HD.out hb1) (p := ⟨w.heap.size + 1 + 1, 1, none⟩) (by show w.heap.size ≠ w.heap.size + 1 + 1; omega) (.slice B1 origs.length b1))
  have HR1 := Aside0.mk (blk_far (blk_below HR.out hb1) (p := ⟨w.heap.size + 1 + 1, 1, none⟩) (by show w.heap.size + 1 ≠ w.heap.size + 1 + 1; omega) (.slice B1 origs.length b1))
  have HX2 := Aside0.mk (blk_put HX1.out 1 (.slice B1 origs.length b1) rfl)
  have HB1 := Aside0.mk ((below_step HB.out hb1).setCell (p := ⟨w.heap.size + 1 + 1, 1, none⟩) (by show w.heap.size ≤ w.heap.size + 1 + 1; omega) (.slice B1 origs.length b1))
  have hf := blk_frozen HX1.out 1
  have x1 : w5.cell? ⟨w.heap.size + 1 + 1, 1, none⟩ = some (.slice none 0 0) := (blk_cell HX1.out 1).trans rfl
  have h0' := Aside0.mk (Kd.R_set (Kd.R_below h0.out hb1) HX1.out (fun q hq => n26a hq) 1 (.slice B1 origs.length b1))
  have h1 := Aside0.mk (Kd.R_set hR1 HX1.out (fun q hq => n26b hq) 1 (.slice B1 origs.length b1))
  clear h0
  have h0 := h0'
  clear h0'
  clear hR1 hb1 HB HX HD HR
  have HB := HB1
  have HX := HX2
  have HD := HD1
  have HR := HR1
  clear HB1 HX1 HX2 HD1 HR1
  have d2 : (w5.setCell ⟨w.heap.size + 1 + 1, 1, none⟩ (.slice B1 origs.length b1)).cell? ⟨w.heap.size, 2, none⟩ = some (.slice A2 dests.length c2) := (blk_cell HD.out 2).trans rfl
  have y2 : (w5.setCell ⟨w.heap.size + 1 + 1, 1, none⟩ (.slice B1 origs.length b1)).cell? ⟨w.heap.size + 1 + 1, 2, none⟩ = some (.slice none 0 0) := (blk_cell HX.out 2).trans rfl
  go_wp2_with (at_builtin; refine Kd.R_append_rows (Kd.int .i64) (Rr := (Kd.int .i64).K (w5.setCell ⟨w.heap.size + 1 + 1, 1, none⟩ (.slice B1 origs.length b1))) (w0 := (w5.setCell ⟨w.heap.size + 1 + 1, 1, none⟩ (.slice B1 origs.length b1))) (W := (w5.setCell ⟨w.heap.size + 1 + 1, 1, none⟩ (.slice B1 origs.length b1))) w.heap.size rfl _ _ 23 3 (.int .i64 0) 8 rfl Try.underlying23 infoI rfl (by decide) (by decide) (.slice none 0 0) [] dests A2 dests.length c2 (fun k => new_ (w5.setCell ⟨w.heap.size + 1 + 1, 1, none⟩ (.slice B1 origs.length b1)) (new_ (w4.setCell ⟨w.heap.size + 1 + 1, 0, none⟩ (.slice B0 code.length b0)) (fun _ => 0) 1) 2 k = 2) (fun _ => False) rfl rfl (Kd.R_nil _ _ _ _ _) (Kd.C_below HH.out.r2 HB.out) (fun x cs h => h) (fun _ h => h.elim) (fun k hk => new_new hk) (Below.refl _ _) HB.out.size (by simp; have := HS.out.s2; omega) ?_)
  intro v w6 hR2 hB2 hg2 hat2
  clear hat2 hB2
  obtain ⟨B2, b2, rfl⟩ := Kd.R_slice hR2
  have hb2 := below_grown hg2
  clear hg2 d2 y2
  have HX1 := Aside0.mk (blk_below HX.out hb2)
  have HD1 := Aside0.mk (blk_far (blk_below HD.out hb2) (p := ⟨w.heap.size + 1 + 1, 2, none⟩) (by show w.heap.size ≠ w.heap.size + 1 + 1; omega) (.slice B2 dests.length b2))
  have HR1 := Aside0.mk (blk_far (blk_below HR.out hb2) (p := ⟨w.heap.size + 1 + 1, 2, none⟩) (by show w.heap.size + 1 ≠ w.heap.size + 1 + 1; omega) (.slice B2 dests.length b2))
  have HX2 := Aside0.mk (blk_put HX1.out 2 (.slice B2 dests.length b2) rfl)
  have HB1 := Aside0.mk ((below_step HB.out hb2).setCell (p := ⟨w.heap.size + 1 + 1, 2, none⟩) (by show w.heap.size ≤ w.heap.size + 1 + 1; omega) (.slice B2 dests.length b2))
  have hf := blk_frozen HX1.out 2
  have x2 : w6.cell? ⟨w.heap.size + 1 + 1, 2, none⟩ = some (.slice none 0 0) := (blk_cell HX1.out 2).trans rfl
  have h3 := Aside0.mk ((C3.mk (o := new_ (w5.setCell ⟨w.heap.size + 1 + 1, 1, none⟩ (.slice B1 origs.length b1)) (new_ (w4.setCell ⟨w.heap.size + 1 + 1, 0, none⟩ (.slice B0 code.length b0)) (fun _ => 0) 1) 2) (Kd.R_below h0.out hb2) (Kd.R_below (R_lt_mono h1.out (fun k hk hl => new_old hk hl)) hb2) hR2).set HX1.out 2 (.slice B2 dests.length b2))
  clear h0 h1
  clear hR2 hb2 HB HX HD HR
  have HB := HB1
  have HX := HX2
  have HD := HD1
  have HR := HR1
  clear HB1 HX1 HX2 HD1 HR1
  have d3 : (w6.setCell ⟨w.heap.size + 1 + 1, 2, none⟩ (.slice B2 dests.length b2)).cell? ⟨w.heap.size, 3, none⟩ = some (.slice A3 loops.length c3) := (blk_cell HD.out 3).trans rfl
  have y3 : (w6.setCell ⟨w.heap.size + 1 + 1, 2, none⟩ (.slice B2 dests.length b2)).cell? ⟨w.heap.size + 1 + 1, 3, none⟩ = some (.slice none 0 0) := (blk_cell HX.out 3).trans rfl
  go_wp2_with fail
  clear d3 y3
  generalize w6.setCell ⟨w.heap.size + 1 + 1, 2, none⟩ (.slice B2 dests.length b2) = W3 at HB HX HD HR h3 ⊢
  generalize new_ (w5.setCell ⟨w.heap.size + 1 + 1, 1, none⟩ (.slice B1 origs.length b1)) (new_ (w4.setCell ⟨w.heap.size + 1 + 1, 0, none⟩ (.slice B0 code.length b0)) (fun _ => 0) 1) 2 = o2 at h3
  refine (copyOpen_calls A3 c3 loops W3 (Kd.C_below HH.out.r3 HB.out) HH.out.l3 HM.out.loops HM.out.louts).mono ?_
  rintro e w7 ⟨v, rfl, hS, hb⟩
  obtain ⟨B3, b3, rfl⟩ := Kd.S_slice hS
  have HX1 := Aside0.mk (blk_below HX.out hb)
  have hn := Kd.S_set (Kd.S_lower (Kd.S_mono (Kd.S_bound hS) (ok' := fun k => new_ W3 o2 3 k = 3) (fun k hk => new_new hk.2.1)) HB.out.size) HX1.out (fun q hq => n26c hq) 3 (.slice B3 loops.length b3)
  have h3' := Aside0.mk ((h3.out.below hb 3 (by decide)).set HX1.out 3 (.slice B3 loops.length b3))
  have HD1 := Aside0.mk (blk_far (blk_below HD.out hb) (p := ⟨w.heap.size + 1 + 1, 3, none⟩) (by show w.heap.size ≠ w.heap.size + 1 + 1; omega) (.slice B3 loops.length b3))
  have HR1 := Aside0.mk (blk_far (blk_below HR.out hb) (p := ⟨w.heap.size + 1 + 1, 3, none⟩) (by show w.heap.size + 1 ≠ w.heap.size + 1 + 1; omega) (.slice B3 loops.length b3))
  have HB1 := Aside0.mk ((below_step HB.out hb).setCell (p := ⟨w.heap.size + 1 + 1, 3, none⟩) (by show w.heap.size ≤ w.heap.size + 1 + 1; omega) (.slice B3 loops.length b3))
  have HX2 := Aside0.mk (blk_put HX1.out 3 (.slice B3 loops.length b3) rfl)
  have hf := blk_frozen HX1.out 3
  have y3 : w7.cell? ⟨w.heap.size + 1 + 1, 3, none⟩ = some (.slice none 0 0) := (blk_cell HX1.out 3).trans rfl
  clear hS hb HX1 HB HX HD HR h3
  have HB := HB1
  have HX := HX2
  have HD := HD1
  have HR := HR1
  have h3 := h3'
  have hl := Aside0.mk hn
  clear HB1 HX2 HD1 HR1 h3' hn
  generalize new_ W3 o2 3 = o3 at h3 hl
  have d4 : (w7.setCell ⟨w.heap.size + 1 + 1, 3, none⟩ (.slice B3 loops.length b3)).cell? ⟨w.heap.size, 4, none⟩ = some (.slice A4 cases.length c4) := (blk_cell HD.out 4).trans rfl
  go_wp2_with fail
  clear d4
  generalize w7.setCell ⟨w.heap.size + 1 + 1, 3, none⟩ (.slice B3 loops.length b3) = W4 at HB HX HD HR h3 hl ⊢
  refine (copyOpen_calls A4 c4 cases W4 (Kd.C_below HH.out.r4 HB.out) HH.out.l4 HM.out.cases HM.out.couts).mono ?_
  rintro e w8 ⟨v, rfl, hS, hb⟩
  obtain ⟨B4, b4, rfl⟩ := Kd.S_slice hS
  have HX1 := Aside0.mk (blk_below HX.out hb)
  have hn := Kd.S_set (Kd.S_lower (Kd.S_mono (Kd.S_bound hS) (ok' := fun k => new_ W4 o3 4 k = 4) (fun k hk => new_new hk.2.1)) HB.out.size) HX1.out (fun q hq => n26c hq) 4 (.slice B4 cases.length b4)
  have h3' := Aside0.mk ((h3.out.below hb 4 (by decide)).set HX1.out 4 (.slice B4 cases.length b4))
  have hl' := Kd.S_set (Kd.S_below (S_lt_mono (ok' := fun k => new_ W4 o3 4 k = 3) hl.out (fun k hk hlt => new_old hk hlt)) hb) HX1.out (fun q hq => n26c hq) 4 (.slice B4 cases.length b4)
  have HD1 := Aside0.mk (blk_far (blk_below HD.out hb) (p := ⟨w.heap.size + 1 + 1, 4, none⟩) (by show w.heap.size ≠ w.heap.size + 1 + 1; omega) (.slice B4 cases.length b4))
  have HR1 := Aside0.mk (blk_far (blk_below HR.out hb) (p := ⟨w.heap.size + 1 + 1, 4, none⟩) (by show w.heap.size + 1 ≠ w.heap.size + 1 + 1; omega) (.slice B4 cases.length b4))
  have HB1 := Aside0.mk ((below_step HB.out hb).setCell (p := ⟨w.heap.size + 1 + 1, 4, none⟩) (by show w.heap.size ≤ w.heap.size + 1 + 1; omega) (.slice B4 cases.length b4))
  have HX2 := Aside0.mk (blk_put HX1.out 4 (.slice B4 cases.length b4) rfl)
  have hf := blk_frozen HX1.out 4
  have y4 : w8.cell? ⟨w.heap.size + 1 + 1, 4, none⟩ = some (.slice none 0 0) := (blk_cell HX1.out 4).trans rfl
  clear hS hb HX1 HB HX HD HR h3 hl
  have HB := HB1
  have HX := HX2
  have HD := HD1
  have HR := HR1
  have h3 := h3'
  have h5 := Aside0.mk (C5.mk h3.out hl' hn)
  clear HB1 HX2 HD1 HR1 h3' hn hl'
  have k0 : (w8.setCell ⟨w.heap.size + 1 + 1, 4, none⟩ (.slice B4 cases.length b4)).cell? ⟨w.heap.size + 1 + 1, 0, none⟩ = some (.slice B0 code.length b0) := (blk_cell HX.out 0).trans rfl
  have k1 : (w8.setCell ⟨w.heap.size + 1 + 1, 4, none⟩ (.slice B4 cases.length b4)).cell? ⟨w.heap.size + 1 + 1, 1, none⟩ = some (.slice B1 origs.length b1) := (blk_cell HX.out 1).trans rfl
  have k2 : (w8.setCell ⟨w.heap.size + 1 + 1, 4, none⟩ (.slice B4 cases.length b4)).cell? ⟨w.heap.size + 1 + 1, 2, none⟩ = some (.slice B2 dests.length b2) := (blk_cell HX.out 2).trans rfl
  have k3 : (w8.setCell ⟨w.heap.size + 1 + 1, 4, none⟩ (.slice B4 cases.length b4)).cell? ⟨w.heap.size + 1 + 1, 3, none⟩ = some (.slice B3 loops.length b3) := (blk_cell HX.out 3).trans rfl
  have k4 : (w8.setCell ⟨w.heap.size + 1 + 1, 4, none⟩ (.slice B4 cases.length b4)).cell? ⟨w.heap.size + 1 + 1, 4, none⟩ = some (.slice B4 cases.length b4) := (blk_cell HX.out 4).trans rfl
  have r0 : (w8.setCell ⟨w.heap.size + 1 + 1, 4, none⟩ (.slice B4 cases.length b4)).cell? ⟨w.heap.size + 1, 0, none⟩ = some (.slice none 0 0) := (blk_cell HR.out 0).trans rfl
  have r1 : (w8.setCell ⟨w.heap.size + 1 + 1, 4, none⟩ (.slice B4 cases.length b4)).cell? ⟨w.heap.size + 1, 1, none⟩ = some (.slice none 0 0) := (blk_cell HR.out 1).trans rfl
  have r2 : (w8.setCell ⟨w.heap.size + 1 + 1, 4, none⟩ (.slice B4 cases.length b4)).cell? ⟨w.heap.size + 1, 2, none⟩ = some (.slice none 0 0) := (blk_cell HR.out 2).trans rfl
  have r3 : (w8.setCell ⟨w.heap.size + 1 + 1, 4, none⟩ (.slice B4 cases.length b4)).cell? ⟨w.heap.size + 1, 3, none⟩ = some (.slice none 0 0) := (blk_cell HR.out 3).trans rfl
  have r4 : (w8.setCell ⟨w.heap.size + 1 + 1, 4, none⟩ (.slice B4 cases.length b4)).cell? ⟨w.heap.size + 1, 4, none⟩ = some (.slice none 0 0) := (blk_cell HR.out 4).trans rfl
  have f0 := blk_frozen HR.out 0
  have f1 := blk_frozen HR.out 1
  have f2 := blk_frozen HR.out 2
  have f3 := blk_frozen HR.out 3
  have f4 := blk_frozen HR.out 4
  have HBn := Aside0.mk (below_put5 HB.out (Nat.le_succ w.heap.size) (.slice B0 code.length b0) (.slice B1 origs.length b1) (.slice B2 dests.length b2) (.slice B3 loops.length b3) (.slice B4 cases.length b4))
  have HRn := Aside0.mk (blk_put5 HR.out (.slice B0 code.length b0) (.slice B1 origs.length b1) (.slice B2 dests.length b2) (.slice B3 loops.length b3) (.slice B4 cases.length b4))
  have H5n := Aside0.mk (h5.out.put5 HR.out (.slice B0 code.length b0) (.slice B1 origs.length b1) (.slice B2 dests.length b2) (.slice B3 loops.length b3) (.slice B4 cases.length b4))
  clear HB HR HX HD h5 h3
  go_wp2_with fail
  have y0 := (blk_cell HRn.out 0).trans rfl
  have y1 := (blk_cell HRn.out 1).trans rfl
  have y2 := (blk_cell HRn.out 2).trans rfl
  have y3 := (blk_cell HRn.out 3).trans rfl
  have y4 := (blk_cell HRn.out 4).trans rfl
  exact bodyPost_ret (v := drV B0 B1 B2 B3 B4 b0 b1 b2 b3 b4 code.length origs.length dests.length loops.length cases.length) (by simp [results, Try.results9, go_sem, y0, y1, y2, y3, y4]) rfl ⟨_, _, _, _, _, _, _, _, _, _, _, rfl, H5n.out, HBn.out⟩
end Go.Proofs.Ytmglkgjnhoojaaa.PCodeRows
/- The reference's Same (14) and SameOps (19): of the same they answer true. -/
namespace Go.Proofs.Ytmglkgjnhoojaaa.PCodeRows
open Go.RowKit Go.Proofs.YtmglkgjnhoojaaaW.PrintWords Go.Proofs.YtmglkgjnhoojaaaW.PrintLast Go.Proofs.YtmglkgjnhoojaaaW.PrintMore
set_option linter.unusedVariables false
set_option linter.unusedSimpArgs false
theorem wrap_succ {i : Nat} (h : i < 9223372036854775807) : wrap64 ((i : Int) + 1) = ((i + 1 : Nat) : Int) := by unfold wrap64; omega
theorem sameOps_l (l : List S37) (hl : l.length ≤ 9223372036854775807) : ∀ m i k : Nat, i + m = l.length → m < k → tinderref10_SameOps.l0 k l l (i : Int) = some true := by
  intro m
  induction m with
  | zero =>
    intro i k hi hk
    obtain ⟨k, rfl⟩ : ∃ j, k = j + 1 := ⟨k - 1, by omega⟩
    rw [tinderref10_SameOps.l0, if_neg (by omega)]
  | succ m ih =>
    intro i k hi hk
    obtain ⟨k, rfl⟩ : ∃ j, k = j + 1 := ⟨k - 1, by omega⟩
    rw [tinderref10_SameOps.l0, if_pos (by omega), if_pos (by omega), if_pos (by omega), if_neg (by simp), wrap_succ (by omega)]
    exact ih (i + 1) k (by omega) (by omega)
theorem sameOps_f (l : List S37) (hl : l.length ≤ 9223372036854775807) (k : Nat) (hk : l.length < k) : tinderref10_SameOps.f k l l = some true := by
  unfold tinderref10_SameOps.f
  rw [if_pos rfl]
  exact sameOps_l l hl l.length 0 k (by omega) hk
theorem sameInts_l (l : List Int) (hl : l.length ≤ 9223372036854775807) : ∀ m i k : Nat, i + m = l.length → m < k → tinderref10_sameInts.l0 k l l (i : Int) = some true := by
  intro m
  induction m with
  | zero =>
    intro i k hi hk
    obtain ⟨k, rfl⟩ : ∃ j, k = j + 1 := ⟨k - 1, by omega⟩
    rw [tinderref10_sameInts.l0, if_neg (by omega)]
  | succ m ih =>
    intro i k hi hk
    obtain ⟨k, rfl⟩ : ∃ j, k = j + 1 := ⟨k - 1, by omega⟩
    rw [tinderref10_sameInts.l0, if_pos (by omega), if_pos (by omega), if_pos (by omega), if_pos rfl, wrap_succ (by omega)]
    exact ih (i + 1) k (by omega) (by omega)
theorem sameInts_f (l : List Int) (hl : l.length ≤ 9223372036854775807) (k : Nat) (hk : l.length < k) : tinderref10_sameInts.f k l l = some true := by
  unfold tinderref10_sameInts.f
  rw [if_pos rfl]
  exact sameInts_l l hl l.length 0 k (by omega) hk
theorem sameOpen_l (l : List S59) (hl : l.length ≤ 9223372036854775807) (B : Nat) (hB : B ≤ 9223372036854775807) (ho : ∀ x ∈ l, x.f1.length ≤ B) : ∀ m i k : Nat, i + m = l.length → m + B < k → tinderref10_sameOpen.l0 k l l (i : Int) = some true := by
  intro m
  induction m with
  | zero =>
    intro i k hi hk
    obtain ⟨k, rfl⟩ : ∃ j, k = j + 1 := ⟨k - 1, by omega⟩
    rw [tinderref10_sameOpen.l0, if_neg (by omega)]
  | succ m ih =>
    intro i k hi hk
    obtain ⟨k, rfl⟩ : ∃ j, k = j + 1 := ⟨k - 1, by omega⟩
    have hlt : i < l.length := by omega
    have e : rd_T59 l (i : Int) = l[i] := by simp [rd_T59, List.getD_eq_getElem?_getD, hlt]
    have hx := ho _ (List.getElem_mem hlt)
    rw [tinderref10_sameOpen.l0, if_pos (by omega), if_pos (by omega), if_pos (by omega), if_pos rfl, e, sameInts_f _ (by omega) k (by omega), Option.bind_some, if_pos rfl, wrap_succ (by omega)]
    exact ih (i + 1) k (by omega) (by omega)
theorem sameOpen_f (l : List S59) (hl : l.length ≤ 9223372036854775807) (B : Nat) (hB : B ≤ 9223372036854775807) (ho : ∀ x ∈ l, x.f1.length ≤ B) (k : Nat) (hk : l.length + B < k) : tinderref10_sameOpen.f k l l = some true := by
  unfold tinderref10_sameOpen.f
  rw [if_pos rfl]
  exact sameOpen_l l hl B hB ho l.length 0 k (by omega) hk
theorem same_f {d : Dr} {N : Nat} (h : Bnd d N) (hN : N ≤ 1099511627776) : tinderref10_Same.f (N + N + 1) d.code d.origs d.dests d.loops d.cases d.code d.origs d.dests d.loops d.cases = some true := by
  have h0 := h.code
  have h1 := h.origs
  have h2 := h.dests
  have h3 := h.loops
  have h4 := h.cases
  unfold tinderref10_Same.f
  rw [sameOps_f _ (by omega) _ (by omega), Option.bind_some, if_pos rfl, sameInts_f _ (by omega) _ (by omega), Option.bind_some, if_pos rfl, sameInts_f _ (by omega) _ (by omega), Option.bind_some, if_pos rfl, sameOpen_f _ (by omega) N (by omega) h.louts _ (by omega), Option.bind_some, if_pos rfl, sameOpen_f _ (by omega) N (by omega) h.couts _ (by omega), Option.bind_some]
theorem same_calls {A0 A1 A2 A3 A4 B0 B1 B2 B3 B4 : Option Addr} {c0 c1 c2 c3 c4 b0 b1 b2 b3 b4 N : Nat} {d : Dr} {w : World} (h : DrC w A0 A1 A2 A3 A4 c0 c1 c2 c3 c4 d.code d.origs d.dests d.loops d.cases) (h' : DrC w B0 B1 B2 B3 B4 b0 b1 b2 b3 b4 d.code d.origs d.dests d.loops d.cases) (hN : Bnd d N) (hN2 : N ≤ 1099511627776) :
    Calls Try.prog 14 #[drV A0 A1 A2 A3 A4 c0 c1 c2 c3 c4 d.code.length d.origs.length d.dests.length d.loops.length d.cases.length, drV B0 B1 B2 B3 B4 b0 b1 b2 b3 b4 d.code.length d.origs.length d.dests.length d.loops.length d.cases.length] w fun e w' => e = .returned (.bool true) ∧ Below w.heap.size w w' :=
  tinderref10_Same.calls (N + N + 1) A0 c0 _ A1 c1 _ A2 c2 _ A3 c3 _ A4 c4 _ B0 b0 _ B1 b1 _ B2 b2 _ B3 b3 _ B4 b4 _ true w h.r0 h.l0 h.r1 h.l1 h.r2 h.l2 h.r3 h.l3 h.r4 h.l4 h'.r0 h'.l0 h'.r1 h'.l1 h'.r2 h'.l2 h'.r3 h'.l3 h'.r4 h'.l4 (same_f hN hN2)
theorem sameOps_calls {A B : Option Addr} {c b : Nat} {l : List S37} {w : World} (h : Kd.C k37 w A l.length l) (hc : l.length ≤ c) (h' : Kd.C k37 w B l.length l) (hb : l.length ≤ b) :
    Calls Try.prog 19 #[.slice A l.length c, .slice B l.length b] w fun e w' => e = .returned (.bool true) ∧ Below w.heap.size w w' :=
  (tinderref10_SameOps.calls (l.length + 1) A c l B b l true w h hc h' hb (sameOps_f l h.2.1 _ (by omega))).mono fun e w' hp => ⟨hp.1, hp.2.below⟩
end Go.Proofs.Ytmglkgjnhoojaaa.PCodeRows
