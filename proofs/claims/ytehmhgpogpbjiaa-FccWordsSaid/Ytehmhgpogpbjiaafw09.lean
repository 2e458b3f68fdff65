/- scan.Cut: the program's tokens are those that the lists say. -/
import Derived.Test.Ytehmhgpogpbjiaafw07
import Derived.Test.Ytehmhgpogpbjiaafw08
namespace Go.Proofs.Ytehmhgpogpbjiaa
open Go.RowKit Go.Proofs.YtehmhgpogpbjiaaW.PrintWords Go.Proofs.YtehmhgpogpbjiaaW.PrintLast Go.Proofs.Ytehmhgpogpbjiaa.PFccTokens
set_option linter.unusedVariables false
set_option linter.unusedSimpArgs false
section
variable {s : ByteArray} {l t r : List UInt8}
theorem up34 (hs : s.size ≤ 4096) (hl : l <:+ s.data.toList) (hu : upL 34 l = some (t, r)) : scan_cutter_upto.f s (pos s l) 34 = some (byt t, true, s, pos s r) := upto_some (c := 34) hs hl hu
theorem up34n (hs : s.size ≤ 4096) (hl : l <:+ s.data.toList) (hu : upL 34 l = none) : scan_cutter_upto.f s (pos s l) 34 = some (byt l, false, s, pos s l) := upto_none (c := 34) hs hl hu
theorem up41 (hs : s.size ≤ 4096) (hl : l <:+ s.data.toList) (hu : upL 41 l = some (t, r)) : scan_cutter_upto.f s (pos s l) 41 = some (byt t, true, s, pos s r) := upto_some (c := 41) hs hl hu
theorem up41n (hs : s.size ≤ 4096) (hl : l <:+ s.data.toList) (hu : upL 41 l = none) : scan_cutter_upto.f s (pos s l) 41 = some (byt l, false, s, pos s l) := upto_none (c := 41) hs hl hu
theorem up10 (hs : s.size ≤ 4096) (hl : l <:+ s.data.toList) (hu : upL 10 l = some (t, r)) : scan_cutter_upto.f s (pos s l) 10 = some (byt t, true, s, pos s r) := upto_some (c := 10) hs hl hu
theorem up10n (hs : s.size ≤ 4096) (hl : l <:+ s.data.toList) (hu : upL 10 l = none) : scan_cutter_upto.f s (pos s l) 10 = some (byt l, false, s, pos s l) := upto_none (c := 10) hs hl hu
theorem sfx_up {c : UInt8} (hl : l <:+ s.data.toList) (hu : upL c l = some (t, r)) : r <:+ s.data.toList := by
  rw [(upL_some hu).1] at hl
  exact sfx_tl (sfx_app hl)
end
theorem lim_f (x : List UInt8) : scan_limited.f (byt x) = some (byt (limL x []).2.1, (limL x []).1) := by
  unfold scan_limited.f limL
  rw [byt_size]
  by_cases h : x.length > 255
  · rw [if_pos (by omega), if_pos h]; rfl
  · rw [if_neg (by omega), if_neg h]
theorem quoted_ev (s : ByteArray) (hs : s.size ≤ 4096) {acc l : List UInt8} {e : Int} {t r : List UInt8} (h : QuotR acc l e t r) :
    l <:+ s.data.toList → acc.length + l.length ≤ 100000 → ∃ p, Ev (fun k => scan_cutter_quoted.l0 k (ints acc) s (pos s l)) (byt t, e, s, p) ∧ (e = 0 → p = pos s r) := by
  induction h with
  | @none acc l hu =>
    intro hl hb
    refine ⟨pos s l, Ev.step (f := fun k => scan_cutter_quoted.l0 (k + 1) _ _ _) (fun k => rfl) ?_, fun h => by cases h⟩
    simp only [scan_cutter_quoted.l0, up34n hs hl hu, Option.bind_some, Bool.false_eq_true, ↓reduceIte]
    exact Ev.now _
  | @fin acc l t hu =>
    intro hl hb
    have hlen := upL_len hu
    have h1 : (ints acc).length + (byt t).size < 140737488355328 := by rw [ints_len, byt_size]; omega
    refine ⟨pos s [], Ev.step (f := fun k => scan_cutter_quoted.l0 (k + 1) _ _ _) (fun k => rfl) ?_, fun _ => rfl⟩
    simp only [scan_cutter_quoted.l0, up34 hs hl hu, Option.bind_some, ↓reduceIte, h1, bytesOf_byt, ← ints_app, pos_nil]
    refine Ev.step (f := fun k => scan_cutter_quoted.j1 (k + 1) _ _ _ _) (fun k => rfl) ?_
    simp only [scan_cutter_quoted.j1, ↓reduceIte, str_ints, lim_f, Option.bind_some]
    exact Ev.now _
  | @blank acc l t r b hu hb0 =>
    intro hl hb
    have hlen := upL_len hu
    have hl2 := sfx_up hl hu
    have h1 : (ints acc).length + (byt t).size < 140737488355328 := by rw [ints_len, byt_size]; simp at hlen; omega
    have h2 : ¬ (pos s (b :: r) = (s.size : Int)) := by have := pos_lt (s := s) (b := b) (r := r); omega
    refine ⟨pos s (b :: r), Ev.step (f := fun k => scan_cutter_quoted.l0 (k + 1) _ _ _) (fun k => rfl) ?_, fun _ => rfl⟩
    simp only [scan_cutter_quoted.l0, up34 hs hl hu, Option.bind_some, ↓reduceIte, h1, bytesOf_byt, ← ints_app, h2, pos_ge hl2, pos_lt, blank_f hl2, hb0]
    refine Ev.step (f := fun k => scan_cutter_quoted.j1 (k + 1) _ _ _ _) (fun k => rfl) ?_
    simp only [scan_cutter_quoted.j1, ↓reduceIte, str_ints, lim_f, Option.bind_some]
    exact Ev.now _
  | @bad acc l t r b hu hb0 hne =>
    intro hl hb
    have hlen := upL_len hu
    have hl2 := sfx_up hl hu
    have h1 : (ints acc).length + (byt t).size < 140737488355328 := by rw [ints_len, byt_size]; simp at hlen; omega
    have h2 : ¬ (pos s (b :: r) = (s.size : Int)) := by have := pos_lt (s := s) (b := b) (r := r); omega
    have h3 : ¬ (((b.toNat : Nat) : Int) = 40) := fun e => hne (UInt8.toNat_inj.1 (by show b.toNat = 40; omega))
    refine ⟨pos s (b :: r), Ev.step (f := fun k => scan_cutter_quoted.l0 (k + 1) _ _ _) (fun k => rfl) ?_, fun h => by cases h⟩
    simp only [scan_cutter_quoted.l0, up34 hs hl hu, Option.bind_some, ↓reduceIte, h1, bytesOf_byt, ← ints_app, h2, pos_ge hl2, pos_lt, blank_f hl2, hb0]
    refine Ev.step (f := fun k => scan_cutter_quoted.j1 (k + 1) _ _ _ _) (fun k => rfl) ?_
    simp only [scan_cutter_quoted.j1, Bool.false_eq_true, ↓reduceIte, pos_ge hl2, pos_lt, bt_pos hl2, h3]
    exact Ev.now _
  | @noend acc l t r hu h41 =>
    intro hl hb
    have hlen := upL_len hu
    have hl2 := sfx_up hl hu
    have h1 : (ints acc).length + (byt t).size < 140737488355328 := by rw [ints_len, byt_size]; simp at hlen; omega
    have h2 : ¬ (pos s (40 :: r) = (s.size : Int)) := by have := pos_lt (s := s) (b := 40) (r := r); omega
    have h3 : bt s (pos s (40 :: r)) = 40 := bt_pos hl2
    have hb0 : isB 40 = false := rfl
    refine ⟨pos s r, Ev.step (f := fun k => scan_cutter_quoted.l0 (k + 1) _ _ _) (fun k => rfl) ?_, fun h => by cases h⟩
    simp only [scan_cutter_quoted.l0, up34 hs hl hu, Option.bind_some, ↓reduceIte, h1, bytesOf_byt, ← ints_app, h2, pos_ge hl2, pos_lt, blank_f hl2, hb0]
    refine Ev.step (f := fun k => scan_cutter_quoted.j1 (k + 1) _ _ _ _) (fun k => rfl) ?_
    simp only [scan_cutter_quoted.j1, Bool.false_eq_true, ↓reduceIte, pos_ge hl2, pos_lt, h3, pos_next hs hl2, up41n hs (sfx_tl hl2) h41, Option.bind_some]
    exact Ev.now _
  | @nohex acc l t r x r2 hu h41 hx =>
    intro hl hb
    have hlen := upL_len hu
    have hlen2 := upL_len h41
    have hl2 := sfx_up hl hu
    have h1 : (ints acc).length + (byt t).size < 140737488355328 := by rw [ints_len, byt_size]; simp at hlen; omega
    have h2 : ¬ (pos s (40 :: r) = (s.size : Int)) := by have := pos_lt (s := s) (b := 40) (r := r); omega
    have h3 : bt s (pos s (40 :: r)) = 40 := bt_pos hl2
    have hb0 : isB 40 = false := rfl
    have hxs : (byt x).size ≤ 4096 := by
      rw [byt_size]; have := sfx_len (sfx_tl hl2); omega
    obtain ⟨z, hz⟩ := (bytesOf_ev (byt x) hxs x none (acc ++ t) (by rw [byt_data]; exact List.suffix_refl _) (fun u e => nomatch e) (by simp at hlen ⊢; omega)).2 hx
    have hp : pos (byt x) x = 0 := by unfold pos; rw [byt_size]; omega
    rw [hp] at hz
    refine ⟨pos s r2, Ev.step (f := fun k => scan_cutter_quoted.l0 (k + 1) _ _ _) (fun k => rfl) ?_, fun h => by cases h⟩
    simp only [scan_cutter_quoted.l0, up34 hs hl hu, Option.bind_some, ↓reduceIte, h1, bytesOf_byt, ← ints_app, h2, pos_ge hl2, pos_lt, blank_f hl2, hb0]
    refine Ev.step (f := fun k => scan_cutter_quoted.j1 (k + 1) _ _ _ _) (fun k => rfl) ?_
    simp only [scan_cutter_quoted.j1, Bool.false_eq_true, ↓reduceIte, pos_ge hl2, pos_lt, h3, pos_next hs hl2, up41 hs (sfx_tl hl2) h41, Option.bind_some]
    refine Ev.bind hz ?_
    simp only [Bool.false_eq_true, ↓reduceIte]
    exact Ev.now _
  | @hex acc l t r x r2 y t' r' e hu h41 hx hq ih =>
    intro hl hb
    have hlen := upL_len hu
    have hlen2 := upL_len h41
    have hl2 := sfx_up hl hu
    have hl3 := sfx_up (sfx_tl hl2) h41
    have h1 : (ints acc).length + (byt t).size < 140737488355328 := by rw [ints_len, byt_size]; simp at hlen; omega
    have h2 : ¬ (pos s (40 :: r) = (s.size : Int)) := by have := pos_lt (s := s) (b := 40) (r := r); omega
    have h3 : bt s (pos s (40 :: r)) = 40 := bt_pos hl2
    have hb0 : isB 40 = false := rfl
    have hxs : (byt x).size ≤ 4096 := by
      rw [byt_size]; have := sfx_len (sfx_tl hl2); omega
    have hy := hexL_len x none y hx
    have hz := (bytesOf_ev (byt x) hxs x none (acc ++ t) (by rw [byt_data]; exact List.suffix_refl _) (fun u e => nomatch e) (by simp at hlen ⊢; omega)).1 y hx
    have hp : pos (byt x) x = 0 := by unfold pos; rw [byt_size]; omega
    rw [hp] at hz
    obtain ⟨p, hp1, hp2⟩ := ih hl3 (by simp at hlen ⊢; omega)
    refine ⟨p, Ev.step (f := fun k => scan_cutter_quoted.l0 (k + 1) _ _ _) (fun k => rfl) ?_, hp2⟩
    simp only [scan_cutter_quoted.l0, up34 hs hl hu, Option.bind_some, ↓reduceIte, h1, bytesOf_byt, ← ints_app, h2, pos_ge hl2, pos_lt, blank_f hl2, hb0]
    refine Ev.step (f := fun k => scan_cutter_quoted.j1 (k + 1) _ _ _ _) (fun k => rfl) ?_
    simp only [scan_cutter_quoted.j1, Bool.false_eq_true, ↓reduceIte, pos_ge hl2, pos_lt, h3, pos_next hs hl2, up41 hs (sfx_tl hl2) h41, Option.bind_some]
    refine Ev.bind hz ?_
    simp only [↓reduceIte]
    exact hp1

/-! ### special words -/
def spec5 (s : ByteArray) (k : Int) (t : List UInt8) (e : Int) (p : Int) : Int × ByteArray × Int × ByteArray × Int := (k, byt t, e, s, p)
theorem sp_lineEnd {s : ByteArray} {R : List UInt8} (hs : s.size ≤ 4096) (hl : R <:+ s.data.toList) (hu : upL 10 R = none) :
    Ev (fun k => scan_cutter_special.f k s (pos s R) (byt [92])) (spec5 s 0 [] 0 (pos s [])) := by
  simp only [scan_cutter_special.f, byt_toList, ↓reduceIte, up10n hs hl hu, Option.bind_some, Bool.false_eq_true]
  rw [pos_nil]
  exact Ev.now _
theorem sp_line {s : ByteArray} {R t r : List UInt8} (hs : s.size ≤ 4096) (hl : R <:+ s.data.toList) (hu : upL 10 R = some (t, r)) :
    Ev (fun k => scan_cutter_special.f k s (pos s R) (byt [92])) (spec5 s 0 [] 0 (pos s r)) := by
  simp only [scan_cutter_special.f, byt_toList, ↓reduceIte, up10 hs hl hu, Option.bind_some]
  exact Ev.now _
theorem w40 : ¬ (([40] : List UInt8) = [92]) := by decide
theorem sp_noParen {s : ByteArray} {R : List UInt8} (hs : s.size ≤ 4096) (hl : R <:+ s.data.toList) (hu : upL 41 R = none) :
    Ev (fun k => scan_cutter_special.f k s (pos s R) (byt [40])) (spec5 s 0 [] 15 (pos s R)) := by
  simp only [scan_cutter_special.f, byt_toList, w40, ↓reduceIte, up41n hs hl hu, Option.bind_some, Bool.false_eq_true]
  exact Ev.now _
theorem sp_paren {s : ByteArray} {R t r : List UInt8} (hs : s.size ≤ 4096) (hl : R <:+ s.data.toList) (hu : upL 41 R = some (t, r)) :
    Ev (fun k => scan_cutter_special.f k s (pos s R) (byt [40])) (spec5 s 0 [] 0 (pos s r)) := by
  simp only [scan_cutter_special.f, byt_toList, w40, ↓reduceIte, up41 hs hl hu, Option.bind_some]
  exact Ev.now _
theorem sp_bare {s : ByteArray} {w : List UInt8} (h1 : w ≠ [92]) (h2 : w ≠ [40]) :
    Ev (fun k => scan_cutter_special.f k s (pos s []) (byt w)) (spec5 s 0 [] 15 (pos s [])) := by
  simp only [scan_cutter_special.f, byt_toList, h1, h2, ↓reduceIte, pos_nil]
  exact Ev.now _
theorem w4640a : ¬ (([46, 40] : List UInt8) = [92]) := by decide
theorem w4640b : ¬ (([46, 40] : List UInt8) = [40]) := by decide
theorem pos_ne {s : ByteArray} {b : UInt8} {r : List UInt8} : ¬ (pos s (b :: r) = (s.size : Int)) := by have := pos_lt (s := s) (b := b) (r := r); omega
theorem sp_noPrint {s : ByteArray} {r : List UInt8} {b : UInt8} (hs : s.size ≤ 4096) (hl : (b :: r) <:+ s.data.toList) (hu : upL 41 r = none) :
    Ev (fun k => scan_cutter_special.f k s (pos s (b :: r)) (byt [46, 40])) (spec5 s 0 [] 15 (pos s r)) := by
  simp only [scan_cutter_special.f, byt_toList, w4640a, w4640b, ↓reduceIte, pos_ne, pos_next hs hl, up41n hs (sfx_tl hl) hu, Option.bind_some, Bool.false_eq_true]
  exact Ev.now _
theorem sp_print {s : ByteArray} {r t r2 : List UInt8} {b : UInt8} (hs : s.size ≤ 4096) (hl : (b :: r) <:+ s.data.toList) (hu : upL 41 r = some (t, r2)) :
    Ev (fun k => scan_cutter_special.f k s (pos s (b :: r)) (byt [46, 40])) (spec5 s 3 (limL t []).2.1 (limL t []).1 (pos s r2)) := by
  simp only [scan_cutter_special.f, byt_toList, w4640a, w4640b, ↓reduceIte, pos_ne, pos_next hs hl, up41 hs (sfx_tl hl) hu, Option.bind_some, lim_f]
  exact Ev.now _
theorem sp_quot {s : ByteArray} {w r t r2 : List UInt8} {b : UInt8} {e : Int} (hs : s.size ≤ 4096) (hl : (b :: r) <:+ s.data.toList) (hw : w = [34] ∨ w = [46, 34]) (hq : QuotR [] r e t r2) :
    ∃ p, Ev (fun k => scan_cutter_special.f k s (pos s (b :: r)) (byt w)) (spec5 s (if w = [34] then 2 else 3) t e p) ∧ (e = 0 → p = pos s r2) := by
  obtain ⟨p, h1, h2⟩ := quoted_ev s hs hq (sfx_tl hl) (by have := sfx_len hl; simp at this ⊢; omega)
  refine ⟨p, ?_, h2⟩
  have a1 : ¬ (w = [92]) := by rcases hw with rfl | rfl <;> decide
  have a2 : ¬ (w = [40]) := by rcases hw with rfl | rfl <;> decide
  have a3 : ¬ (w = [46, 40]) := by rcases hw with rfl | rfl <;> decide
  simp only [scan_cutter_special.f, scan_cutter_quoted.f, byt_toList, a1, a2, a3, ↓reduceIte, pos_ne, pos_next hs hl]
  have h3 : Ev (fun k => scan_cutter_quoted.l0 k [] s (pos s r)) (byt t, e, s, p) := h1
  refine Ev.bind h3 ?_
  by_cases h4 : w = [34]
  · simp only [h4, ↓reduceIte]; exact Ev.now _
  · simp only [h4, ↓reduceIte]; exact Ev.now _
theorem quot_sfx {s : ByteArray} {acc l : List UInt8} {e : Int} {t r : List UInt8} (h : QuotR acc l e t r) (he : e = 0) : l <:+ s.data.toList → r <:+ s.data.toList := by
  induction h with
  | none _ => cases he
  | fin h => exact fun _ => List.nil_suffix
  | blank h _ => exact fun hl => sfx_up hl h
  | bad _ _ _ => cases he
  | noend _ _ => cases he
  | nohex _ _ _ => cases he
  | hex h1 h2 _ _ ih => exact fun hl => ih he (sfx_up (sfx_tl (sfx_up hl h1)) h2)
def fin (acc : List S59) (q : Int × List S59) : List S59 × Int := (if q.1 = 0 then acc ++ q.2 else [], q.1)
theorem fin_cons (acc : List S59) (x : S59) (q : Int × List S59) : fin acc (consT x q) = fin (acc ++ [x]) q := by
  unfold fin consT
  by_cases h : q.1 = 0
  · simp [h]
  · simp [h]
theorem suffix_drop {s : ByteArray} {l L : List UInt8} (hl : l <:+ s.data.toList) (h : l.dropWhile isB = L) : L <:+ s.data.toList := by
  subst h; exact (List.dropWhile_suffix _).trans hl
theorem sfx_rest {s : ByteArray} {L : List UInt8} (hl : L <:+ s.data.toList) : restL L <:+ s.data.toList := (List.dropWhile_suffix _).trans hl
theorem at_word {s : ByteArray} {L : List UInt8} (hs : s.size ≤ 4096) (hl : L <:+ s.data.toList) : wrap64 (pos s (restL L) - ((byt (wordL L)).size : Int)) = (s.size : Int) - L.length := by
  have h1 := rest_len L
  have h2 := pos_ge hl
  rw [byt_size]
  unfold pos at h2 ⊢
  rw [w64 (by omega) (by omega)]
  omega
theorem word_len {s : ByteArray} {L : List UInt8} (hl : L <:+ s.data.toList) (hs : s.size ≤ 4096) : (wordL L).length ≤ 4096 := by
  have := rest_len L
  have := sfx_len hl
  omega
theorem cut_step {s : ByteArray} (hs : s.size ≤ 4096) {l L : List UInt8} (acc : List S59) (hl : l <:+ s.data.toList) (hL : l.dropWhile isB = L) (h0 : L ≠ []) (hw : specW (wordL L)) {k : Int} {t : List UInt8} {e p : Int} {r : List S59 × Int}
    (hsp : Ev (fun k => scan_cutter_special.f k s (pos s (restL L)) (byt (wordL L))) (spec5 s k t e p))
    (hr : Ev (fun n => if e = 0 then (if k = 0 then scan_Cut.l0 n acc s p else if acc.length < 4398046511104 then scan_Cut.l0 n (acc ++ [⟨k, byt t, (s.size : Int) - L.length⟩]) s p else none) else some ([], e)) r) :
    Ev (fun n => scan_Cut.l0 n acc s (pos s l)) r := by
  have hLs := suffix_drop hl hL
  refine Ev.step (f := fun n => scan_Cut.l0 (n + 1) _ _ _) (fun k => rfl) ?_
  simp only [scan_Cut.l0]
  have hwd := word_ev s hs l hl
  rw [hL] at hwd
  refine Ev.bind hwd ?_
  have h1 : decide (L ≠ []) = true := decide_eq_true h0
  simp only [h1, ↓reduceIte, small_f _ (word_len hLs hs), special_f, Option.bind_some, decide_eq_true hw]
  refine Ev.bind hsp ?_
  simp only [spec5, at_word hs hLs]
  exact hr
theorem cut_ev (s : ByteArray) (hs : s.size ≤ 4096) {l : List UInt8} {q : Int × List S59} (h : CutR (s.size : Int) l q) :
    l <:+ s.data.toList → ∀ acc : List S59, acc.length + l.length ≤ 10000 → Ev (fun n => scan_Cut.l0 n acc s (pos s l)) (fin acc q) := by
  induction h with
  | @done l hL =>
    intro hl acc hb
    refine Ev.step (f := fun n => scan_Cut.l0 (n + 1) _ _ _) (fun k => rfl) ?_
    simp only [scan_Cut.l0]
    have hwd := word_ev s hs l hl
    rw [hL] at hwd
    refine Ev.bind hwd ?_
    have h1 : decide (([] : List UInt8) ≠ []) = false := by simp
    simp only [h1, Bool.false_eq_true, ↓reduceIte]
    have : fin acc (0, []) = (acc, 0) := by simp [fin]
    rw [this]
    exact Ev.now _
  | @lineEnd l L hL h0 hw hu =>
    intro hl acc hb
    have hLs := suffix_drop hl hL
    have hsp := sp_lineEnd hs (sfx_rest hLs) hu
    rw [← hw] at hsp
    refine cut_step hs acc hl hL h0 (.inl hw) hsp ?_
    simp only [↓reduceIte]
    refine Ev.step (f := fun n => scan_Cut.l0 (n + 1) _ _ _) (fun k => rfl) ?_
    simp only [scan_Cut.l0]
    have hwd := word_ev s hs [] (List.nil_suffix)
    refine Ev.bind hwd ?_
    have h1 : decide (List.dropWhile isB [] ≠ []) = false := by simp
    simp only [h1, Bool.false_eq_true, ↓reduceIte]
    have : fin acc (0, []) = (acc, 0) := by simp [fin]
    rw [this]
    exact Ev.now _
  | @line l L t r q hL h0 hw hu hq ih =>
    intro hl acc hb
    have hLs := suffix_drop hl hL
    have hsp := sp_line hs (sfx_rest hLs) hu
    rw [← hw] at hsp
    refine cut_step hs acc hl hL h0 (.inl hw) hsp ?_
    simp only [↓reduceIte]
    have := upL_len hu
    have := rest_lt hL h0
    exact ih (sfx_up (sfx_rest hLs) hu) acc (by omega)
  | @noParen l L hL h0 hw hu =>
    intro hl acc hb
    have hLs := suffix_drop hl hL
    have hsp := sp_noParen hs (sfx_rest hLs) hu
    rw [← hw] at hsp
    refine cut_step hs acc hl hL h0 (.inr (.inl hw)) hsp ?_
    exact Ev.now _
  | @paren l L t r q hL h0 hw hu hq ih =>
    intro hl acc hb
    have hLs := suffix_drop hl hL
    have hsp := sp_paren hs (sfx_rest hLs) hu
    rw [← hw] at hsp
    refine cut_step hs acc hl hL h0 (.inr (.inl hw)) hsp ?_
    simp only [↓reduceIte]
    have := upL_len hu
    have := rest_lt hL h0
    exact ih (sfx_up (sfx_rest hLs) hu) acc (by omega)
  | @bare l L hL h0 hw h1 h2 hr =>
    intro hl acc hb
    have hsp := sp_bare (s := s) h1 h2
    rw [← hr] at hsp
    refine cut_step hs acc hl hL h0 hw hsp ?_
    exact Ev.now _
  | @noPrint l L r b hL h0 hw hr hu =>
    intro hl acc hb
    have hLs := suffix_drop hl hL
    have hRs := sfx_rest hLs
    rw [hr] at hRs
    have hsp := sp_noPrint hs hRs hu
    rw [← hw, ← hr] at hsp
    refine cut_step hs acc hl hL h0 (.inr (.inr (.inl hw))) hsp ?_
    exact Ev.now _
  | @longPrint l L r t r2 b hL h0 hw hr hu ht =>
    intro hl acc hb
    have hLs := suffix_drop hl hL
    have hRs := sfx_rest hLs
    rw [hr] at hRs
    have hsp := sp_print hs hRs hu
    rw [← hw, ← hr] at hsp
    have e : limL t [] = (3, [], []) := by unfold limL; rw [if_pos (by omega)]
    rw [e] at hsp
    refine cut_step hs acc hl hL h0 (.inr (.inr (.inl hw))) hsp ?_
    exact Ev.now _
  | @print l L r t r2 b q hL h0 hw hr hu ht hq ih =>
    intro hl acc hb
    have hLs := suffix_drop hl hL
    have hRs := sfx_rest hLs
    rw [hr] at hRs
    have hsp := sp_print hs hRs hu
    rw [← hw, ← hr] at hsp
    have e : limL t [] = (0, t, []) := by unfold limL; rw [if_neg (by omega)]
    rw [e] at hsp
    refine cut_step hs acc hl hL h0 (.inr (.inr (.inl hw))) hsp ?_
    have h1 := upL_len hu
    have h2 := rest_lt hL h0
    rw [hr] at h2
    simp at h2
    have h3 : acc.length < 4398046511104 := by omega
    simp only [↓reduceIte, h3, show ¬ ((3 : Int) = 0) by decide]
    rw [fin_cons]
    exact ih (sfx_up (sfx_tl hRs) hu) _ (by simp; omega)
  | @noQuot l L r t r2 b e hL h0 hw hr hq he =>
    intro hl acc hb
    have hLs := suffix_drop hl hL
    have hRs := sfx_rest hLs
    rw [hr] at hRs
    obtain ⟨p, hsp, _⟩ := sp_quot hs hRs hw hq
    rw [← hr] at hsp
    refine cut_step hs acc hl hL h0 (hw.elim (fun h => .inr (.inr (.inr (.inl h)))) (fun h => .inr (.inr (.inr (.inr h))))) hsp ?_
    simp only [he, ↓reduceIte]
    have : fin acc (e, []) = ([], e) := by simp [fin, he]
    rw [this]
    exact Ev.now _
  | @quot l L r t r2 b q hL h0 hw hr hq hc ih =>
    intro hl acc hb
    have hLs := suffix_drop hl hL
    have hRs := sfx_rest hLs
    rw [hr] at hRs
    obtain ⟨p, hsp, hp⟩ := sp_quot hs hRs hw hq
    rw [hp rfl, ← hr] at hsp
    refine cut_step hs acc hl hL h0 (hw.elim (fun h => .inr (.inr (.inr (.inl h)))) (fun h => .inr (.inr (.inr (.inr h))))) hsp ?_
    have h1 := quot_len hq rfl
    have h2 := rest_lt hL h0
    rw [hr] at h2
    simp at h2
    have h3 : acc.length < 4398046511104 := by omega
    have h4 : ¬ ((if wordL L = [34] then (2 : Int) else 3) = 0) := by split <;> decide
    simp only [↓reduceIte, h3, h4]
    rw [fin_cons]
    have hs2 : r2 <:+ s.data.toList := quot_sfx hq rfl (sfx_tl hRs)
    exact ih hs2 _ (by simp; omega)
  | @word l L q hL h0 hw hq ih =>
    intro hl acc hb
    have hLs := suffix_drop hl hL
    have h2 := rest_lt hL h0
    have h3 : acc.length < 4398046511104 := by omega
    refine Ev.step (f := fun n => scan_Cut.l0 (n + 1) _ _ _) (fun k => rfl) ?_
    simp only [scan_Cut.l0]
    have hwd := word_ev s hs l hl
    rw [hL] at hwd
    refine Ev.bind hwd ?_
    have h1 : decide (L ≠ []) = true := decide_eq_true h0
    simp only [h1, ↓reduceIte, small_f _ (word_len hLs hs), special_f, Option.bind_some, decide_eq_false hw, Bool.false_eq_true, h3, at_word hs hLs]
    rw [fin_cons]
    exact ih (sfx_rest hLs) _ (by simp; omega)
end Go.Proofs.Ytehmhgpogpbjiaa
