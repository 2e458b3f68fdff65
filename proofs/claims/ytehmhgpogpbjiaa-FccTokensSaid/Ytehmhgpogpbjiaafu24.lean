import Derived.Test.Ytehmhgpogpbjiaafu23
import Derived.Test.Ytehmhgpogpbjiaafu21
set_option linter.unusedVariables false
set_option linter.unusedSimpArgs false
set_option maxRecDepth 100000
set_option maxHeartbeats 8000000
namespace Go.Proofs.Ytehmhgpogpbjiaa.Fcc
open Go.RowKit Go.Proofs.YtehmhgpogpbjiaaW.PrintWords Go.Proofs.YtehmhgpogpbjiaaW.PrintLast Go.Proofs.YtehmhgpogpbjiaaW.PrintMore Go.Proofs.Ytehmhgpogpbjiaa.PFccTokens
def Jf (b : Int) : Int := (YB.f b).getD 0
def VT (b : Int) : Int := if Jf b = 104 then 16 else if Jf b = 111 then 8 else if Jf b = 98 then 2 else if Jf b = 100 then 10 else 0
theorem base_all : ∀ b : Fin 256, YB.f (b.val : Int) = some (Jf b.val) ∧ XV.f (b.val : Int) = some (VT b.val) := by
 decide +kernel
theorem YdL (s : ByteArray) (i : Int) : YB.f (bt s i) = some (Jf (bt s i)) ∧ XV.f (bt s i) = some (VT (bt s i)) := by
 have hr := Yec s i
 obtain ⟨n, hn⟩ : ∃ n : Nat, bt s i = n := ⟨(bt s i).toNat, Z0⟩
 rw [hn]
 exact base_all ⟨n, Z0⟩
def okP (p : Int × Int) : Option Int := if p.2 = 0 then some p.1 else none
def litP (s : ByteArray) : Option Int :=
 if s.size > 2 ∧ bt s 1 = 35 then (if VT (bt s 0) = 0 then none else okP (Vf (s.extract 2 s.size) (VT (bt s 0)))) else okP (Vf s 10)
theorem base_mem (b : Int) (h : ¬ VT b = 0) : VT b ∈ ([2, 8, 10, 16] : List Int) := by
 unfold VT at h ⊢
 repeat' split
 all_goals simp_all
theorem okP_p (p : Int × Int) : ∃ z, (if p.2 = 0 then some (p.1, true) else some ((0 : Int), false)) = some ((okP p).getD z, (okP p).isSome) := by
 unfold okP; split
 ·exact ⟨0, rfl⟩
 ·exact ⟨0, rfl⟩
theorem okP_r (p : Int × Int) : ∃ z, some (p.1, (p.2 == 0)) = some ((okP p).getD z, (okP p).isSome) := by
 unfold okP; split
 ·rename_i h; exact ⟨0, (by rw [h]; rfl)⟩
 ·rename_i h; exact ⟨p.1, (by rw [beq_eq_false_iff_ne.2 h]; rfl)⟩
theorem Yd7 (s : ByteArray) (hs : s.size ≤ maxLen) : (s.extract 2 s.size).size ≤ maxLen := by
 have : (s.extract 2 s.size).size ≤ s.size := by simp
 omega
theorem dlit_ev (s : ByteArray) (hs : s.size ≤ maxLen) : ∃ z, Ev (fun k => YC.f k s) ((litP s).getD z, (litP s).isSome) := by
 unfold YC.f
 have plain : ∃ z, Ev (fun k => YC.j0 k s 10 false) ((okP (Vf s 10)).getD z, (okP (Vf s 10)).isSome) := by
  obtain ⟨z, hz⟩ := okP_p (Vf s 10)
  refine ⟨z, ?_⟩
  refine Ev.step (f := fun k => YC.j0 (k + 1) s 10 false) (fun k => rfl) ?_
  simp only [YC.j0, Bool.false_eq_true, if_false]
  refine Ev.bind (YcV Z6 s hs) ?_
  simp only [hz]
  exact Ev.now _
 by_cases h2 : s.size > 2
 ·simp only [if_pos (show (s.size : Int) > 2 by omega), if_pos (show (1 : Int) < (s.size : Int) by omega)]
  by_cases h1 : bt s 1 = 35
  ·have e : litP s = (if VT (bt s 0) = 0 then none else okP (Vf (s.extract 2 s.size) (VT (bt s 0)))) := by unfold litP; rw [if_pos ⟨h2, h1⟩]
   rw [e, beq_iff_eq.2 h1]
   by_cases h0 : VT (bt s 0) = 0
   ·refine ⟨0, ?_⟩
    refine Ev.step (f := fun k => YC.j0 (k + 1) s 10 true) (fun k => rfl) ?_
    simp only [YC.j0, if_true, if_pos (show (0 : Int) < (s.size : Int) by omega), if_pos (show (2 : Int) ≤ (s.size : Int) by omega), (YdL s 0).2, Option.bind_some, h0]
    refine Ev.bind (a := (0, 1)) ?_ ?_
    ·have : ∀ k, Yx.f k (s.extract 2 s.size) 0 = some (0, 1) := fun k => rfl
     exact Ev.congr this (Ev.now _)
    ·exact Ev.now _
   ·obtain ⟨z, hz⟩ := okP_p (Vf (s.extract 2 s.size) (VT (bt s 0)))
    refine ⟨z, ?_⟩
    rw [if_neg h0]
    refine Ev.step (f := fun k => YC.j0 (k + 1) s 10 true) (fun k => rfl) ?_
    simp only [YC.j0, if_true, if_pos (show (0 : Int) < (s.size : Int) by omega), if_pos (show (2 : Int) ≤ (s.size : Int) by omega), (YdL s 0).2, Option.bind_some]
    refine Ev.bind (YcV (base_mem _ h0) _ (Yd7 s hs)) ?_
    simp only [hz]
    exact Ev.now _
  ·have e : litP s = okP (Vf s 10) := by unfold litP; rw [if_neg (fun h => h1 h.2)]
   rw [e, beq_eq_false_iff_ne.2 h1]
   exact plain
 ·have e : litP s = okP (Vf s 10) := by unfold litP; rw [if_neg (fun h => h2 h.1)]
  rw [e]
  simp only [if_neg (show ¬ (s.size : Int) > 2 by omega)]
  exact plain
theorem rlit_ev (s : ByteArray) (hs : s.size ≤ maxLen) : ∃ z, Ev (fun k => Yp.f k s) ((litP s).getD z, (litP s).isSome) := by
 unfold Yp.f
 have plain : ∃ z, Ev (fun k => Yp.j0 k s 10 false) ((okP (Vf s 10)).getD z, (okP (Vf s 10)).isSome) := by
  obtain ⟨z, hz⟩ := okP_r (Vf s 10)
  refine ⟨z, ?_⟩
  refine Ev.step (f := fun k => Yp.j0 (k + 1) s 10 false) (fun k => rfl) ?_
  simp only [Yp.j0, Bool.false_eq_true, if_false]
  refine Ev.bind (Ycv Z6 s hs) ?_
  rw [← Option.some.inj hz]
  exact Ev.now _
 by_cases h2 : s.size > 2
 ·simp only [if_pos (show (s.size : Int) > 2 by omega), if_pos (show (1 : Int) < (s.size : Int) by omega)]
  by_cases h1 : bt s 1 = 35
  ·have e : litP s = (if VT (bt s 0) = 0 then none else okP (Vf (s.extract 2 s.size) (VT (bt s 0)))) := by unfold litP; rw [if_pos ⟨h2, h1⟩]
   rw [e, beq_iff_eq.2 h1]
   have go : ∀ base : Int, base ∈ ([2, 8, 10, 16] : List Int) → VT (bt s 0) = base → ∃ z, Ev (fun k => (Yb.f k (s.extract 2 s.size) base).bind fun bt472 => some (bt472.1, (bt472.2 == 0))) ((if VT (bt s 0) = 0 then none else okP (Vf (s.extract 2 s.size) (VT (bt s 0)))).getD z, (if VT (bt s 0) = 0 then none else okP (Vf (s.extract 2 s.size) (VT (bt s 0)))).isSome) := by
    intro base hb he
    obtain ⟨z, hz⟩ := okP_r (Vf (s.extract 2 s.size) base)
    refine ⟨z, ?_⟩
    have h0 : ¬ base = 0 := by intro h; subst h; simp at hb
    rw [he, if_neg h0]
    refine Ev.bind (Ycv hb _ (Yd7 s hs)) ?_
    rw [← Option.some.inj hz]
    exact Ev.now _
   have st : ∀ r, Ev (fun k => Yp.j0 (k + 1) s 10 true) r → Ev (fun k => Yp.j0 k s 10 true) r := fun r h => Ev.step (f := fun k => Yp.j0 (k + 1) s 10 true) (fun k => rfl) h
   suffices hh : ∃ z, Ev (fun k => Yp.j0 (k + 1) s 10 true) ((if VT (bt s 0) = 0 then none else okP (Vf (s.extract 2 s.size) (VT (bt s 0)))).getD z, (if VT (bt s 0) = 0 then none else okP (Vf (s.extract 2 s.size) (VT (bt s 0)))).isSome) from hh.imp fun z h => st _ h
   simp only [Yp.j0, if_true, if_pos (show (0 : Int) < (s.size : Int) by omega), if_pos (show (2 : Int) ≤ (s.size : Int) by omega), (YdL s 0).1, Option.bind_some]
   by_cases a1 : Jf (bt s 0) = 104
   ·simp only [if_pos a1]; exact go 16 Z6 (by unfold VT; rw [if_pos a1])
   by_cases a2 : Jf (bt s 0) = 111
   ·simp only [if_neg a1, if_pos a2]; exact go 8 Z6 (by unfold VT; rw [if_neg a1, if_pos a2])
   by_cases a3 : Jf (bt s 0) = 98
   ·simp only [if_neg a1, if_neg a2, if_pos a3]; exact go 2 Z6 (by unfold VT; rw [if_neg a1, if_neg a2, if_pos a3])
   by_cases a4 : Jf (bt s 0) = 100
   ·simp only [if_neg a1, if_neg a2, if_neg a3, if_pos a4]; exact go 10 Z6 (by unfold VT; rw [if_neg a1, if_neg a2, if_neg a3, if_pos a4])
   ·have h0 : VT (bt s 0) = 0 := by unfold VT; rw [if_neg a1, if_neg a2, if_neg a3, if_neg a4]
    simp only [if_neg a1, if_neg a2, if_neg a3, if_neg a4, h0, if_true]
    exact ⟨0, Ev.now _⟩
  ·have e : litP s = okP (Vf s 10) := by unfold litP; rw [if_neg (fun h => h1 h.2)]
   rw [e, beq_eq_false_iff_ne.2 h1]
   exact plain
 ·have e : litP s = okP (Vf s 10) := by unfold litP; rw [if_neg (fun h => h2 h.1)]
  rw [e]
  simp only [if_neg (show ¬ (s.size : Int) > 2 by omega)]
  exact plain
theorem YaY {w w' : World} (h : Xa w w') : Below w.heap.size w w' := by
 obtain ⟨n, rfl⟩ := h
 exact Yn (Below.refl _ _) n
theorem YcK : LitC litP := by
 intro s W hs
 obtain ⟨z, hz⟩ := dlit_ev s hs
 obtain ⟨k, h⟩ := hz.rounds
 exact (YC.calls k s _ _ W h).mono fun e w' ⟨he, hd⟩ => ⟨⟨z, he⟩, YaY hd⟩
theorem YbH (s : ByteArray) (W : World) (hs : s.size ≤ maxLen) : Calls Try.prog 48 #[.string s] W fun e W' => (∃ z : Int, e = .returned (.tuple #[.int .u32 ((litP s).getD z), .bool (litP s).isSome])) ∧ Below W.heap.size W W' := by
 obtain ⟨z, hz⟩ := rlit_ev s hs
 obtain ⟨k, h⟩ := hz.rounds
 exact (Yp.calls k s _ _ W h).mono fun e w' ⟨he, hd⟩ => ⟨⟨z, he⟩, YaY hd⟩
theorem num_range {base : Int} (hb : base ∈ ([2, 8, 10, 16] : List Int)) (s : ByteArray) : ∀ (f i : Nat) (n : Int) (big : Bool), 0 ≤ n → n < 4294967296 → ∀ r, numI base s f i n big = some (r, false) → 0 ≤ r ∧ r < 4294967296 := by
 intro f
 induction f with
 | zero =>
   intro i n big h0 h1 r h
   unfold numI at h
   obtain ⟨rfl, -⟩ := Prod.mk.inj (Option.some.inj h)
   exact ⟨h0, h1⟩
 | succ f ih =>
   intro i n big h0 h1 r h
   obtain ⟨-, -, v0, v1⟩ := val_ev hb s (i : Int)
   have hm := mulb hb h0 Z0
   unfold numI at h
   by_cases hv : (valP base (bt s i)).2 = true
   ·rw [if_pos hv] at h
    by_cases hg : big = true
    ·rw [if_pos hg] at h; exact ih _ _ _ h0 h1 r h
    ·rw [if_neg hg] at h
     by_cases hx : n * base + (valP base (bt s i)).1 > 4294967295
     ·rw [if_pos hx] at h; exact ih _ _ _ Z1 Z1 r h
     ·rw [if_neg hx] at h; exact ih _ _ _ Z0 Z0 r h
   ·rw [if_neg hv] at h; cases h
theorem out_range {neg : Bool} {o : Option (Int × Bool)} (h : ∀ r, o = some (r, false) → 0 ≤ r ∧ r < 4294967296) : 0 ≤ (outP neg o).1 ∧ (outP neg o).1 < 4294967296 := by
 match o, h with
 | none, _ => exact ⟨(by decide : (0 : Int) ≤ 0), (by decide : (0 : Int) < 4294967296)⟩
 | some (_, true), _ => exact ⟨(by decide : (0 : Int) ≤ 0), (by decide : (0 : Int) < 4294967296)⟩
 | some (n, false), h =>
   have hn := h n rfl
   unfold outP; dsimp only; split <;> omega
theorem parse_range {base : Int} (hb : base ∈ ([2, 8, 10, 16] : List Int)) (s : ByteArray) : 0 ≤ (Vf s base).1 ∧ (Vf s base).1 < 4294967296 := by
 unfold Vf; split
 ·exact ⟨Z1, Z1⟩
 ·exact out_range fun r h => num_range hb _ _ _ _ _ Z1 Z1 r h
theorem ok_range {p : Int × Int} (h : 0 ≤ p.1 ∧ p.1 < 4294967296) (v : Int) (e : okP p = some v) : 0 ≤ v ∧ v < 4294967296 := by
 unfold okP at e; split at e
 ·obtain rfl := Option.some.inj e; exact h
 ·cases e
theorem YcJ (s : ByteArray) (v : Int) (e : litP s = some v) : 0 ≤ v ∧ v < 4294967296 := by
 unfold litP at e
 split at e
 ·split at e
  ·cases e
  ·rename_i h; exact ok_range (parse_range (base_mem _ h) _) v e
 ·exact ok_range (parse_range Z6 _) v e
set_option maxRecDepth 100000
theorem Jh : primsL.length ≤ 1000 ∧ ∀ p ∈ primsL, p.f0.size ≤ maxLen ∧ 0 ≤ p.f1 ∧ p.f1 ≤ 4095 := by decide +kernel
noncomputable def toksP (s : ByteArray) : List S37 × Int := if (cutP s).2 = 0 then Uj YU (primsL.map pr).reverse litP VB (cutP s).1 else ([], (cutP s).2)
theorem JY (s : ByteArray) (hs : s.size ≤ maxLen) (w : World) : Calls Try.prog 7 #[.string s] w (Yfg (toksP s) w) := by
 unfold toksP
 by_cases he : (cutP s).2 = 0
 ·rw [if_pos he]
  exact tokens_ok Yff YcK YcJ Ybf Ya9 Jh.1 Jh.2 Yae cut_ok s hs he
 ·rw [if_neg he]
  exact Yek Yae s hs he
abbrev PL : List (ByteArray × Int) := (primsL.map pr).reverse
theorem Yd5 {α : Type} {p : α → Bool} : ∀ {l : List α}, l.Pairwise (fun a b => ¬ (p a = true ∧ p b = true)) → l.reverse.find? p = l.find? p
 | [], _ => rfl
 | x :: l, h => by
   obtain ⟨h1, h2⟩ := List.pairwise_cons.1 h
   rw [List.reverse_cons, List.find?_append, Yd5 h2]
   cases hx : p x with
   | true =>
     have hn : l.find? p = none := List.find?_eq_none.2 fun y hy hp => h1 y hy ⟨hx, (by simpa using hp)⟩
     rw [hn]
     simp [List.find?_cons, hx]
   | false => cases hl : l.find? p <;> simp [List.find?_cons, hx, hl]
theorem Ydq : (primsL.map (·.f0)).Pairwise (· ≠ ·) := by decide +kernel
theorem YeL (s : ByteArray) : PL.find? (fun p => decide (p.1 = s)) = (primsL.map pr).find? (fun p => decide (p.1 = s)) := by
 refine Yd5 ?_
 rw [List.pairwise_map]
 have := Ydq
 rw [List.pairwise_map] at this
 exact this.imp fun h ⟨h1, h2⟩ => h (by
  have e1 := of_decide_eq_true h1
  have e2 := of_decide_eq_true h2
  exact e1.trans e2.symm)
def FindPost (r : Option Int) (w : World) (e : Ending) (w' : World) : Prop := ∃ (c : Int) (b : Bool), e = .returned (.tuple #[.int .i64 c, .bool b]) ∧ r = (if b then some c else none) ∧ Below w.heap.size w w'
section
variable {w : World} {base gk gf : Nat} {T : Tx} {o : Nat → Nat} {vk vf : List Value} {m : Mk}
theorem nmL_get (l : List (ByteArray × Int)) (k : Nat) (h : k < l.length) : (nmL l)[l.length - 1 - k]? = some (l[k]).1 ∧ (cdL l)[l.length - 1 - k]? = some (l[k]).2 := by
 unfold nmL cdL
 rw [List.getElem?_map, List.getElem?_map, List.getElem?_reverse Z0]
 have : l.length - 1 - (l.length - 1 - k) = k := by omega
 rw [this, List.getElem?_eq_getElem h]
 exact ⟨rfl, rfl⟩
theorem YcR {α : Type} {p : α → Bool} {l : List α} {k : Nat} (h : (l.take k).find? p = none) (hk : k < l.length) : (p l[k] = true → l.find? p = some l[k]) ∧ (p l[k] = false → (l.take (k + 1)).find? p = none) := by
 constructor
 ·intro hp
  have e : l = l.take k ++ l[k] :: l.drop (k + 1) := by rw [List.getElem_cons_drop]; exact (List.take_append_drop k l).symm
  have e2 : (l.take k ++ l[k] :: l.drop (k + 1)).find? p = some l[k] := by
   rw [List.find?_append, h, List.find?_cons, hp]; rfl
  rw [← e] at e2
  exact e2
 ·intro hp
  rw [List.take_add_one, List.getElem?_eq_getElem hk, Option.toList_some, List.find?_append, h]
  simp [List.find?_cons, hp]
theorem str_ne {a b : ByteArray} (h : ¬ a = b) : (a.toList == b.toList) = false := by
 rw [beq_eq_false_iff_ne]
 intro e
 rw [Go.Lib.toList_data, Go.Lib.toList_data] at e
 exact h (ByteArray.ext (Array.ext' e))
theorem UA (h : Rx w base gk gf T o vk vf m) (hl : m.names.length < 1099511627776) (s : ByteArray) :
 Calls Try.prog 47 #[.pointer (some ⟨gk, 0, none⟩), .string s] w (FindPost (Vz PL m s) w) := by
 obtain ⟨A0, c0, A2, c2, A3, c3, A4, c4, u9, u10, u11, u12, u13, u14, u15, rfl⟩ := h.kc
 have k3 := h.k.cell 3 rfl
 have k4 := h.k.cell 4 rfl
 have R3 : Kd.R Kd.string 9 w base (fun k => o k = 0 + 1 + 3) (.slice A3 m.names.length c3) (nmL m.names) := h.k.row 3 _ _ rfl rfl
 have R4 : Kd.R (Kd.int .i64) 3 w base (fun k => o k = 0 + 1 + 4) (.slice A4 m.names.length c4) (cdL m.names) := h.k.row 4 _ _ rfl rfl
 have C3 := (Kd.R_reads' R3).2.2
 have C4 := (Kd.R_reads' R4).2.2
 rw [Ydt] at C3
 rw [YdJ] at C4
 obtain ⟨r, hr⟩ : ∃ r, Vz PL m s = r := ⟨_, rfl⟩
 rw [hr]
 unfold Vz at hr
 rw [YeL] at hr
 generalize m.names = l at *
 replace hr := Aside0.mk hr
 replace C3 := Aside0.mk C3
 replace C4 := Aside0.mk C4
 clear R3 R4 h
 have e1 : wrap64 ((l.length : Int) - 1) = (l.length : Int) - 1 := IntWalk.wrap64_in _ ⟨Z0, Z0⟩
 go_enter Try.func47, Try.ntmps47
 go_wp2_with fail
 go_loopg [6] l.length (fun gg s6 wr => ∃ kk : Nat, kk ≤ l.length ∧ l.length - kk ≤ gg ∧ s6 = .int .i64 ((l.length : Int) - 1 - kk) ∧ wr = w ∧ Aside0 ((l.take kk).find? (fun p => decide (p.1 = s)) = none))
 case atStart => exact ⟨0, Nat.zero_le _, Z0, Z6, rfl, ⟨rfl⟩⟩
 case round =>
  obtain ⟨kk, hk1, hg, rfl, rfl, HN⟩ := hrel
  by_cases hlt : kk < l.length
  ·have hz : (0 : Int) ≤ (l.length : Int) - 1 - kk := by omega
   have hz2 : (l.length : Int) - 1 - kk < (l.length : Int) := by omega
   obtain ⟨ad3, e, g3⟩ := Kd.at_string C3.out ((l.length : Int) - 1 - kk) hz hz2
   cases e
   obtain ⟨ad4, e, g4⟩ := Kd.at_int C4.out ((l.length : Int) - 1 - kk) hz hz2
   cases e
   have hnat : ((l.length : Int) - 1 - kk).toNat = l.length - 1 - kk := by omega
   have hn := nmL_get l kk hlt
   have r3 : rdOf ByteArray.empty (nmL l) ((l.length : Int) - 1 - kk) = l[kk].1 := by simp [rdOf, hnat, List.getD_eq_getElem?_getD, hn.1]
   have r4 : rd (cdL l) ((l.length : Int) - 1 - kk) = l[kk].2 := by simp [rd, hnat, List.getD_eq_getElem?_getD, hn.2]
   rw [r3, hnat] at g3
   rw [r4, hnat] at g4
   have hz3 : (kk : Int) ≤ (l.length : Int) - 1 := by omega
   have ht := Aside0.mk (YcR HN.out hlt)
   have hgk := Aside0.mk (show l.length - (kk + 1) < gk ∧ kk + 1 ≤ l.length by omega)
   have hez : Aside0 (IntKind.i64.wrap ((l.length : Int) - 1 - kk - 1) = (l.length : Int) - 1 - (kk + 1 : Nat)) := ⟨(by rw [IntWalk.i64_in _ Z0]; omega)⟩
   clear hn r3 r4 hnat hg
   generalize l[kk] = p at g3 g4 ht
   by_cases hp : p.1 = s
   ·have hb := Aside0.mk (ht.out.1 (decide_eq_true hp))
    obtain ⟨q, d⟩ := p
    simp only at hp g3 g4 hb
    subst hp
    rw [hb.out] at hr
    replace hr := hr.out
    clear ht HN hb
    go_wp2_with fail
    exact bodyPost_ret (v := .tuple #[.int .i64 d, .bool true]) Z1T rfl ⟨d, true, rfl, hr.symm, Below.refl _ _⟩
   ·have hb := str_ne hp
    have ht2 := Aside0.mk (ht.out.2 (decide_eq_false hp))
    clear ht
    go_wp2_with fail
    go_roundg (l.length - (kk + 1))
    case measure => exact hgk.out.1
    case rel => exact ⟨kk + 1, hgk.out.2, Nat.le_refl _, congrArg (Value.int .i64) Z0, rfl, ht2⟩
  ·obtain rfl : kk = l.length := by omega
   have hN := HN.out
   rw [List.take_of_length_le (Nat.le_refl _)] at hN
   rw [hN] at hr
   replace hr := Aside0.mk hr.out
   have hz : ¬ (l.length : Int) ≤ (l.length : Int) - 1 := by omega
   have hz0 : (l.length : Int) - 1 - (l.length : Int) = -1 := by omega
   rw [hz0]
   clear hN HN hg C3 C4
   go_wp2_with fail
   refine (Yay _).mono ?_
   rintro e w2 ⟨v, rfl, hP, hB⟩
   obtain ⟨Ap, cp, rfl, hcp, hPC⟩ := Kd.R_reads hP
   have hlen : primsL.length = 111 := rfl
   rw [hlen] at hPC hcp ⊢
   replace hPC := Aside0.mk hPC
   replace hB := Aside0.mk hB
   clear hP hlen
   have hr2 : (((primsL.map pr).find? (fun p => decide (p.1 = s))).map (·.2)) = r := hr.out
   replace hr2 := Aside0.mk hr2
   clear hr
   go_wp2_with fail
   go_loopg [8] 111 (fun gg s8 wr => ∃ kk : Nat, kk ≤ 111 ∧ 111 - kk ≤ gg ∧ s8 = .int .i64 kk ∧ wr = w2 ∧ Aside0 (((primsL.map pr).take kk).find? (fun p => decide (p.1 = s)) = none))
   case atStart => exact ⟨0, Z0, Z0, rfl, rfl, ⟨rfl⟩⟩
   case round =>
    obtain ⟨kk, hk1, hg, rfl, rfl, HN⟩ := hrel
    by_cases hlt : kk < 111
    ·have hz1 : (kk : Int) < 111 := by omega
     obtain ⟨adp, e, g0, g1⟩ := at_T34 hPC.out (kk : Int) Z0 Z0
     cases e
     have hlt' : kk < (primsL.map pr).length := hlt
     have hrd : (primsL.map pr)[kk] = pr (rd_T34 primsL (kk : Int)) := by
      simp [rd_T34, List.getD_eq_getElem?_getD]
      rw [List.getElem?_eq_getElem (show kk < primsL.length from hlt)]
      rfl
     have ht := YcR HN.out hlt'
     rw [hrd] at ht
     replace ht := Aside0.mk ht
     have hgk := Aside0.mk (show 111 - (kk + 1) < gk ∧ kk + 1 ≤ 111 by omega)
     rw [Int.toNat_natCast] at g0 g1
     clear hrd hg
     generalize rd_T34 primsL (kk : Int) = p at g0 g1 ht
     by_cases hp : p.f0 = s
     ·have hb := ht.out.1 (decide_eq_true hp)
      rw [hb] at hr2
      have hr3 := hr2.out
      clear ht HN hb hr2
      subst hp
      go_wp2_with fail
      exact bodyPost_ret (v := .tuple #[.int .i64 p.f1, .bool true]) Z1T rfl ⟨p.f1, true, rfl, hr3.symm, hB.out⟩
     ·have hb := str_ne hp
      have ht2 := Aside0.mk (ht.out.2 (decide_eq_false hp))
      clear ht
      go_wp2_with fail
      go_roundg (111 - (kk + 1))
      case measure => exact hgk.out.1
      case rel => exact ⟨kk + 1, hgk.out.2, Nat.le_refl _, ZE, rfl, ht2⟩
    ·obtain rfl : kk = 111 := by omega
     have hN := HN.out
     rw [List.take_of_length_le (show (primsL.map pr).length ≤ 111 from Nat.le_refl _)] at hN
     rw [hN] at hr2
     have hr3 := hr2.out
     clear hN HN hg hPC hr2
     go_wp2_with fail
     exact bodyPost_ret (v := .tuple #[.int .i64 0, .bool false]) Z1T rfl ⟨0, false, rfl, hr3.symm, hB.out⟩
end
theorem Ydh (s : ByteArray) (hs : s.size ≤ maxLen) : ∀ (f i : Nat), i + f = s.size → Ev (fun k => Yv.l0 k s (i : Int)) (decide (1 ≤ s.size ∧ s.size ≤ 31) && !(s.data.toList.drop i).any fun b => oddN b.toNat) := by
 have hmx : maxLen = 9223372036854775807 := rfl
 intro f
 induction f with
 | zero =>
   intro i hi
   refine Ev.step (f := fun k => Yv.l0 (k + 1) s (i : Int)) (fun k => rfl) ?_
   have hd : s.data.toList.drop i = [] := List.drop_eq_nil_of_le (by rw [Array.length_toList]; show s.size ≤ i; omega)
   rw [hd]
   simp only [Yv.l0, if_neg (show ¬ ((i : Int) < (s.size : Int)) by omega)]
   by_cases h1 : (s.size : Int) ≥ 1
   ·simp only [if_pos h1]
    have : (decide (1 ≤ s.size ∧ s.size ≤ 31) && !([] : List UInt8).any fun b => oddN b.toNat) = decide ((s.size : Int) ≤ 31) := by
     rw [List.any_nil, Bool.not_false, Bool.and_true]
     exact decide_eq_decide.2 Z0
    rw [this]
    exact Ev.now _
   ·simp only [if_neg h1]
    have : (decide (1 ≤ s.size ∧ s.size ≤ 31) && !([] : List UInt8).any fun b => oddN b.toNat) = false := by
     rw [List.any_nil, Bool.not_false, Bool.and_true]
     exact decide_eq_false Z0
    rw [this]
    exact Ev.now _
 | succ f ih =>
   intro i hi
   refine Ev.step (f := fun k => Yv.l0 (k + 1) s (i : Int)) (fun k => rfl) ?_
   have hw : wrap64 ((i : Int) + 1) = ((i + 1 : Nat) : Int) := by rw [IntWalk.wrap64_in _ ⟨Z0, Z0⟩]; omega
   have hil : i < s.data.toList.length := by rw [Array.length_toList]; show i < s.size; omega
   have hbt : bt s (i : Int) = ((s.data.toList[i]).toNat : Int) := by
    rw [bt_get, List.getD_eq_getElem?_getD, List.getElem?_eq_getElem hil]; rfl
   have hdr : s.data.toList.drop i = s.data.toList[i] :: s.data.toList.drop (i + 1) := List.drop_eq_getElem_cons hil
   simp only [Yv.l0, if_pos (show (i : Int) < (s.size : Int) by omega), if_pos (show (0 : Int) ≤ (i : Int) by omega), hw]
   rw [hbt, hdr, List.any_cons]
   generalize s.data.toList[i] = b
   have ho : oddN b.toNat = decide (b.toNat ≤ 32 ∨ 126 < b.toNat ∨ (65 ≤ b.toNat ∧ b.toNat ≤ 90)) := rfl
   by_cases h1 : (b.toNat : Int) < 33
   ·simp only [if_pos h1]
    rw [show oddN b.toNat = true by rw [ho]; exact decide_eq_true Z0]
    simp only [Bool.true_or, Bool.not_true, Bool.and_false]
    exact Ev.now _
   simp only [if_neg h1]
   by_cases h2 : (b.toNat : Int) > 126
   ·simp only [if_pos h2]
    rw [show oddN b.toNat = true by rw [ho]; exact decide_eq_true Z0]
    simp only [Bool.true_or, Bool.not_true, Bool.and_false]
    exact Ev.now _
   simp only [if_neg h2]
   by_cases h3 : (b.toNat : Int) ≥ 65
   ·simp only [if_pos h3]
    by_cases h4 : (b.toNat : Int) ≤ 90
    ·simp only [if_pos h4]
     rw [show oddN b.toNat = true by rw [ho]; exact decide_eq_true Z0]
     simp only [Bool.true_or, Bool.not_true, Bool.and_false]
     exact Ev.now _
    ·simp only [if_neg h4]
     rw [show oddN b.toNat = false by rw [ho]; exact decide_eq_false Z0]
     simp only [Bool.false_or]
     exact ih (i + 1) Z0
   ·simp only [if_neg h3]
    rw [show oddN b.toNat = false by rw [ho]; exact decide_eq_false Z0]
    simp only [Bool.false_or]
    exact ih (i + 1) Z0
theorem Yaz (s : ByteArray) (W : World) (hs : s.size ≤ maxLen) : Calls Try.prog 94 #[.string s] W fun e W' => e = .returned (.bool (YU s)) ∧ Below W.heap.size W W' := by
 obtain ⟨k, h⟩ := (Ydh s hs s.size 0 Z0).rounds
 refine (Yv.calls k s (YU s) W h).mono ?_
 rintro e w' ⟨rfl, n, rfl⟩
 exact ⟨rfl, Yn (Below.refl _ _) n⟩
def NamePost (base gk gf : Nat) (T : Tx) (r : (ByteArray × Mk) ⊕ Int) (w : World) (e : Ending) (w' : World) : Prop :=
 Below base w w' ∧ match r with
  | .inl (s, m) => e = .returned (.tuple #[.string s, .int .i64 0]) ∧ ∃ o vk vf, Rx w' base gk gf T o vk vf m
  | .inr c => ∃ s, e = .returned (.tuple #[.string s, .int .i64 c])
def Ya1 (base gk gf : Nat) (T : Tx) (r : (ByteArray × Int × Mk) ⊕ Int) (w : World) (e : Ending) (w' : World) : Prop :=
 Below base w w' ∧ match r with
  | .inl (s, n, m) => e = .returned (.tuple #[.string s, .int .i64 n, .int .i64 0]) ∧ ∃ o vk vf, Rx w' base gk gf T o vk vf m
  | .inr c => ∃ s n, e = .returned (.tuple #[.string s, .int .i64 n, .int .i64 c])
section
variable {w : World} {base gk gf : Nat} {T : Tx} {o : Nat → Nat} {vk vf : List Value} {m : Mk}
theorem UM (h : Rx w base gk gf T o vk vf m) : Calls Try.prog 74 #[.pointer (some ⟨gk, 0, none⟩)] w (NamePost base gk gf T (XY m) w) := by
 unfold XY
 cases hm : m.inp with
 | nil =>
   refine (YeE h hm).mono ?_
   rintro e w' ⟨rfl, hB⟩
   exact ⟨Below.mono hB h.k.base_le, _, rfl⟩
 | cons t r =>
   by_cases ht : t.f0 = 1
   ·refine (Ydi h hm ht).mono ?_
    rintro e w' ⟨rfl, hB, o', vk', vf', hR⟩
    simp only [if_pos ht]
    exact ⟨hB, rfl, o', vk', vf', hR⟩
   ·refine (rname_bad h hm ht).mono ?_
    rintro e w' ⟨rfl, hB⟩
    simp only [if_neg ht]
    exact ⟨Below.mono hB h.k.base_le, _, rfl⟩
theorem Rx.setNext (h : Rx w base gk gf T o vk vf m) (n : Int) : Rx (w.setCell ⟨gk, 5, none⟩ (.int .i64 n)) base gk gf T o (vk.set 5 (.int .i64 n)) vf { m with next := n } :=
 ⟨h.k.put 5 (loc_val _ _) rfl, St.besideP h.k h.f (.inr Z1), Z1W, h.lf, h.inp, h.le⟩
theorem YeF (h : Rx w base gk gf T o vk vf m) (hsz : ∀ t ∈ m.inp, t.f1.size ≤ maxLen) (hx : 0 ≤ m.next ∧ m.next ≤ 100000) : Calls Try.prog 77 #[.pointer (some ⟨gk, 0, none⟩)] w (Ya1 base gk gf T (XO YU m) w) := by
 have hn := UM h
 unfold XO
 cases hw : XY m with
 | inr c =>
   have hc : c = 15 := by
    unfold XY at hw
    cases hm : m.inp with
    | nil => rw [hm] at hw; cases hw; rfl
    | cons t r =>
      rw [hm] at hw
      dsimp only at hw
      split at hw
      ·cases hw
      ·cases hw; rfl
   subst hc
   rw [hw] at hn
   replace hn := Aside0.mk hn
   clear h hw
   go_enter Try.func77, Try.ntmps77
   go_wp2_with fail
   refine hn.out.mono ?_
   rintro e w1 ⟨hB, s, rfl⟩
   go_wp2_with fail
   exact Z2M
 | inl p =>
   obtain ⟨s, m1⟩ := p
   have hs : s.size ≤ maxLen ∧ m1.next = m.next := by
    unfold XY at hw
    cases hm : m.inp with
    | nil => rw [hm] at hw; cases hw
    | cons t r =>
      rw [hm] at hw
      dsimp only at hw
      split at hw
      ·cases hw; exact ⟨hsz t Z1y, rfl⟩
      ·cases hw
   rw [hw] at hn
   replace hn := Aside0.mk hn
   obtain ⟨hs, hnx⟩ := hs
   rw [← hnx] at hx
   have hbg := h.k.hb
   have hN := fun W => Yaz s W hs
   clear h hw hsz hnx
   replace hN := Aside0.mk hN
   show Calls Try.prog 77 #[.pointer (some ⟨gk, 0, none⟩)] w (Ya1 base gk gf T (if YU s = false then .inr 15 else if m1.next > 4095 then .inr 22 else .inl (s, m1.next, { m1 with next := m1.next + 1 })) w)
   cases hb : YU s with
   | false =>
     rw [hb] at hN
     rw [if_pos rfl]
     clear hb
     go_enter Try.func77, Try.ntmps77
     go_wp2_with fail
     refine hn.out.mono ?_
     rintro e w1 ⟨hB1, rfl, o1, vk1, vf1, h1⟩
     go_wp2_with fail
     refine (hN.out w1).mono ?_
     rintro e w2 ⟨rfl, hB2⟩
     have hB := hB1.trans (Below.mono hB2 h1.k.base_le)
     clear h1
     go_wp2_with fail
     exact Z2M
   | true =>
     rw [hb] at hN
     rw [if_neg Z1]
     clear hb
     by_cases hm : m1.next > 4095
     ·rw [if_pos hm]
      go_enter Try.func77, Try.ntmps77
      go_wp2_with fail
      refine hn.out.mono ?_
      rintro e w1 ⟨hB1, rfl, o1, vk1, vf1, h1⟩
      go_wp2_with fail
      refine (hN.out w1).mono ?_
      rintro e w2 ⟨rfl, hB2⟩
      have hB := Aside0.mk (hB1.trans (Below.mono hB2 h1.k.base_le))
      have h2 := h1.below hB2
      obtain ⟨A0, c0, A2, c2, A3, c3, A4, c4, u9, u10, u11, u12, u13, u14, u15, rfl⟩ := h2.kc
      have k5 := h2.k.cell 5 rfl
      have e1 : (4095 < m1.next) = True := eq_true hm
      clear h1 h2 hB1 hB2
      go_wp2_with fail
      exact bodyPost_ret (v := .tuple #[.string ⟨#[]⟩, .int .i64 0, .int .i64 22]) Z1t rfl ⟨hB.out, _, _, rfl⟩
     ·rw [if_neg hm]
      go_enter Try.func77, Try.ntmps77
      go_wp2_with fail
      refine hn.out.mono ?_
      rintro e w1 ⟨hB1, rfl, o1, vk1, vf1, h1⟩
      go_wp2_with fail
      refine (hN.out w1).mono ?_
      rintro e w2 ⟨rfl, hB2⟩
      have hB := hB1.trans (Below.mono hB2 h1.k.base_le)
      have h2 := h1.below hB2
      obtain ⟨A0, c0, A2, c2, A3, c3, A4, c4, u9, u10, u11, u12, u13, u14, u15, rfl⟩ := h2.kc
      have k5 := h2.k.cell 5 rfl
      have f5 := h2.k.free 5
      have e1 : (4095 < m1.next) = False := eq_false Z0
      have e2 : wrap64 (m1.next + 1) = m1.next + 1 := IntWalk.wrap64_in _ ⟨Z0, Z0⟩
      have h3 := Aside0.mk (h2.setNext (m1.next + 1))
      have hB3 := Aside0.mk (Below.setCell (p := ⟨gk, 5, none⟩) hB hbg (.int .i64 (m1.next + 1)))
      have hb2 := h2.k.base_le
      have k5' := h3.out.k.cell 5 rfl
      clear h1 h2 hB1 hB2 hB
      go_wp2_with fail
      generalize w2.setCell ⟨gk, 5, none⟩ (.int .i64 (m1.next + 1)) = w3 at h3 hB3 k5' ⊢
      have e3 : m1.next + 1 - 1 = m1.next := by omega
      have e4 : wrap64 m1.next = m1.next := IntWalk.wrap64_in _ ⟨Z0, Z0⟩
      go_quiet (fail)
      go_wp2_with fail
      have hq := Yn (Below.refl w3.heap.size w3) nq
      exact bodyPost_ret (v := .tuple #[.string s, .int .i64 m1.next, .int .i64 0]) Z1t rfl ⟨hB3.out.trans (Below.mono hq h3.out.k.base_le), rfl, _, _, _, h3.out.below hq⟩
end
end Go.Proofs.Ytehmhgpogpbjiaa.Fcc
