import Derived.Test.Ytehmhgpogpbjiaafr24
set_option linter.unusedVariables false
set_option linter.unusedSimpArgs false
set_option maxRecDepth 100000
set_option maxHeartbeats 8000000
namespace Go.Proofs.Ytehmhgpogpbjiaa.Fcc
open Go.RowKit Go.Proofs.Ytehmhgpogpbjiaa Go.Proofs.YtehmhgpogpbjiaaW.PrintWords Go.Proofs.YtehmhgpogpbjiaaW.PrintLast Go.Proofs.YtehmhgpogpbjiaaW.PrintMore Go.Proofs.Ytehmhgpogpbjiaa.PFccTokens
def cnt (l : List Tk) : Nat := l.countP fun t => decide (t.f0 = 182)
structure TOk (k : Nat) (t : Tk) : Prop where
 rt : rightP t true = true
 f3 : t.f3 = 0
 nw : t.f0 = 182 → t.f1 = 2048 + k
 cd : 2048 ≤ t.f0 → t.f0 < 2048 + k
 re : t.f0 = 17 ∨ t.f0 = 195 → Yr t.f1 = 0 ∧ (2048 ≤ t.f1 → t.f1 < 2048 + k)
def covL (m : Mk) : List Int := m.leads.map (·.f0) ++ m.origs ++ m.loops ++ m.cases.flatMap fun c => c.f0 :: c.f1
structure Rt (m : Mk) : Prop where
 out : ∀ i t, m.out[i]? = some t → TOk (cnt (m.out.take i)) t ∧ (Yr t.f0 = 4 → (i : Int) ∈ covL m)
 pos : ∀ x ∈ covL m, 0 ≤ x → ∃ t, m.out[x.toNat]? = some t ∧ Yr t.f0 = 4
 nx : m.next = 2048 + cnt m.out
 nm : ∀ p ∈ m.names, 2048 ≤ p.2 ∧ p.2 < m.next ∧ p.2 ≤ 4095
 cd : m.opn = true → 2048 ≤ m.code ∧ m.code < m.next ∧ m.code ≤ 4095
 cl : m.opn = false → m.origs = [] ∧ m.loops = [] ∧ m.cases = []
theorem XE {k : Nat} {c : Int} (hc : YP c = true) (hb : Yr c = 0 ∨ Yr c = 4) (hl : 2048 ≤ c → c < 2048 + k) : TOk k ⟨c, 0, emp, 0⟩ := by
 have he : emp.toList = [] := by rw [ByteArray.toList_eq]; rfl
 refine ⟨?_, rfl, fun h => ?_, hl, fun h => ?_⟩
 ·unfold rightP
  rcases hb with hb | hb <;> simp [hb, hc, he]
 ·simp only at h; subst h; exact absurd hb Z1
 ·simp only at h; rcases h with h | h <;> (subst h; exact absurd hb Z1)
theorem Rt.add' {m m0 : Mk} (h : Rt m) (c n : Int) (s : ByteArray) (ht : TOk (cnt m.out) ⟨c, n, s, 0⟩) (ho : m0.out = m.out) (hnx : m0.next = 2048 + cnt (m.out ++ [⟨c, n, s, 0⟩])) (hnm : ∀ p ∈ m0.names, 2048 ≤ p.2 ∧ p.2 < m0.next ∧ p.2 ≤ 4095) (hcd : m0.opn = true → 2048 ≤ m0.code ∧ m0.code < m0.next ∧ m0.code ≤ 4095)
 (hcv : ∀ x ∈ covL m, 0 ≤ x → x ∈ covL m0) (hnew : Yr c = 4 → (m.out.length : Int) ∈ covL m0) (hpos : ∀ x ∈ covL m0, 0 ≤ x → x ∈ covL m ∨ (x = m.out.length ∧ Yr c = 4)) (hcl : m0.opn = false → m0.origs = [] ∧ m0.loops = [] ∧ m0.cases = []) : Rt (m0.add c n s) := by
 have hO : (m0.add c n s).out = m.out ++ [⟨c, n, s, 0⟩] := by unfold Mk.add; rw [ho]
 have hC : covL (m0.add c n s) = covL m0 := rfl
 refine ⟨fun i t hi => ?_, fun x hx h0 => ?_, (by rw [hO]; exact hnx), hnm, hcd, hcl⟩
 ·rw [hO] at hi ⊢
  rw [hC]
  by_cases hl : i < m.out.length
  ·rw [List.getElem?_append_left hl] at hi
   rw [List.take_append_of_le_length Z0]
   exact ⟨(h.out i t hi).1, fun hb => hcv _ ((h.out i t hi).2 hb) Z0⟩
  ·have he : i = m.out.length := by
    have := (List.getElem?_eq_some_iff.1 hi).1
    simp at this; omega
   subst he
   rw [List.getElem?_append_right (Nat.le_refl _)] at hi
   simp at hi
   subst hi
   rw [List.take_left']
   ·exact ⟨ht, hnew⟩
   ·rfl
 ·rw [hO]
  rcases hpos x hx h0 with hx | ⟨rfl, hb⟩
  ·obtain ⟨t, ht, hb⟩ := h.pos x hx h0
   refine ⟨t, ?_, hb⟩
   rw [List.getElem?_append_left (List.getElem?_eq_some_iff.1 ht).1]
   exact ht
  ·exact ⟨_, (by simp; rfl), hb⟩
theorem cnt_snoc (l : List Tk) (t : Tk) (h : t.f0 ≠ 182) : cnt (l ++ [t]) = cnt l := by unfold cnt; rw [List.countP_append]; simp [h]
theorem cnt_new (l : List Tk) (t : Tk) (h : t.f0 = 182) : cnt (l ++ [t]) = cnt l + 1 := by unfold cnt; rw [List.countP_append]; simp [h]
theorem Rt.add {m m0 : Mk} (h : Rt m) (c n : Int) (s : ByteArray) (ht : TOk (cnt m.out) ⟨c, n, s, 0⟩) (h182 : c ≠ 182) (ho : m0.out = m.out) (hnx : m0.next = m.next) (hnm : m0.names = m.names) (hop : m0.opn = m.opn) (hco : m0.code = m.code)
 (hcv : ∀ x ∈ covL m, 0 ≤ x → x ∈ covL m0) (hnew : Yr c = 4 → (m.out.length : Int) ∈ covL m0) (hpos : ∀ x ∈ covL m0, 0 ≤ x → x ∈ covL m ∨ (x = m.out.length ∧ Yr c = 4)) (hcl : m0.opn = false → m0.origs = [] ∧ m0.loops = [] ∧ m0.cases = []) : Rt (m0.add c n s) :=
 h.add' c n s ht ho (by rw [hnx, cnt_snoc _ _ h182]; exact h.nx) (by rw [hnm, hnx]; exact h.nm) (by rw [hop, hco, hnx]; exact h.cd) hcv hnew hpos hcl
theorem Rt.put {m : Mk} (h : Rt m) (c n : Int) (s : ByteArray) (ht : TOk (cnt m.out) ⟨c, n, s, 0⟩) (h182 : c ≠ 182) (hb : Yr c ≠ 4) : Rt (m.add c n s) :=
 h.add c n s ht h182 rfl rfl rfl rfl rfl (fun _ hx _ => hx) (fun h => absurd h hb) (fun _ hx _ => .inl hx) h.cl
section
variable {m m1 : Mk}
theorem JB (h : Rt m) (ho : m.opn = true) (hr : resolveP m = .inl m1) : Rt m1 ∧ m1.opn = true := by
 unfold resolveP at hr
 split at hr
 ·cases hr
 ·rename_i x l hp
  cases hr
  have hq := Ud hp
  refine ⟨h.add 178 0 emp (XE rfl (.inl rfl) Z0) Z0 rfl rfl rfl rfl rfl ?_ (fun h => absurd h Z1) ?_ (fun h => absurd (ho.symm.trans h) Z3), ho⟩
  ·intro y hy h0; simp only [covL, hq, List.map_append, List.map_cons, List.map_nil, List.mem_append, List.mem_singleton] at hy ⊢; grind
  ·intro y hy h0; simp only [covL, hq, List.map_append, List.map_cons, List.map_nil, List.mem_append, List.mem_singleton] at hy ⊢; grind
theorem YcD {c : Int} (h : Rt m) (ho : m.opn = true) (hc : c = 19 ∨ c = 20) (hr : backP m c = .inl m1) : Rt m1 ∧ m1.opn = true := by
 unfold backP at hr
 split at hr
 ·cases hr
 ·rename_i x l hp
  cases hr
  have hb : Yr c = 4 ∧ YP c = true := by rcases hc with rfl | rfl <;> decide
  refine ⟨h.add c 0 emp (XE hb.2 (.inr hb.1) Z0) Z0 rfl rfl rfl rfl rfl ?_ (fun _ => ?_) ?_ (fun h => absurd (ho.symm.trans h) Z3), ho⟩
  ·intro y hy h0; simp only [covL, List.map_append, List.map_cons, List.map_nil, List.mem_append, List.mem_singleton] at hy ⊢; grind
  ·simp [covL, Mk.at_]
  ·intro y hy h0; simp only [covL, List.map_append, List.map_cons, List.map_nil, List.mem_append, List.mem_singleton] at hy ⊢; simp only [Mk.at_] at hy; grind
theorem rt_orig {c : Int} (h : Rt m) (ho : m.opn = true) (hc : c = 19 ∨ c = 20) (l : List Int) (hl : ∀ y, y ∈ l ↔ y ∈ m.origs ∨ y = m.at_) : Rt ({ m with origs := l }.add c) ∧ ({ m with origs := l }.add c).opn = true := by
 have hb : Yr c = 4 ∧ YP c = true := by rcases hc with rfl | rfl <;> decide
 refine ⟨h.add c 0 emp (XE hb.2 (.inr hb.1) Z0) Z0 rfl rfl rfl rfl rfl ?_ (fun _ => ?_) ?_ (fun h => absurd (ho.symm.trans h) Z3), ho⟩
 ·intro y hy h0; simp only [covL, List.mem_append, hl] at hy ⊢; grind
 ·simp [covL, hl, Mk.at_]
 ·intro y hy h0; simp only [covL, List.mem_append, hl, Mk.at_] at hy ⊢; grind
theorem rt_branch (h : Rt m) (ho : m.opn = true) (s : ByteArray) {r : Res} (hb : Xt m s = some r) (hr : r = .inl m1) : Rt m1 ∧ m1.opn = true := by
 subst hr
 unfold Xt at hb
 split at hb
 ·cases hb
  exact rt_orig h ho (.inr rfl) _ (fun y => by simp)
 split at hb
 ·have hb := Option.some.inj hb
  split at hb
  ·cases hb
  ·rename_i x l hp
   have hq := Ud hp
   have h1 := rt_orig h ho (c := 19) (.inl rfl) (l ++ [m.at_, x]) (fun y => by simp [hq]; grind)
   exact JB h1.1 h1.2 hb
 split at hb
 ·exact JB h ho (Option.some.inj hb)
 split at hb
 ·cases hb
  exact ⟨h.add 177 0 emp (XE rfl (.inl rfl) Z0) Z0 rfl rfl rfl rfl rfl (fun _ h _ => h) (fun h => absurd h Z1) (fun _ h _ => .inl h) (fun h => absurd (ho.symm.trans h) Z3), ho⟩
 split at hb
 ·exact YcD h ho (.inr rfl) (Option.some.inj hb)
 split at hb
 ·exact YcD h ho (.inl rfl) (Option.some.inj hb)
 split at hb
 ·have hb := Option.some.inj hb
  split at hb
  ·cases hb
  ·rename_i m2 hm
   have h1 := YcD h ho (.inl rfl) hm
   exact JB h1.1 h1.2 hb
 ·cases hb
theorem rt_loop (h : Rt m) (ho : m.opn = true) (s : ByteArray) {r : Res} (hb : VP m s = some r) (hr : r = .inl m1) : Rt m1 ∧ m1.opn = true := by
 subst hr
 have hdo : ∀ c : Int, c = 23 ∨ c = 24 → Rt ({ m with loops := m.loops ++ [m.at_] }.add c) ∧ m.opn = true := fun c hc => by
  have hb : Yr c = 4 ∧ YP c = true := by rcases hc with rfl | rfl <;> decide
  refine ⟨h.add c 0 emp (XE hb.2 (.inr hb.1) Z0) Z0 rfl rfl rfl rfl rfl ?_ (fun _ => ?_) ?_ (fun h => absurd (ho.symm.trans h) Z3), ho⟩
  ·intro y hy h0; simp only [covL, List.mem_append, List.mem_singleton] at hy ⊢; grind
  ·simp [covL, Mk.at_]
  ·intro y hy h0; simp only [covL, List.mem_append, List.mem_singleton, Mk.at_] at hy ⊢; grind
 unfold VP at hb
 split at hb
 ·cases hb; exact hdo 23 (.inl rfl)
 split at hb
 ·cases hb; exact hdo 24 (.inr rfl)
 split at hb
 ·have hb := Option.some.inj hb
  split at hb
  ·cases hb
  ·rename_i x l hp
   have hq := Ud hp
   have hb := Sum.inl.inj hb
   obtain ⟨c, hc⟩ : ∃ c : Int, (if s.toList = ([43, 108, 111, 111, 112] : List UInt8) then 22 else 21) = c := ⟨_, rfl⟩
   rw [hc] at hb
   have hb4 : Yr c = 4 ∧ YP c = true ∧ c < 2048 := by rw [← hc]; split <;> decide
   subst hb
   refine ⟨h.add c 0 emp (XE hb4.2.1 (.inr hb4.1) Z0) (fun e => by subst e; exact absurd hb4.1 Z1) rfl rfl rfl rfl rfl ?_ (fun _ => ?_) ?_ (fun h => absurd (ho.symm.trans h) Z3), ho⟩
   ·intro y hy h0; simp only [covL, hq, List.map_append, List.map_cons, List.map_nil, List.mem_append, List.mem_singleton, List.mem_cons, List.not_mem_nil, or_false] at hy ⊢; grind
   ·simp [covL, Mk.at_]
   ·intro y hy h0; simp only [covL, hq, List.map_append, List.map_cons, List.map_nil, List.mem_append, List.mem_singleton, List.mem_cons, List.not_mem_nil, or_false, Mk.at_] at hy ⊢; grind
 split at hb
 ·have hb := Option.some.inj hb
  split at hb
  ·cases hb
  ·cases hb
   exact ⟨h.put 27 0 emp (XE rfl (.inl rfl) Z0) Z0 Z1, ho⟩
 ·cases hb
theorem rt_choose (h : Rt m) (ho : m.opn = true) (s : ByteArray) (hb : Vh m s = .inl m1) : Rt m1 ∧ m1.opn = true := by
 have hno : ∀ {q : Prop}, m.opn = false → q := fun h => absurd (ho.symm.trans h) Z3
 unfold Vh at hb
 split at hb
 ·cases hb
  refine ⟨h.add 196 0 emp (XE rfl (.inl rfl) Z0) Z0 rfl rfl rfl rfl rfl ?_ (fun h => absurd h Z1) ?_ hno, ho⟩
  ·intro y hy h0; simp only [covL, List.flatMap_append, List.mem_append] at hy ⊢; grind
  ·intro y hy h0; simp only [covL, List.flatMap_append, List.flatMap_cons, List.flatMap_nil, List.append_nil, List.mem_append, List.mem_singleton] at hy ⊢; grind
 split at hb
 ·cases hb
 ·rename_i c hc
  have hq : m.cases = m.cases.dropLast ++ [c] := by
   obtain ⟨l, hl⟩ := List.getLast?_eq_some_iff.1 hc
   rw [hl]; simp
  generalize m.cases.dropLast = L at hq hb
  have b28 : Yr 28 = 4 := by decide
  have b198 : Yr 198 = 4 := by decide
  split at hb
  ·cases hb
  rename_i hx
  split at hb
  ·cases hb
   refine ⟨h.add 28 0 emp (XE rfl (.inr rfl) Z0) Z0 rfl rfl rfl rfl rfl ?_ (fun _ => ?_) ?_ hno, ho⟩
   ·rename_i hs
    have hc0 : c.f0 < 0 := by
     rw [hs] at hx
     simp at hx
     omega
    intro y hy h0; simp only [covL, hq, List.flatMap_append, List.flatMap_cons, List.flatMap_nil, List.append_nil, List.mem_append, List.mem_cons] at hy ⊢
    have : y ≠ c.f0 := by omega
    grind
   ·simp [covL, Mk.at_]
   ·intro y hy h0; simp only [covL, hq, List.flatMap_append, List.flatMap_cons, List.flatMap_nil, List.append_nil, List.mem_append, List.mem_cons, Mk.at_] at hy ⊢; grind
  split at hb
  ·cases hb
   refine ⟨h.add 198 0 emp (XE rfl (.inr rfl) Z0) Z0 rfl rfl rfl rfl rfl ?_ (fun _ => ?_) ?_ hno, ho⟩
   ·intro y hy h0; simp only [covL, hq, List.map_append, List.map_cons, List.map_nil, List.flatMap_append, List.flatMap_cons, List.flatMap_nil, List.append_nil, List.mem_append, List.mem_cons, List.mem_singleton] at hy ⊢; grind
   ·simp [covL, Mk.at_]
   ·intro y hy h0; simp only [covL, hq, List.map_append, List.map_cons, List.map_nil, List.flatMap_append, List.flatMap_cons, List.flatMap_nil, List.append_nil, List.mem_append, List.mem_cons, List.mem_singleton, Mk.at_] at hy ⊢; grind
  ·cases hb
   rename_i h2 h3
   have hc0 : c.f0 < 0 := by
    simp [h3] at hx
    omega
   refine ⟨h.add 197 0 emp (XE rfl (.inl rfl) Z0) Z0 rfl rfl rfl rfl rfl ?_ (fun h => absurd h Z1) ?_ hno, ho⟩
   ·intro y hy h0; simp only [covL, hq, List.map_append, List.map_map, List.flatMap_append, List.flatMap_cons, List.flatMap_nil, List.append_nil, List.mem_append, List.mem_cons, List.mem_map, Function.comp] at hy ⊢
    have : y ≠ c.f0 := by omega
    grind
   ·intro y hy h0; simp only [covL, hq, List.map_append, List.map_map, List.flatMap_append, List.flatMap_cons, List.flatMap_nil, List.append_nil, List.mem_append, List.mem_cons, List.mem_map, Function.comp] at hy ⊢; grind
end
structure Dct (named : ByteArray → Bool) (prims : List (ByteArray × Int)) (lit : ByteArray → Option Int) : Prop where
 pr : ∀ p ∈ prims, YP p.2 = true ∧ Yr p.2 = 0 ∧ p.2 < 2048
 nm : ∀ s, named s = true → s.size ≤ 31
 lt : ∀ s v, lit s = some v → 0 ≤ v ∧ v < 4294967296
def Cd (m : Mk) (n : Int) : Prop := YP n = true ∧ Yr n = 0 ∧ (2048 ≤ n → n < m.next) ∧ n ≤ 4095
section
variable {named : ByteArray → Bool} {prims : List (ByteArray × Int)} {lit : ByteArray → Option Int} {m m1 : Mk}
theorem Ydw {n : Int} (h : 2048 ≤ n ∧ n ≤ 4095) : YP n = true ∧ Yr n = 0 := by
 refine ⟨(by unfold YP; simp; omega), ?_⟩
 unfold Yr
 repeat' (split; omega)
 rfl
theorem YcC (D : Dct named prims lit) (h : Rt m) {s : ByteArray} {n : Int} (hf : UK prims m s = some n) : Cd m n := by
 unfold UK at hf
 split at hf
 ·rename_i p hp
  cases hf
  have := h.nm p (List.mem_of_find?_eq_some hp)
  exact ⟨(Ydw ⟨this.1, this.2.2⟩).1, (Ydw ⟨this.1, this.2.2⟩).2, fun _ => this.2.1, this.2.2⟩
 ·rw [Option.map_eq_some_iff] at hf
  obtain ⟨p, hp, rfl⟩ := hf
  have := D.pr p (List.mem_of_find?_eq_some hp)
  exact ⟨this.1, this.2.1, fun _ => by omega, Z0⟩
theorem Rt.take (h : Rt m) (r : List Tin) : Rt { m with inp := r } := ⟨h.out, h.pos, h.nx, h.nm, h.cd, h.cl⟩
theorem Jz {s : ByteArray} (hr : Vl m = .inl (s, m1)) : ∃ t r, m.inp = t :: r ∧ t.f1 = s ∧ m1 = { m with inp := r } := by
 unfold Vl at hr
 split at hr
 ·cases hr
 ·rename_i t r hi
  split at hr
  ·cases hr; exact ⟨t, r, hi, rfl, rfl⟩
  ·cases hr
theorem emp_nil : emp.toList = [] := by rw [ByteArray.toList_eq]; rfl
theorem Ybt (D : Dct named prims lit) (h : Rt m) {c : Int} (hc : c = 17 ∨ c = 195) (hr : Vo prims m c = .inl m1) : Rt m1 ∧ m1.opn = m.opn := by
 unfold Vo at hr
 split at hr
 ·cases hr
 ·rename_i s m2 hw
  obtain ⟨t, r, hi, rfl, rfl⟩ := Jz hw
  split at hr
  ·cases hr
  ·rename_i n hf
   cases hr
   obtain ⟨h1, h2, h3, h4⟩ := YcC D (h.take r) hf
   have hnx := (h.take r).nx
   have hcc : Yr c = 2 ∧ YP c = true ∧ c ≠ 182 ∧ c < 2048 := by rcases hc with rfl | rfl <;> decide
   refine ⟨(h.take r).put c n emp ⟨?_, rfl, fun e => absurd e hcc.2.2.1, fun e => by simp only at e; omega, fun _ => ⟨h2, fun e => by have := h3 e; rw [hnx] at this; exact this⟩⟩ hcc.2.2.1 Z0, rfl⟩
   unfold rightP
   simp [hcc.1, hcc.2.1, emp_nil, h1, h4]
theorem rt_define (D : Dct named prims lit) (h : Rt m) (ho : m.opn = false) (s : ByteArray) (hm : YT s ≠ 0) (hr : XJ named m s = .inl m1) : Rt m1 := by
 have hmk : Yr (YT s) = 0 ∧ YP (YT s) = true ∧ YT s ≠ 182 ∧ YT s < 2048 := by
  revert hm; unfold YT
  repeat' (split; · intro _; decide)
  intro h; exact absurd rfl h
 have key : ∀ m0 : Mk, Rt m0 → m0.opn = false → XN named s m0 = .inl m1 → Rt m1 := fun m0 h ho hr => by
  unfold XN at hr
  split at hr
  ·cases hr
  ·rename_i n c m2 hf
   unfold Vf at hf
   split at hf
   ·cases hf
   ·rename_i s' m3 hw
    obtain ⟨t, r, hi, rfl, rfl⟩ := Jz hw
    split at hf
    ·cases hf
    rename_i hnm
    split at hf
    ·cases hf
    rename_i hle
    cases hf
    have hs := D.nm t.f1 (by cases h : named t.f1 <;> simp [h] at hnm ⊢)
    have hnx := h.nx
    simp only at hle
    have h0 := h.cl ho
    have h1 : Rt ({ m0 with inp := r, next := m0.next + 1 }.add 182 m0.next t.f1) := by
     refine (h.take r).add' 182 m0.next t.f1 ⟨?_, rfl, fun _ => hnx, fun e => by simp only at e; omega, fun e => by simp at e⟩ rfl ?_ (fun p hp => ?_) (fun e => absurd (ho.symm.trans e) Z3) (fun _ h _ => h) (fun e => absurd e Z1) (fun _ h _ => .inl h) (fun _ => h0)
     ·unfold rightP
      have : Yr 182 = 6 ∧ YP 182 = true := by decide
      simp [this.1, this.2]
      omega
     ·rw [cnt_new _ _ rfl]; simp only; omega
     ·have := h.nm p hp
      simp only; omega
    have h2 := h1.put (YT s) 0 emp (XE hmk.2.1 (.inl hmk.1) Z0) hmk.2.2.1 Z0
    split at hr
    ·cases hr
     exact ⟨h2.out, h2.pos, h2.nx, h2.nm, fun _ => by simp only [Mk.add]; omega, fun e => by simp at e⟩
    ·cases hr
     refine ⟨h2.out, h2.pos, h2.nx, fun p hp => ?_, h2.cd, h2.cl⟩
     rcases List.mem_cons.1 hp with rfl | hp
     ·simp only [Mk.add]; omega
     ·exact h2.nm p hp
 by_cases hi : s.toList = ([105, 110, 115, 116, 97, 110, 99, 101] : List UInt8)
 ·unfold XJ at hr
  rw [if_pos hi] at hr
  split at hr
  ·cases hr
  ·rename_i m2 hm2
   split at hm2
   ·rename_i s2 m3 hw
    obtain ⟨t, r, hin, rfl, rfl⟩ := Jz hw
    split at hm2
    ·cases hm2
     exact key _ ((h.take r).put 192 0 emp (XE rfl (.inl rfl) Z0) Z0 Z1) ho hr
    ·cases hm2
   ·cases hm2
 ·refine key m h ho ?_
  unfold XJ at hr
  rw [if_neg hi] at hr
  exact hr
theorem rt_within (D : Dct named prims lit) (h : Rt m) (ho : m.opn = true) (s : ByteArray) (hr : VN prims m s = .inl m1) : Rt m1 := by
 unfold VN at hr
 split at hr
 ·split at hr
  ·cases hr
  ·rename_i hz
   cases hr
   have h1 := h.put 194 0 emp (XE rfl (.inl rfl) Z0) Z0 Z1
   refine ⟨h1.out, h1.pos, h1.nx, fun p hp => ?_, fun e => by simp at e, fun _ => ?_⟩
   ·rcases List.mem_cons.1 hp with rfl | hp
    ·exact h1.cd ho
    ·exact h1.nm p hp
   ·simp only [Mk.add]
    exact ⟨List.eq_nil_of_length_eq_zero Z0, List.eq_nil_of_length_eq_zero Z0, List.eq_nil_of_length_eq_zero Z0⟩
 split at hr
 ·cases hr
  exact h.put 51 0 emp (XE rfl (.inl rfl) Z0) Z0 Z1
 split at hr
 ·exact (Ybt D h (.inl rfl) hr).1
 split at hr
 ·rename_i r hb
  exact (rt_branch h ho s hb hr).1
 split at hr
 ·rename_i r hb
  exact (rt_loop h ho s hb hr).1
 ·exact (rt_choose h ho s hr).1
theorem rt_one (D : Dct named prims lit) (h : Rt m) (s : ByteArray) (hr : oneP named prims lit m s = .inl m1) : Rt m1 := by
 unfold oneP at hr
 split at hr
 ·cases hr
 rename_i h0
 split at hr
 ·rename_i hi
  exact rt_within D h (by rw [hi] at h0; cases e : m.opn <;> simp [e] at h0 ⊢) s hr
 split at hr
 ·exact (Ybt D h (.inl rfl) hr).1
 split at hr
 ·rename_i h1 h2 h3
  refine rt_define D h (by rw [h3] at h0; cases e : m.opn <;> simp [e] at h0 ⊢) s ?_ hr
  unfold Vb at h3
  simpa [h2] using h3
 split at hr
 ·exact (Ybt D h (.inr rfl) hr).1
 split at hr
 ·rename_i c hf
  cases hr
  obtain ⟨h1, h2, h3, h4⟩ := YcC D h hf
  have hnx := h.nx
  exact h.put c 0 emp (XE h1 (.inl h2) (fun e => by have := h3 e; omega)) (fun e => by subst e; exact absurd h2 Z1) Z0
 ·split at hr
  ·cases hr
  ·rename_i v hl
   cases hr
   refine h.put 16 v emp ⟨?_, rfl, fun e => by simp at e, fun e => by simp only at e; omega, fun e => by simp at e⟩ Z0 Z1
   unfold rightP
   have : Yr 16 = 1 ∧ YP 16 = true := by decide
   simp [this.1, this.2, emp_nil]
theorem rt_tok (D : Dct named prims lit) (h : Rt m) (x : Tin) (hx : x.f0 ≠ 1 → x.f1.size ≤ 255) (hr : tokP named prims lit m x = .inl m1) : Rt m1 := by
 have key : x.f1.size ≤ 255 → Rt (m.add 18 0 x.f1) := fun hs => by
  refine h.put 18 0 x.f1 ⟨?_, rfl, fun e => by simp at e, fun e => by simp only at e; omega, fun e => by simp at e⟩ Z0 Z1
  unfold rightP
  have : Yr 18 = 3 ∧ YP 18 = true := by decide
  simp [this.1, this.2]
  omega
 unfold tokP at hr
 split at hr
 ·exact rt_one D h x.f1 hr
 rename_i hn
 split at hr
 ·cases hr
  exact (key (hx hn)).put 144 0 emp (XE rfl (.inl rfl) Z0) Z0 Z1
 ·cases hr
  exact key (hx hn)
end
def sz (l : List Tk) : Int := (l.map XH).sum
def bud (l : List Tin) : Int := (l.map fun t => 5 + (t.f1.size : Int)).sum
def Zb (m m1 : Mk) (k : Int) : Prop := sz m1.out + bud m1.inp ≤ sz m.out + bud m.inp + k ∧ ∀ t ∈ m1.inp, t ∈ m.inp
theorem sz_snoc (l : List Tk) (t : Tk) : sz (l ++ [t]) = sz l + XH t := by simp [sz]
theorem Yda {c : Int} (hc : YP c = true) (hb : Yr c = 0 ∨ Yr c = 4) : XH ⟨c, 0, emp, 0⟩ = (codeB c).length + if Yr c = 4 then 2 else 0 := by
 have hr : rightP ⟨c, 0, emp, 0⟩ true = true := (XE (k := 4096) hc hb (fun h => by unfold YP at hc; simp at hc; omega)).rt
 unfold XH
 rw [if_pos hr]
 unfold tokB
 rcases hb with hb | hb <;> simp [hb, twoB]
theorem sz_one {c : Int} (hc : YP c = true) (hb : Yr c = 0 ∨ Yr c = 4) (hl : c < 256) : XH ⟨c, 0, emp, 0⟩ ≤ 3 ∧ (Yr c = 0 → XH ⟨c, 0, emp, 0⟩ = 1) := by
 rw [Yda hc hb]
 unfold codeB
 rw [if_neg Z0]
 rcases hb with hb | hb <;> simp [hb]
section
variable {named : ByteArray → Bool} {prims : List (ByteArray × Int)} {lit : ByteArray → Option Int} {m m1 m2 : Mk}
theorem Zb.trans {a b : Int} (h : Zb m m1 a) (h2 : Zb m1 m2 b) : Zb m m2 (a + b) := ⟨(by have := h.1; have := h2.1; omega), fun t ht => h.2 t (h2.2 t ht)⟩
theorem Zb.up {a b : Int} (h : Zb m m1 a) (hab : a ≤ b) : Zb m m1 b := ⟨(by have := h.1; omega), h.2⟩
theorem zb_add {m0 : Mk} (c n : Int) (s : ByteArray) (ho : m0.out = m.out) (hi : m0.inp = m.inp) {k : Int} (hk : XH ⟨c, n, s, 0⟩ ≤ k) : Zb m (m0.add c n s) k := by
 unfold Zb Mk.add
 rw [ho, hi, sz_snoc]
 exact ⟨Z0, fun _ h => h⟩
theorem Jy (hr : resolveP m = .inl m1) : Zb m m1 1 := by
 unfold resolveP at hr
 split at hr
 ·cases hr
 ·cases hr; exact zb_add 178 0 emp rfl rfl (by rw [(sz_one rfl (.inl rfl) Z0).2 rfl]; omega)
theorem Yct {c : Int} (hc : c = 19 ∨ c = 20) (hr : backP m c = .inl m1) : Zb m m1 3 := by
 unfold backP at hr
 split at hr
 ·cases hr
 ·cases hr; exact zb_add c 0 emp rfl rfl (by rcases hc with rfl | rfl <;> exact (sz_one rfl (.inr rfl) Z0).1)
theorem zb_four {m0 : Mk} {c : Int} (hc : YP c = true) (hb : Yr c = 0 ∨ Yr c = 4) (hl : c < 256) (ho : m0.out = m.out) (hi : m0.inp = m.inp) : Zb m (m0.add c) 3 := zb_add c 0 emp ho hi (sz_one hc hb hl).1
theorem zb_branch (s : ByteArray) {r : Res} (hb : Xt m s = some r) (hr : r = .inl m1) : Zb m m1 5 := by
 subst hr
 unfold Xt at hb
 split at hb
 ·cases hb; exact (zb_four rfl (.inr rfl) Z0 rfl rfl).up Z0
 split at hb
 ·have hb := Option.some.inj hb
  split at hb
  ·cases hb
  ·rename_i x l hp
   exact ((zb_four (c := 19) rfl (.inr rfl) Z0 rfl rfl).trans (Jy hb)).up Z0
 split at hb
 ·exact (Jy (Option.some.inj hb)).up Z0
 split at hb
 ·cases hb; exact (zb_four rfl (.inl rfl) Z0 rfl rfl).up Z0
 split at hb
 ·exact (Yct (.inr rfl) (Option.some.inj hb)).up Z0
 split at hb
 ·exact (Yct (.inl rfl) (Option.some.inj hb)).up Z0
 split at hb
 ·have hb := Option.some.inj hb
  split at hb
  ·cases hb
  ·rename_i m2 hm
   exact ((Yct (.inl rfl) hm).trans (Jy hb)).up Z0
 ·cases hb
theorem zb_loop (s : ByteArray) {r : Res} (hb : VP m s = some r) (hr : r = .inl m1) : Zb m m1 3 := by
 subst hr
 unfold VP at hb
 split at hb
 ·cases hb; exact zb_four rfl (.inr rfl) Z0 rfl rfl
 split at hb
 ·cases hb; exact zb_four rfl (.inr rfl) Z0 rfl rfl
 split at hb
 ·have hb := Option.some.inj hb
  split at hb
  ·cases hb
  ·cases hb
   split
   ·exact zb_four rfl (.inr rfl) Z0 rfl rfl
   ·exact zb_four rfl (.inr rfl) Z0 rfl rfl
 split at hb
 ·have hb := Option.some.inj hb
  split at hb
  ·cases hb
  ·cases hb; exact zb_four rfl (.inl rfl) Z0 rfl rfl
 ·cases hb
theorem zb_choose (s : ByteArray) (hb : Vh m s = .inl m1) : Zb m m1 3 := by
 unfold Vh at hb
 split at hb
 ·cases hb; exact zb_four rfl (.inl rfl) Z0 rfl rfl
 split at hb
 ·cases hb
 split at hb
 ·cases hb
 split at hb
 ·cases hb; exact zb_four rfl (.inr rfl) Z0 rfl rfl
 split at hb
 ·cases hb; exact zb_four rfl (.inr rfl) Z0 rfl rfl
 ·cases hb; exact zb_four rfl (.inl rfl) Z0 rfl rfl
theorem Ybj {t : Tin} {r : List Tin} (hi : m.inp = t :: r) : Zb m { m with inp := r } (-(5 + (t.f1.size : Int))) := by
 unfold Zb bud
 rw [hi]
 simp only [List.map_cons, List.sum_cons]
 exact ⟨Z0, fun _ h => List.mem_cons_of_mem _ h⟩
theorem Ybk {c : Int} (hc : c = 17 ∨ c = 195) (hr : Vo prims m c = .inl m1) : Zb m m1 5 := by
 unfold Vo at hr
 split at hr
 ·cases hr
 ·rename_i s m2 hw
  obtain ⟨t, r, hi, rfl, rfl⟩ := Jz hw
  split at hr
  ·cases hr
  ·rename_i n hf
   cases hr
   refine ((Ybj hi).trans (zb_add c n emp rfl rfl (k := 4) ?_)).up Z0
   have h1 := XT c
   have h2 := XT n
   have hb : Yr c = 2 := by rcases hc with rfl | rfl <;> decide
   unfold XH
   split
   ·unfold tokB; simp [hb]; omega
   ·omega
theorem zb_define (s : ByteArray) (hm : YT s ≠ 0) (hr : XJ named m s = .inl m1) : Zb m m1 5 := by
 have hmk : Yr (YT s) = 0 ∧ YP (YT s) = true ∧ YT s < 256 := by
  revert hm; unfold YT
  repeat' (split; · intro _; decide)
  intro h; exact absurd rfl h
 have key : ∀ m0 : Mk, XN named s m0 = .inl m1 → Zb m0 m1 5 := fun m0 hr => by
  unfold XN at hr
  split at hr
  ·cases hr
  ·rename_i n c m2 hf
   unfold Vf at hf
   split at hf
   ·cases hf
   ·rename_i s' m3 hw
    obtain ⟨t, r, hi, rfl, rfl⟩ := Jz hw
    split at hf
    ·cases hf
    split at hf
    ·cases hf
    cases hf
    have h1 : Zb ({ m0 with inp := r, next := m0.next + 1 } : Mk) ({ m0 with inp := r, next := m0.next + 1 }.add 182 m0.next t.f1) (4 + t.f1.size) := by
     refine zb_add 182 _ _ rfl rfl ?_
     have hb : Yr 182 = 6 := by decide
     unfold XH
     split
     ·unfold tokB; simp [hb, codeB, textB, twoB, YG]; omega
     ·omega
    have h2 := h1.trans (zb_four (m0 := { m0 with inp := r, next := m0.next + 1 }.add 182 m0.next t.f1) hmk.2.1 (.inl hmk.1) hmk.2.2 rfl rfl)
    have h3 : Zb m0 (({ m0 with inp := r, next := m0.next + 1 }.add 182 m0.next t.f1).add (YT s)) 5 := ((Ybj hi).trans h2).up Z0
    split at hr
    ·cases hr; exact h3
    ·cases hr; exact h3
 by_cases hi : s.toList = ([105, 110, 115, 116, 97, 110, 99, 101] : List UInt8)
 ·unfold XJ at hr
  rw [if_pos hi] at hr
  split at hr
  ·cases hr
  ·rename_i m2 hm2
   split at hm2
   ·rename_i s2 m3 hw
    obtain ⟨t, r, hin, rfl, rfl⟩ := Jz hw
    split at hm2
    ·cases hm2
     exact (((Ybj hin).trans (zb_four (c := 192) rfl (.inl rfl) Z0 rfl rfl)).trans (key _ hr)).up Z0
    ·cases hm2
   ·cases hm2
 ·refine key m ?_
  unfold XJ at hr
  rw [if_neg hi] at hr
  exact hr
theorem zb_within (s : ByteArray) (hr : VN prims m s = .inl m1) : Zb m m1 5 := by
 unfold VN at hr
 split at hr
 ·split at hr
  ·cases hr
  ·cases hr
   exact (show Zb m (m.add 194) 5 from (zb_four rfl (.inl rfl) Z0 rfl rfl).up Z0)
 split at hr
 ·cases hr; exact (zb_four rfl (.inl rfl) Z0 rfl rfl).up Z0
 split at hr
 ·exact Ybk (.inl rfl) hr
 split at hr
 ·rename_i r hb
  exact zb_branch s hb hr
 split at hr
 ·rename_i r hb
  exact (zb_loop s hb hr).up Z0
 ·exact (zb_choose s hr).up Z0
theorem zb_one (D : Dct named prims lit) (h : Rt m) (s : ByteArray) (hr : oneP named prims lit m s = .inl m1) : Zb m m1 5 := by
 unfold oneP at hr
 split at hr
 ·cases hr
 split at hr
 ·exact zb_within s hr
 split at hr
 ·exact Ybk (.inl rfl) hr
 split at hr
 ·rename_i h1 h2 h3
  refine zb_define s ?_ hr
  unfold Vb at h3
  simpa [h2] using h3
 split at hr
 ·exact Ybk (.inr rfl) hr
 have h2 := XT
 split at hr
 ·rename_i c hf
  cases hr
  refine zb_add c 0 emp rfl rfl ?_
  obtain ⟨h1, h3, -⟩ := YcC D h hf
  have := h2 c
  rw [Yda h1 (.inl h3)]
  simp [h3]
  omega
 ·split at hr
  ·cases hr
  ·rename_i v hl
   cases hr
   refine zb_add 16 v emp rfl rfl ?_
   unfold XH
   split
   ·have hb : Yr 16 = 1 := by decide
    unfold tokB; simp [hb, codeB, twoB]
   ·omega
theorem zb_tok (D : Dct named prims lit) (h : Rt m) (x : Tin) (hr : tokP named prims lit m x = .inl m1) : Zb m m1 (5 + x.f1.size) := by
 have key : Zb m (m.add 18 0 x.f1) (2 + x.f1.size) := by
  refine zb_add 18 _ _ rfl rfl ?_
  have hb : Yr 18 = 3 := by decide
  unfold XH
  split
  ·unfold tokB; simp [hb, codeB, textB, YG]; omega
  ·omega
 unfold tokP at hr
 split at hr
 ·exact (zb_one D h x.f1 hr).up Z0
 split at hr
 ·cases hr
  exact (key.trans (zb_four (c := 144) rfl (.inl rfl) Z0 rfl rfl)).up Z0
 ·cases hr
  exact key.up Z0
end
section
variable {named : ByteArray → Bool} {prims : List (ByteArray × Int)} {lit : ByteArray → Option Int} {m m1 : Mk}
theorem all_rt (D : Dct named prims lit) : ∀ (k : Nat) (m : Mk), Rt m → (∀ t ∈ m.inp, t.f0 ≠ 1 → t.f1.size ≤ 255) → allP named prims lit k m = .inl m1 → Rt m1 ∧ Zb m m1 0
 | 0, m, h, ht, hr => by cases hr; exact ⟨h, Z0, fun _ h => h⟩
 | k + 1, m, h, ht, hr => by
   unfold allP at hr
   split at hr
   ·cases hr; exact ⟨h, Z0, fun _ h => h⟩
   ·rename_i x r hi
    split at hr
    ·cases hr
    ·rename_i m2 hm
     have h1 := rt_tok D (h.take r) x (ht x (by rw [hi]; exact List.mem_cons_self)) hm
     have z1 := ((Ybj hi).trans (zb_tok D (h.take r) x hm)).up (show _ ≤ 0 by omega)
     have h2 := all_rt D k m2 h1 (fun t h => ht t (z1.2 t h)) hr
     exact ⟨h2.1, z1.trans h2.2⟩
theorem all_inv (hlit : ∀ s v, lit s = some v → 0 ≤ v ∧ v < 4294967296) : ∀ (k : Nat) (m : Mk) {W L : Nat}, Inv prims W L m → allP named prims lit k m = .inl m1 → Inv prims (W + 3 * k) (L + k) m1
 | 0, m, W, L, h, hr => by cases hr; exact h
 | k + 1, m, W, L, h, hr => by
   unfold allP at hr
   split at hr
   ·cases hr; exact h.more Z0 Z0
   ·rename_i x r hi
    split at hr
    ·cases hr
    ·rename_i m2 hm
     exact (all_inv hlit k m2 (YbK hlit (h.take hi) x (h.inp x (by rw [hi]; exact List.mem_cons_self)) hm) hr).more Z0 Z0
theorem all_err {c : Int} : ∀ (k : Nat) (m : Mk), allP named prims lit k m = .inr c → c ≠ 0
 | 0, m, h => by cases h
 | k + 1, m, h => by
   unfold allP at h
   split at h
   ·cases h
   ·split at h
    ·rename_i e he
     cases h
     unfold tokP at he
     split at he
     ·exact err_one he
     split at he
     ·cases he
     ·cases he
    ·exact all_err k _ h
theorem Dct.codes (D : Dct named prims lit) : ∀ p ∈ prims, 0 ≤ p.2 ∧ p.2 ≤ 4095 := fun p hp => by
 have := D.pr p hp
 have h := this.1
 unfold YP at h
 simp at h
 omega
theorem rt_start (l : List Tin) : Rt (Un l) := ⟨fun i t h => by simp [Un] at h, fun x h => by simp [Un, covL] at h, rfl, fun p h => by simp [Un] at h, fun h => by simp [Un] at h, fun _ => ⟨rfl, rfl, rfl⟩⟩
theorem bud_le {l : List Tin} {n k : Nat} (h : CutB n l) (hl : l.length ≤ k) : bud l ≤ 5 * k + n := by
 have key : ∀ l : List Tin, bud l = 5 * l.length + (((l.map fun t => t.f1.size).sum : Nat) : Int) := fun l => by
  induction l with
  | nil => rfl
  | cons t r ih => unfold bud at *; simp only [List.map_cons, List.sum_cons, List.length_cons, ih]; omega
 rw [key]
 have h1 := h.1
 generalize (l.map fun t => t.f1.size).sum = q at h1 ⊢
 omega
end
theorem toks_m {s : ByteArray} {l : List S37} (h : toksP s = (l, 0)) : ∃ m : Mk, Rt m ∧ m.opn = false ∧ l = aimP XH (m.add 0) ∧ sz m.out ≤ 29096 ∧ (∃ W L, Inv (primsL.map pr).reverse W L m) := by
 have D : Dct UY (primsL.map pr).reverse litP := by
  refine ⟨fun p hp => ?_, fun s hs => ?_, fun s v hv => YaA s v hv⟩
  ·rw [List.mem_reverse, List.mem_map] at hp
   obtain ⟨q, hq, rfl⟩ := hp
   have : ∀ q ∈ primsL, YP q.f1 = true ∧ Yr q.f1 = 0 ∧ q.f1 < 2048 := by decide +kernel
   exact this q hq
  ·unfold UY at hs
   simp at hs
   omega
 unfold toksP at h
 split at h
 ·have hc := cutP_sum s
  have hn := cut_ok.len s
  have ht := cut_ok.texts s
  generalize (cutP s).1 = c at h hc hn ht
  unfold Ja at h
  split at h
  ·rename_i e he
   injection h with h1 h2
   exact absurd h2 (all_err _ _ he)
  ·rename_i m hm
   split at h
   ·injection h with h1 h2; exact absurd h2 Z1
   ·rename_i ho
    injection h with h1 h2
    have h3 := all_rt D _ _ (rt_start c) hc.2 hm
    refine ⟨m, h3.1, (by simpa using ho), h1.symm, ?_, ?_⟩
    ·have h4 := h3.2.1
     have h5 := bud_le hc hn
     have h6 : sz (Un c).out = 0 := rfl
     have h7 : (Un c).inp = c := rfl
     have h8 : 0 ≤ bud m.inp := by
      unfold bud
      generalize m.inp = q
      induction q with
      | nil => simp
      | cons t r ih => simp only [List.map_cons, List.sum_cons]; omega
     rw [h6, h7] at h4
     omega
    ·exact ⟨_, _, (all_inv YaA _ (Un c) (Ycg (prims := (primsL.map pr).reverse) D.codes ht) hm)⟩
 ·rename_i he
  injection h with h1 h2
  exact absurd h2 he
def aimV (E : List Int) (ls : List Ld) (i : Nat) (v : Int) : Int := ls.foldl (fun v p => if p.f0.toNat = i then E.getD p.f1.toNat 0 - E.getD p.f0.toNat 0 + 2 else v) v
theorem aim_get (E : List Int) (i : Nat) : ∀ (ls : List Ld) (out : List Tk), (ls.foldl (aim1 E) out)[i]? = out[i]?.map fun t => { t with f3 := aimV E ls i t.f3 }
 | [], out => by cases h : out[i]? <;> simp [aimV, h]
 | p :: ls, out => by
   rw [List.foldl_cons, aim_get E i ls]
   unfold aim1
   rw [List.getElem?_modify]
   cases h : out[i]? with
   | none => simp
   | some t =>
     simp only [Option.map_eq_map, Option.map_some, Option.some.injEq]
     by_cases hp : p.f0.toNat = i <;> simp [hp, aimV]
theorem aimV_spec (E : List Int) (i : Nat) : ∀ (ls : List Ld) (v : Int), ((∀ p ∈ ls, p.f0.toNat ≠ i) ∧ aimV E ls i v = v) ∨ ∃ p ∈ ls, p.f0.toNat = i ∧ aimV E ls i v = E.getD p.f1.toNat 0 - E.getD p.f0.toNat 0 + 2
 | [], v => .inl ⟨fun p h => (by cases h), rfl⟩
 | p :: ls, v => by
   have e : aimV E (p :: ls) i v = aimV E ls i (if p.f0.toNat = i then E.getD p.f1.toNat 0 - E.getD p.f0.toNat 0 + 2 else v) := rfl
   rw [e]
   rcases aimV_spec E i ls (if p.f0.toNat = i then E.getD p.f1.toNat 0 - E.getD p.f0.toNat 0 + 2 else v) with ⟨h1, h2⟩ | ⟨q, hq, h1, h2⟩
   ·by_cases hp : p.f0.toNat = i
    ·exact .inr ⟨p, List.mem_cons_self, hp, (by rw [h2, if_pos hp])⟩
    ·refine .inl ⟨fun q hq => ?_, (by rw [h2, if_neg hp])⟩
     rcases List.mem_cons.1 hq with rfl | hq
     ·exact hp
     ·exact h1 q hq
   ·exact .inr ⟨q, List.mem_cons_of_mem _ hq, h1, h2⟩
structure Good (l : List Tk) : Prop where
 rt : ∀ t ∈ l, rightP t true = true
 fit : ∀ t ∈ l, Fits t
 nw : ∀ (i : Nat) (t : Tk), l[i]? = some t → t.f0 = 182 → t.f1 = 2048 + (cnt (l.take i) : Int)
 cd : ∀ (i : Nat) (t : Tk), l[i]? = some t → 2048 ≤ t.f0 → t.f0 < 2048 + (cnt (l.take i) : Int)
 re : ∀ (i : Nat) (t : Tk), l[i]? = some t → t.f0 = 17 ∨ t.f0 = 195 → Yr t.f1 = 0 ∧ (2048 ≤ t.f1 → t.f1 < 2048 + (cnt (l.take i) : Int))
 off : ∀ (i : Nat) (t : Tk), l[i]? = some t → Yr t.f0 = 4 → ∃ j, j < l.length ∧ t.f3 = sumP l (j + 1) - sumP l (i + 1) + 2
 sm : sumP l l.length ≤ 29100
 ls : ∃ r t, l = r ++ [t] ∧ t.f0 = 0
theorem Vp (l : List Tk) {a b : Nat} (h : a ≤ b) : sumP l a ≤ sumP l b := by
 induction b with
 | zero => have : a = 0 := by omega
           subst this; exact Int.le_refl _
 | succ b ih =>
   by_cases e : a = b + 1
   ·subst e; exact Int.le_refl _
   ·have := ih Z0
    by_cases hb : b < l.length
    ·have h1 := VS l b hb
     have h2 := Jn l[b]
     omega
    ·unfold sumP at *
     rw [List.take_of_length_le (show l.length ≤ b + 1 by omega)]
     rw [List.take_of_length_le (show l.length ≤ b by omega)] at this
     exact this
theorem Ydb (l : List Tk) {k : Nat} (h : l.length ≤ k) : sumP l k = sz l := by unfold sumP sz; rw [List.take_of_length_le h]
theorem YbW {s : ByteArray} {l : List S37} (h : toksP s = (l, 0)) : Good l := by
 obtain ⟨m, hm, ho, rfl, hs, W, L, hI⟩ := toks_m h
 have hm1 := hm.put 0 0 emp (XE rfl (.inl rfl) Z0) Z0 Z1
 have hI1 := hI.add 0 0 emp Z0 Z0 XK
 have hcl := hm1.cl ho
 have hcv : covL (m.add 0) = (m.add 0).leads.map (·.f0) := by unfold covL; rw [hcl.1, hcl.2.1, hcl.2.2]; simp
 have hlast : (m.add 0).out = m.out ++ [⟨0, 0, emp, 0⟩] := rfl
 have hsz : sz (m.add 0).out ≤ 29100 := by
  rw [hlast, sz_snoc]
  have := sz_one (c := 0) rfl (.inl rfl) Z0
  omega
 generalize m.add 0 = q at hm1 hI1 hcv hlast hsz hcl
 clear hm hI
 obtain ⟨E, hE⟩ : ∃ E, endsP XH 0 q.out = E := ⟨_, rfl⟩
 have haim : aimP XH q = q.leads.foldl (aim1 E) q.out := by unfold aimP; rw [hE]; rfl
 have hlen : (aimP XH q).length = q.out.length := by
  rw [haim]
  generalize q.leads = ls
  generalize q.out = o
  induction ls generalizing o with
  | nil => rfl
  | cons p ls ih => rw [List.foldl_cons, ih]; unfold aim1; simp
 have hget : ∀ i, (aimP XH q)[i]? = q.out[i]?.map fun (t : Tk) => ({ t with f3 := aimV E q.leads i t.f3 } : Tk) := fun i => by rw [haim]; exact aim_get E i _ _
 have hEv : ∀ x : Int, In q.out.length x → E.getD x.toNat 0 = sumP q.out (x.toNat + 1) := fun x hx => by
  have h1 := Yci q.out 0 x.toNat (by have := hx.1; have := hx.2; omega)
  rw [hE] at h1
  rw [List.getD_eq_getElem?_getD, h1]
  simp
 have key : ∀ (i : Nat) (t : Tk), q.out[i]? = some t → (Yr t.f0 = 4 ∧ ∃ j, j < q.out.length ∧ aimV E q.leads i t.f3 = sumP q.out (j + 1) - sumP q.out (i + 1) + 2) ∨ (Yr t.f0 ≠ 4 ∧ aimV E q.leads i t.f3 = 0) := fun i t hi => by
  have hout := hm1.out i t hi
  rcases aimV_spec E i q.leads t.f3 with ⟨h1, h2⟩ | ⟨p, hp, h1, h2⟩
  ·right
   refine ⟨fun hb => ?_, (by rw [h2]; exact hout.1.f3)⟩
   have := hout.2 hb
   rw [hcv, List.mem_map] at this
   obtain ⟨p, hp, he⟩ := this
   exact h1 p hp (by rw [he]; rfl)
  ·left
   have hl := hI1.leads p hp
   obtain ⟨t2, ht2, hb⟩ := hm1.pos p.f0 (by rw [hcv, List.mem_map]; exact ⟨p, hp, rfl⟩) hl.1.1
   rw [h1, hi] at ht2
   cases ht2
   refine ⟨hb, p.f1.toNat, (by have := hl.2.1; have := hl.2.2; omega), ?_⟩
   rw [h2, hEv _ hl.2, hEv _ hl.1, h1]
 have hbnd : ∀ i, 0 ≤ sumP q.out i ∧ sumP q.out i ≤ 29100 := fun i => by
  refine ⟨(Uw _ _).1, ?_⟩
  have h1 := Vp q.out (show i ≤ max i q.out.length by omega)
  rw [Ydb q.out (show q.out.length ≤ max i q.out.length by omega)] at h1
  omega
 have hright : ∀ (i : Nat) (t : Tk), q.out[i]? = some t → rightP { t with f3 := aimV E q.leads i t.f3 } true = true ∧ XH { t with f3 := aimV E q.leads i t.f3 } = XH t ∧ Fits { t with f3 := aimV E q.leads i t.f3 } := fun i t hi => by
  have hout := (hm1.out i t hi).1
  have hfit := (hI1.out t (List.mem_of_getElem? hi)).1
  rcases key i t hi with ⟨hb, j, hj, e⟩ | ⟨hb, e⟩
  ·have b1 := hbnd (j + 1)
   have b2 := hbnd (i + 1)
   rw [e]
   have hf : -32768 ≤ sumP q.out (j + 1) - sumP q.out (i + 1) + 2 ∧ sumP q.out (j + 1) - sumP q.out (i + 1) + 2 < 32768 := by omega
   generalize sumP q.out (j + 1) - sumP q.out (i + 1) + 2 = f at e hf
   have hr : rightP { t with f3 := f } true = true := by
    have := hout.rt
    unfold rightP at this ⊢
    simp [hb] at this ⊢
    simp [this]
    omega
   refine ⟨hr, ?_, ⟨hfit.f0, hfit.f1, hfit.f2, Zg⟩⟩
   unfold XH
   rw [if_pos hr, if_pos hout.rt]
   unfold tokB
   simp [hb, twoB]
  ·rw [e, show ({ t with f3 := 0 } : Tk) = t by have := hout.f3; cases t; simp at this; simp [this]]
   exact ⟨hout.rt, rfl, hfit⟩
 have hsum : ∀ k, sumP (aimP XH q) k = sumP q.out k := fun k => by
  unfold sumP
  congr 1
  apply List.ext_getElem?
  intro i
  rw [List.getElem?_map, List.getElem?_map, List.getElem?_take, List.getElem?_take]
  split
  ·rw [hget]
   cases hi : q.out[i]? with
   | none => rfl
   | some t => simp only [Option.map_some]; rw [(hright i t hi).2.1]
  ·rfl
 have hcnt : ∀ k, cnt ((aimP XH q).take k) = cnt (q.out.take k) := fun k => by
  have h1 : ∀ l : List Tk, cnt l = (l.map (·.f0)).countP fun c => decide (c = 182) := fun l => by unfold cnt; rw [List.countP_map]; rfl
  rw [h1, h1]
  congr 1
  apply List.ext_getElem?
  intro i
  rw [List.getElem?_map, List.getElem?_map, List.getElem?_take, List.getElem?_take]
  split
  ·rw [hget]; cases q.out[i]? <;> rfl
  ·rfl
 have hof : ∀ (i : Nat) (t : Tk), (aimP XH q)[i]? = some t → ∃ t0 : Tk, q.out[i]? = some t0 ∧ t = { t0 with f3 := aimV E q.leads i t0.f3 } := fun i t hi => by
  rw [hget, Option.map_eq_some_iff] at hi
  obtain ⟨t0, h0, rfl⟩ := hi
  exact ⟨t0, h0, rfl⟩
 refine ⟨fun t ht => ?_, fun t ht => ?_, fun i t hi h1 => ?_, fun i t hi h1 => ?_, fun i t hi h1 => ?_, fun i t hi h1 => ?_, ?_, ?_⟩
 ·obtain ⟨i, hi⟩ := List.mem_iff_getElem?.1 ht
  obtain ⟨t0, h0, rfl⟩ := hof i t hi
  exact (hright i t0 h0).1
 ·obtain ⟨i, hi⟩ := List.mem_iff_getElem?.1 ht
  obtain ⟨t0, h0, rfl⟩ := hof i t hi
  exact (hright i t0 h0).2.2
 ·obtain ⟨t0, h0, rfl⟩ := hof i t hi
  rw [hcnt]; exact (hm1.out i t0 h0).1.nw h1
 ·obtain ⟨t0, h0, rfl⟩ := hof i t hi
  rw [hcnt]; exact (hm1.out i t0 h0).1.cd h1
 ·obtain ⟨t0, h0, rfl⟩ := hof i t hi
  rw [hcnt]; exact (hm1.out i t0 h0).1.re h1
 ·obtain ⟨t0, h0, rfl⟩ := hof i t hi
  rcases key i t0 h0 with ⟨hb, j, hj, e⟩ | ⟨hb, e⟩
  ·exact ⟨j, Z0, (by rw [hsum, hsum]; exact e)⟩
  ·exact absurd h1 hb
 ·rw [hsum, Ydb _ Z0]; exact hsz
 ·have hq : q.out.length = m.out.length + 1 := by rw [hlast]; simp
  obtain ⟨t, ht⟩ : ∃ t, (aimP XH q)[m.out.length]? = some t := ⟨_, List.getElem?_eq_getElem Z0⟩
  obtain ⟨t0, h0, rfl⟩ := hof _ _ ht
  rw [hlast, List.getElem?_append_right (Nat.le_refl _)] at h0
  simp at h0
  obtain ⟨h3, h4⟩ := List.getElem?_eq_some_iff.1 ht
  refine ⟨(aimP XH q).take m.out.length, (aimP XH q)[m.out.length], ?_, (by rw [h4, ← h0])⟩
  rw [List.take_append_getElem, List.take_of_length_le Z0]
end Go.Proofs.Ytehmhgpogpbjiaa.Fcc
