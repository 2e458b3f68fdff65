import Derived.Test.Ytehmhgpogpbjiaafu04
set_option linter.unusedVariables false
set_option linter.unusedSimpArgs false
set_option maxRecDepth 100000
set_option maxHeartbeats 8000000
namespace Go.Proofs.Ytehmhgpogpbjiaa.Fcc
open Go.RowKit Go.Proofs.YtehmhgpogpbjiaaW.PrintWords Go.Proofs.YtehmhgpogpbjiaaW.PrintLast Go.Proofs.YtehmhgpogpbjiaaW.PrintMore Go.Proofs.Ytehmhgpogpbjiaa.PFccTokens
section
variable {w w1 : World} {base g T z : Nat} {vs : List Value} {o o1 : Nat → Nat} {F : List Fld}
theorem St.keep2 (h : St w base g T z vs o F) (ho : ∀ k, k < w.heap.size → o1 k = o k) (hk : ∀ k, k < w.heap.size → base ≤ k → z ≤ o k → o k ≤ z + F.length → w1.heap[k]? = w.heap[k]?) : St w1 base g T z vs o1 F := by
 refine ⟨(hk g h.lt h.hb (by rw [h.own]; exact Nat.le_refl _) (by rw [h.own]; omega)).trans h.box, h.hb, (ho g h.lt).trans h.own, fun i v P hv hP => ?_, h.loc⟩
 have hi : i < F.length := (List.getElem?_eq_some_iff.1 hP).1
 refine (h.loc i P hP).move (h.row i v P hv hP) (fun k hk1 hk2 hk3 => ⟨hk k hk3 hk2 Z0 Z0, ?_⟩)
 rw [ho k hk3]; exact hk1
end
def nmL (l : List (ByteArray × Int)) : List ByteArray := l.reverse.map (·.1)
def cdL (l : List (ByteArray × Int)) : List Int := l.reverse.map (·.2)
theorem Ydt (l : List (ByteArray × Int)) : (nmL l).length = l.length := by simp [nmL]
theorem YdJ (l : List (ByteArray × Int)) : (cdL l).length = l.length := by simp [cdL]
theorem nmL_cons (s : ByteArray) (c : Int) (l : List (ByteArray × Int)) : nmL ((s, c) :: l) = nmL l ++ [s] := by simp [nmL]
theorem cdL_cons (s : ByteArray) (c : Int) (l : List (ByteArray × Int)) : cdL ((s, c) :: l) = cdL l ++ [c] := by simp [cdL]
structure Tx where
 l : List S59
 v : Value
 x : List Int
 b : Option (Nat × Array Value × Nat)
def BxI (b : Option (Nat × Array Value × Nat)) (base : Nat) (w : World) (ok : Nat → Prop) : Prop := ∀ g cs t, b = some (g, cs, t) → ok g ∧ base ≤ g ∧ w.heap[g]? = some (.cells cs t (0, 0))
def gF (base : Nat) (T : Tx) : Fld := fun w ok _ => Kd.R (Kd.int .i64) 3 w base ok T.v T.x ∧ BxI T.b base w ok
theorem loc_g (base : Nat) (T : Tx) : Loc base (gF base T) := ⟨fun h hm => ⟨(loc_row (Kd.int .i64) 3 base T.x).move h.1 hm, fun g cs t hb => by
 obtain ⟨h1, h2, h3⟩ := h.2 g cs t hb
 have h4 := hm g h1 h2 (Vw h3)
 exact ⟨h4.2, h2, h4.1.trans h3⟩⟩⟩
def rF (base : Nat) (T : Tx) (m : Mk) : List Fld :=
 [rowF k59 59 base T.l, valF (.int .i64 ((T.l.length - m.inp.length : Nat) : Int)), rowF k37 37 base m.out, rowF Kd.string 9 base (nmL m.names), rowF (Kd.int .i64) 3 base (cdL m.names), valF (.int .i64 m.next), valF (.bool m.opn), valF (.string m.name), valF (.int .i64 m.code), gF base T, anyF, anyF, anyF, anyF, anyF, anyF]
def fF (base : Nat) (m : Mk) : List Fld :=
 [rowF (Kd.int .i64) 3 base m.origs, rowF (Kd.int .i64) 3 base m.dests, rowF (Kd.int .i64) 3 base m.loops, rowsF k149 149 base m.cases, rowF k77 77 base m.leads]
structure Rx (w : World) (base gk gf : Nat) (T : Tx) (o : Nat → Nat) (vk vf : List Value) (m : Mk) : Prop where
 k : St w base gk 69 0 vk o (rF base T m)
 f : St w base gf 73 20 vf o (fF base m)
 lk : vk.length = 16
 lf : vf.length = 5
 inp : m.inp = T.l.drop (T.l.length - m.inp.length)
 le : m.inp.length ≤ T.l.length
section
variable {w w1 : World} {base gk gf : Nat} {T : Tx} {o : Nat → Nat} {vk vf : List Value} {m : Mk}
theorem Rx.below (h : Rx w base gk gf T o vk vf m) (hb : Below w.heap.size w w1) : Rx w1 base gk gf T o vk vf m := ⟨h.k.below hb, h.f.below hb, h.lk, h.lf, h.inp, h.le⟩
theorem Rx.alloc (h : Rx w base gk gf T o vk vf m) (x : Obj) : Rx (w.alloc x) base gk gf T o vk vf m := h.below (Yl (Below.refl _ _) x)
theorem Rx.kc (h : Rx w base gk gf T o vk vf m) : ∃ A0 c0 A2 c2 A3 c3 A4 c4 u9 u10 u11 u12 u13 u14 u15, vk = [.slice A0 T.l.length c0, .int .i64 ((T.l.length - m.inp.length : Nat) : Int), .slice A2 m.out.length c2, .slice A3 m.names.length c3, .slice A4 m.names.length c4, .int .i64 m.next, .bool m.opn, .string m.name, .int .i64 m.code, u9, u10, u11, u12, u13, u14, u15] := by
 obtain ⟨st, -, len, -, -, -⟩ := h
 match vk, len with
 | [v0, v1, v2, v3, v4, v5, v6, v7, v8, v9, v10, v11, v12, v13, v14, v15], _ =>
   obtain ⟨A0, c0, rfl⟩ := Kd.R_slice (st.row 0 v0 _ rfl rfl)
   obtain rfl := (st.row 1 v1 _ rfl rfl : v1 = _)
   obtain ⟨A2, c2, rfl⟩ := Kd.R_slice (st.row 2 v2 _ rfl rfl)
   obtain ⟨A3, c3, e3⟩ := Kd.R_slice (st.row 3 v3 _ rfl rfl)
   obtain ⟨A4, c4, e4⟩ := Kd.R_slice (st.row 4 v4 _ rfl rfl)
   rw [Ydt] at e3
   rw [YdJ] at e4
   subst e3 e4
   obtain rfl := (st.row 5 v5 _ rfl rfl : v5 = _)
   obtain rfl := (st.row 6 v6 _ rfl rfl : v6 = _)
   obtain rfl := (st.row 7 v7 _ rfl rfl : v7 = _)
   obtain rfl := (st.row 8 v8 _ rfl rfl : v8 = _)
   exact ⟨_, _, _, _, _, _, _, _, _, _, _, _, _, _, _, rfl⟩
theorem Rx.fc (h : Rx w base gk gf T o vk vf m) : ∃ A0 c0 A1 c1 A2 c2 A3 c3 A4 c4, vf = [.slice A0 m.origs.length c0, .slice A1 m.dests.length c1, .slice A2 m.loops.length c2, .slice A3 m.cases.length c3, .slice A4 m.leads.length c4] := by
 obtain ⟨-, st, -, len, -, -⟩ := h
 match vf, len with
 | [v0, v1, v2, v3, v4], _ =>
   obtain ⟨A0, c0, rfl⟩ := Kd.R_slice (st.row 0 v0 _ rfl rfl)
   obtain ⟨A1, c1, rfl⟩ := Kd.R_slice (st.row 1 v1 _ rfl rfl)
   obtain ⟨A2, c2, rfl⟩ := Kd.R_slice (st.row 2 v2 _ rfl rfl)
   obtain ⟨A3, c3, rfl, -⟩ := Kd.S_reads (st.row 3 v3 _ rfl rfl)
   obtain ⟨A4, c4, rfl⟩ := Kd.R_slice (st.row 4 v4 _ rfl rfl)
   exact ⟨_, _, _, _, _, _, _, _, _, _, rfl⟩
theorem St.beside {α : Type} {d : Kd α} {e g g2 T1 T2 z z2 i : Nat} {vs vs2 : List Value} {F F2 : List Fld} {v v' : Value} {xs ys : List α} {w2 : World} (hp : Yeh d e base g T1 z i w vs o F v ys v' w2) (h : St w base g T1 z vs o F) (hv : vs[i]? = some v) (hF : F[i]? = some (rowF d e base xs)) (h2 : St w base g2 T2 z2 vs2 o F2)
 (hz : z2 + F2.length < z ∨ z + 1 + i < z2) : St (w2.setCell ⟨g, i, none⟩ v') base g2 T2 z2 vs2 (new_ w o (z + 1 + i)) F2 := by
 have hr : Kd.R d e w base (fun k => o k = z + 1 + i) v xs := h.row i v _ hv hF
 refine h2.keep2 (fun k hk => Uk hk) (fun k hk hb h1 h3 => ?_)
 have hg : k ≠ g := fun e => by rw [e, h.own] at h1 h3; omega
 rw [Below.heap_setCell _ _ _ _ hg]
 exact hp.2.2.2.2.block k hk (fun e => by have := hr.1 k e.symm; omega)
theorem St.besideP {g g2 T1 T2 z z2 i : Nat} {vs vs2 : List Value} {F F2 : List Fld} {u : Value} (h : St w base g T1 z vs o F) (h2 : St w base g2 T2 z2 vs2 o F2) (hz : z2 + F2.length < z ∨ z < z2) : St (w.setCell ⟨g, i, none⟩ u) base g2 T2 z2 vs2 o F2 := by
 refine h2.keep2 (fun k hk => rfl) (fun k hk hb h1 h3 => ?_)
 have hg : k ≠ g := fun e => by rw [e, h.own] at h1 h3; omega
 exact Below.heap_setCell _ _ _ _ hg
end
section
variable {w w1 : World} {base gk gf : Nat} {l : List S59} {v : Value} {x : List Int} {b : Option (Nat × Array Value × Nat)} {o : Nat → Nat} {vk vf : List Value} {m : Mk}
theorem Rx.gf9 {T : Tx} (h : Rx w base gk gf T o vk vf m) : Kd.R (Kd.int .i64) 3 w base (fun k => o k = 0 + 1 + 9) T.v T.x ∧ BxI T.b base w (fun k => o k = 0 + 1 + 9) := by
 obtain ⟨u, hu⟩ : ∃ u, vk[9]? = some u := ⟨_, List.getElem?_eq_getElem (by rw [h.lk]; decide)⟩
 exact (h.k.row 9 u _ hu rfl : gF base T w (fun k => o k = 0 + 1 + 9) u)
theorem Rx.guest {v1 : Value} {x1 : List Int} (h : Rx w base gk gf ⟨l, v, x, b⟩ o vk vf m) (hb : Below w.heap.size w w1) (hR : Kd.R (Kd.int .i64) 3 w1 w.heap.size (fun _ => True) v1 x1) : Rx w1 base gk gf ⟨l, v1, x1, b⟩ (new_ w o 10) vk vf m := by
 have h9 := h.gf9.2
 have hk : St w1 base gk 69 0 vk (new_ w o 10) ((rF base ⟨l, v, x, b⟩ m).set 9 (gF base ⟨l, v1, x1, b⟩)) := by
  refine h.k.turn (w1 := w1) 9 (loc_g base ⟨l, v1, x1, b⟩) (fun k hk => Uk hk) (fun k hk _ _ => hb.block k hk) (fun v' _ => ⟨?_, fun g cs t hg => ?_⟩)
  ·exact Kd.R_mono (Kd.R_lower (Kd.R_bound hR) h.k.base_le) (fun k hk => JC hk.2.1)
  ·obtain ⟨h1, h2, h3⟩ := h9 g cs t hg
   have hlt := Vw h3
   exact ⟨(Uk hlt).trans h1, h2, (hb.block g hlt).trans h3⟩
 have hf : St w1 base gf 73 20 vf (new_ w o 10) (fF base m) := h.f.keep2 (fun k hk => Uk hk) (fun k hk _ _ _ => hb.block k hk)
 exact ⟨hk, hf, h.lk, h.lf, h.inp, h.le⟩
theorem Rx.boxed {b1 : Option (Nat × Array Value × Nat)} (h : Rx w base gk gf ⟨l, v, x, b1⟩ o vk vf m) (cs : Array Value) (t : Nat) : Rx (w.alloc (.cells cs t (0, 0))) base gk gf ⟨l, v, x, some (w.heap.size, cs, t)⟩ (new_ w o 10) vk vf m := by
 have h9 := h.gf9.1
 have hb := Yl (Below.refl w.heap.size w) (.cells cs t (0, 0))
 have hk : St (w.alloc (.cells cs t (0, 0))) base gk 69 0 vk (new_ w o 10) ((rF base ⟨l, v, x, b1⟩ m).set 9 (gF base ⟨l, v, x, some (w.heap.size, cs, t)⟩)) := by
  refine h.k.turn (w1 := w.alloc (.cells cs t (0, 0))) 9 (loc_g base _) (fun k hk => Uk hk) (fun k hk _ _ => hb.block k hk) (fun v' _ => ⟨?_, fun g cs' t' hg => ?_⟩)
  ·exact Kd.R_mono (Kd.R_bound (Kd.R_below h9 hb)) (fun k hk => by
    show new_ w o 10 k = 10
    by_cases hlt : k < w.heap.size
    ·rw [Uk hlt]; exact hk.1
    ·exact JC Z0)
  ·cases hg
   exact ⟨JC (Nat.le_refl _), h.k.base_le, XN w (.cells cs t (0, 0))⟩
 have hf : St (w.alloc (.cells cs t (0, 0))) base gf 73 20 vf (new_ w o 10) (fF base m) := h.f.keep2 (fun k hk => Uk hk) (fun k hk _ _ _ => hb.block k hk)
 exact ⟨hk, hf, h.lk, h.lf, h.inp, h.le⟩
theorem Rx.box {g : Nat} {cs : Array Value} {t : Nat} (h : Rx w base gk gf ⟨l, v, x, some (g, cs, t)⟩ o vk vf m) : w.heap[g]? = some (.cells cs t (0, 0)) := (h.gf9.2 g cs t rfl).2.2
theorem Rx.beside (h : Rx w base gk gf ⟨l, v, x, b⟩ o vk vf m) : Kd.R (Kd.int .i64) 3 w base (fun _ => True) v x := Kd.R_mono h.gf9.1 (fun _ _ => trivial)
theorem Rx.alone (h : Rx w base gk gf ⟨l, v, x, b⟩ o vk vf m) : Rx w base gk gf ⟨l, .slice none 0 0, [], b⟩ o vk vf m := by
 have h9 := h.gf9.2
 have hk : St w base gk 69 0 vk o ((rF base ⟨l, v, x, b⟩ m).set 9 (gF base ⟨l, .slice none 0 0, [], b⟩)) := h.k.turn (w1 := w) 9 (loc_g base ⟨l, .slice none 0 0, [], b⟩) (fun k hk => rfl) (fun k hk _ _ => rfl) (fun v' _ => ⟨Kd.R_nil _ _ _ _ _, h9⟩)
 exact ⟨hk, h.f, h.lk, h.lf, h.inp, h.le⟩
theorem Rx.unboxed (h : Rx w base gk gf ⟨l, v, x, b⟩ o vk vf m) : Rx w base gk gf ⟨l, v, x, none⟩ o vk vf m := by
 have h9 := h.gf9.1
 have hk : St w base gk 69 0 vk o ((rF base ⟨l, v, x, b⟩ m).set 9 (gF base ⟨l, v, x, none⟩)) := h.k.turn (w1 := w) 9 (loc_g base ⟨l, v, x, none⟩) (fun k hk => rfl) (fun k hk _ _ => rfl) (fun v' _ => ⟨h9, fun _ _ _ e => by cases e⟩)
 exact ⟨hk, h.f, h.lk, h.lf, h.inp, h.le⟩
end
def RPost (base gk gf : Nat) (T : Tx) (r : Res) (w : World) (e : Ending) (w' : World) : Prop :=
 Below base w w' ∧ match r with
  | .inl m => e = .returned (.int .i64 0) ∧ ∃ o vk vf, Rx w' base gk gf T o vk vf m
  | .inr c => e = .returned (.int .i64 c)
def ROk (base gk gf : Nat) (T : Tx) (m : Mk) (w : World) (e : Ending) (w' : World) : Prop := e = .returned (.tuple #[]) ∧ Below base w w' ∧ ∃ o vk vf, Rx w' base gk gf T o vk vf m
theorem info37 : (Try.prog.info? 37).map (fun i => (i.zero, i.size, i.bytes)) = some (some (.agg #[.int .i64 0, .int .u32 0, .string ⟨#[]⟩, .int .i64 0]), 4, 40) := by kernel_rfl
section
variable {w : World} {base g : Nat} {prims : List (ByteArray × Int)} {o : Nat → Nat} {vs : List Value} {m : Mk}
theorem YW (h : Mx w base g prims o vs m) (c n : Int) (s : ByteArray) (hl : m.out.length < 1099511627776) :
 Calls Try.prog 19 #[.pointer (some ⟨g, 0, none⟩), .agg #[.int .i64 c, .int .u32 n, .string s, .int .i64 0]] w fun e w' => e = .returned (.tuple #[]) ∧ Below base w w' ∧ ∃ o' vs', Mx w' base g prims o' vs' (m.add c n s) := by
 have hbw := h.st.base_le
 have hBn := Yl (Below.refl w.heap.size w) (.cells #[.int .i64 c, .int .u32 n, .string s, .int .i64 0] 37)
 have hnew := XN w (.cells #[.int .i64 c, .int .u32 n, .string s, .int .i64 0] 37)
 have h1 := h.below hBn
 obtain ⟨v0, A1, c1, b, A7, c7, A8, c8, A9, c9, A10, c10, A11, c11, rfl⟩ := h.cells
 go_enter Try.func19, Try.ntmps19
 have hS : (w.alloc (.cells #[.int .i64 c, .int .u32 n, .string s, .int .i64 0] 37)).cell? ⟨g, 1, none⟩ = some (.slice A1 m.out.length c1) ∧ (w.alloc (.cells #[.int .i64 c, .int .u32 n, .string s, .int .i64 0] 37)).cell? ⟨w.heap.size, 0, none⟩ = some (.int .i64 c) ∧ (w.alloc (.cells #[.int .i64 c, .int .u32 n, .string s, .int .i64 0] 37)).cell? ⟨w.heap.size, 1, none⟩ = some (.int .u32 n) ∧ (w.alloc (.cells #[.int .i64 c, .int .u32 n, .string s, .int .i64 0] 37)).cell? ⟨w.heap.size, 2, none⟩ = some (.string s) ∧ (w.alloc (.cells #[.int .i64 c, .int .u32 n, .string s, .int .i64 0] 37)).cell? ⟨w.heap.size, 3, none⟩ = some (.int .i64 0) :=
  ⟨h1.st.cell 1 rfl, (Yc hnew 0).trans rfl, (Yc hnew 1).trans rfl, (Yc hnew 2).trans rfl, (Yc hnew 3).trans rfl⟩
 have hBw := Below.mono hBn hbw
 have hlt := Kd.R_lt (h.st.row 1 _ _ rfl rfl : Kd.R k37 37 w base _ (.slice A1 m.out.length c1) m.out)
 go_wp2_with fail
 generalize w.alloc (.cells #[.int .i64 c, .int .u32 n, .string s, .int .i64 0] 37) = W at h1 hnew hBw hBn hS ⊢
 generalize w.heap.size = gb at hnew hBn hS hlt ⊢
 refine Yau (n := 11) (S := fun w' => w'.cell? ⟨g, 1, none⟩ = some (.slice A1 m.out.length c1) ∧ w'.cell? ⟨gb, 0, none⟩ = some (.int .i64 c) ∧ w'.cell? ⟨gb, 1, none⟩ = some (.int .u32 n) ∧ w'.cell? ⟨gb, 2, none⟩ = some (.string s) ∧ w'.cell? ⟨gb, 3, none⟩ = some (.int .i64 0)) (ds := [10]) #[false, false, false, false, false, false, false, false, false, false, false] Z2 rfl rfl (hS) (fun hHeld => ?_)
 refine Jp (rfl : rtab .any (YaG Try.f19 1) = rtab .any (YaG Try.f19 1)) (fun HT_ => ?_)
 refine Xp (i := 0) (N := some 4) (v := ?_) (a' := ?_) #[true, false, false, false, false, false, false, false, false, false, false] rfl rfl (any_of HT_.out Z2) (fun _ _ _ h => h) (Or.inl ⟨Z4, ?_⟩) ?_ ?_
 rotate_left
 ·intro w'
  go_simp
  with_reducible rfl
 rotate_left
 ·simp only [Act.put, List.setIfInBounds_toArray, List.set_cons_zero, List.set_cons_succ, Yy, YA]
  rfl
 refine Xp (i := 1) (N := some 5) (v := ?_) (a' := ?_) #[true, true, false, false, false, false, false, false, false, false, false] rfl rfl (any_of HT_.out Z2) (fun _ _ _ h => h) (Or.inl ⟨Z4, ?_⟩) ?_ ?_
 rotate_left
 ·intro w'
  go_simp
  with_reducible rfl
 rotate_left
 ·simp only [Act.put, List.setIfInBounds_toArray, List.set_cons_zero, List.set_cons_succ, Yy, YA]
  rfl
 refine Xp (i := 2) (N := some 6) (v := ?_) (a' := ?_) #[true, true, true, false, false, false, false, false, false, false, false] rfl rfl (any_of HT_.out Z2) (fun _ _ _ h => h) (Or.inl ⟨Z4, ?_⟩) ?_ ?_
 rotate_left
 ·intro w'
  go_simp
  with_reducible rfl
 rotate_left
 ·simp only [Act.put, List.setIfInBounds_toArray, List.set_cons_zero, List.set_cons_succ, Yy, YA]
  rfl
 refine Xp (i := 3) (N := some 7) (v := ?_) (a' := ?_) #[true, true, true, true, false, false, false, false, false, false, false] rfl rfl (any_of HT_.out Z2) (fun _ _ _ h => h) (Or.inl ⟨Z4, ?_⟩) ?_ ?_
 rotate_left
 ·intro w'
  go_simp
  with_reducible rfl
 rotate_left
 ·simp only [Act.put, List.setIfInBounds_toArray, List.set_cons_zero, List.set_cons_succ, Yy, YA]
  rfl
 refine take_ (i := 4) (N := some 8) (v := ?_) (a' := ?_) #[true, true, true, true, true, false, false, false, false, false, false] rfl rfl (take_of HT_.out Z2) (fun _ _ _ h => h) (Or.inl ⟨Z4, ?_⟩) hHeld ?_ ?_
 rotate_left
 ·rintro w' hS; go_split_ands
  go_simp
  with_reducible rfl
 rotate_left
 ·simp only [Act.put, List.setIfInBounds_toArray, List.set_cons_zero, List.set_cons_succ, Yy, YA]
  rfl
 refine take_ (i := 5) (N := some 9) (v := ?_) (a' := ?_) #[true, true, true, true, true, true, false, false, false, false, false] rfl rfl (take_of HT_.out Z2) (fun _ _ _ h => h) (Or.inl ⟨Z4, ?_⟩) hHeld ?_ ?_
 rotate_left
 ·rintro w' hS; go_split_ands
  go_simp
  with_reducible rfl
 rotate_left
 ·simp only [Act.put, List.setIfInBounds_toArray, List.set_cons_zero, List.set_cons_succ, Yy, YA]
  rfl
 refine one_ (i := 6) (N := some 10) #[true, true, true, true, true, true, true, false, false, false, false] rfl rfl (VU HT_.out Z2) Z1 (fun K hK => ?_)
 refine JX (w1 := ?_) (v := ?_) Z4 rfl ?_ ?_
 rotate_left 2
 ·go_simp
  constructor
  ·rfl
  ·rfl
 have hS : (W.drew.alloc (.cells #[.int .i64 c, .int .u32 n, .string s, .int .i64 0] 37)).cell? ⟨g, 1, none⟩ = some (.slice A1 m.out.length c1) ∧ (W.drew.alloc (.cells #[.int .i64 c, .int .u32 n, .string s, .int .i64 0] 37)).cell? ⟨gb, 0, none⟩ = some (.int .i64 c) ∧ (W.drew.alloc (.cells #[.int .i64 c, .int .u32 n, .string s, .int .i64 0] 37)).cell? ⟨gb, 1, none⟩ = some (.int .u32 n) ∧ (W.drew.alloc (.cells #[.int .i64 c, .int .u32 n, .string s, .int .i64 0] 37)).cell? ⟨gb, 2, none⟩ = some (.string s) ∧ (W.drew.alloc (.cells #[.int .i64 c, .int .u32 n, .string s, .int .i64 0] 37)).cell? ⟨gb, 3, none⟩ = some (.int .i64 0) := ⟨(h1.below (Yl (YM (Below.refl _ _)) _)).st.cell 1 rfl, (Yc (YZ (Xq hnew) _) 0).trans rfl, (Yc (YZ (Xq hnew) _) 1).trans rfl, (Yc (YZ (Xq hnew) _) 2).trans rfl, (Yc (YZ (Xq hnew) _) 3).trans rfl⟩
 refine hK.out _ _ (hS) (fun hHeld => ?_)
 clear hK K
 refine Jj (a' := ?_) ?_ ?_
 rotate_left
 ·show Act.put _ (some 10) _ = _
  simp only [Act.put, List.setIfInBounds_toArray, List.set_cons_zero, List.set_cons_succ, Yy, YA]
  rfl
 refine one_ (i := 7) (N := some 11) #[true, true, true, true, true, true, true, true, false, false, false] rfl rfl (VU HT_.out Z2) Z1 (fun K hK => ?_)
 refine St.pushD (d := k37) (e := 37) (i := 1) (h1.below (YM (Below.refl _ _))).st rfl rfl (⟨c, n, s, 0⟩ : S37) [.int .i64 c, .int .u32 n, .string s, .int .i64 0] (fun _ => False) rfl Try.underlying23 info37 rfl Z1 Z1 rfl rfl rfl rfl (JN _ _ _ _) Z0 ?_
 rintro v2 w2 ⟨hst, hB2, ⟨A2, c2, rfl⟩, hb2, hg2⟩
 have hz : (m.out ++ [(⟨c, n, s, 0⟩ : S37)]).length = m.out.length + 1 := by simp
 rw [hz] at hst ⊢
 have hbx := XK (Xq hnew) hg2 (fun e => Nat.lt_irrefl _ (hlt _ e.symm))
 have hS : w2.cell? ⟨g, 1, none⟩ = some (.slice A1 m.out.length c1) ∧ w2.cell? ⟨gb, 0, none⟩ = some (.int .i64 c) ∧ w2.cell? ⟨gb, 1, none⟩ = some (.int .u32 n) ∧ w2.cell? ⟨gb, 2, none⟩ = some (.string s) ∧ w2.cell? ⟨gb, 3, none⟩ = some (.int .i64 0) := ⟨(Yc hb2 1).trans rfl, (Yc hbx 0).trans rfl, (Yc hbx 1).trans rfl, (Yc hbx 2).trans rfl, (Yc hbx 3).trans rfl⟩
 have hf := Yf hb2 1
 have hcc := hS.1
 refine hK.out _ _ (hS) (fun hHeld => ?_)
 clear hK K
 refine Jj (a' := ?_) ?_ ?_
 rotate_left
 ·show Act.put _ (some 11) _ = _
  simp only [Act.put, List.setIfInBounds_toArray, List.set_cons_zero, List.set_cons_succ, Yy, YA]
  rfl
 refine Xp (i := 8) (N := some 12) (v := ?_) (a' := ?_) #[true, true, true, true, true, true, true, true, true, false, false] rfl rfl (any_of HT_.out Z2) (fun _ _ _ h => h) (Or.inl ⟨Z4, ?_⟩) ?_ ?_
 rotate_left
 ·intro w'
  go_simp
  with_reducible rfl
 rotate_left
 ·simp only [Act.put, List.setIfInBounds_toArray, List.set_cons_zero, List.set_cons_succ, Yy, YA]
  rfl
 refine Xp (i := 9) (N := some 13) (v := ?_) (a' := ?_) #[true, true, true, true, true, true, true, true, true, true, false] rfl rfl (any_of HT_.out Z2) (fun _ _ _ h => h) (Or.inl ⟨Z4, ?_⟩) ?_ ?_
 rotate_left
 ·intro w'
  go_simp
  with_reducible rfl
 rotate_left
 ·simp only [Act.put, List.setIfInBounds_toArray, List.set_cons_zero, List.set_cons_succ, Yy, YA]
  rfl
 refine Ydw (i := 10) (N := none) #[true, true, true, true, true, true, true, true, true, true, true] rfl rfl (VU HT_.out Z2) Z1 (fun K hK => ?_)
 go_simp
 refine hK.out _ _ ?_
 clear hK K
 refine YcW (UT HT_.out Z2) ?_
 clear HT_ hHeld
 go_wp2_with fail
 refine bodyPost_end (results_none rfl _ _ _) rfl ?_
 exact ⟨rfl, Below.setCell (Below.trans hBw (Below.trans (YM (Below.refl _ _)) hB2)) h.st.hb _, _, _, ⟨hst, rfl⟩⟩
end
theorem info9 : (Try.prog.info? 9).map (fun i => (i.zero, i.size, i.bytes)) = some (some (.string ⟨#[]⟩), 1, 16) := by kernel_rfl
theorem YcP : (Try.prog.info? 3).map (fun i => (i.zero, i.size, i.bytes)) = some (some (.int .i64 0), 1, 8) := by kernel_rfl
section
variable {w : World} {base gk gf : Nat} {T : Tx} {o : Nat → Nat} {vk vf : List Value} {m : Mk}
theorem Xl (h : Rx w base gk gf T o vk vf m) (c n : Int) (s : ByteArray) (hl : m.out.length < 1099511627776) :
 Calls Try.prog 23 #[.pointer (some ⟨gk, 0, none⟩), .int .i64 c, .int .u32 n, .string s] w (ROk base gk gf T (m.add c n s) w) := by
 obtain ⟨A0, c0, A2, c2, A3, c3, A4, c4, u9, u10, u11, u12, u13, u14, u15, rfl⟩ := h.kc
 have k2 := h.k.cell 2 rfl
 have hX := Aside0.mk h
 clear h
 go_enter Try.func23, Try.ntmps23
 go_wp2_with (at_builtin; refine St.push (d := k37) (e := 37) (i := 2) hX.out.k rfl rfl (⟨c, n, s, 0⟩ : S37) [.int .i64 c, .int .u32 n, .string s, .int .i64 0] (fun _ => False) rfl Try.underlying23 info37 rfl Z1 Z1 rfl rfl rfl rfl (JN _ _ _ _) Z0 ?_)
 rintro v2 w2 hp
 have hff := Aside0.mk (St.beside hp hX.out.k rfl rfl hX.out.f (.inr Z1))
 obtain ⟨hst, hB2, ⟨A2', c2', rfl⟩, hb2, hg2⟩ := hp
 have hf := Yf hb2 2
 have k2' : w2.cell? ⟨gk, 2, none⟩ = some (.slice A2 m.out.length c2) := (Yc hb2 2).trans rfl
 have hB3 := Aside0.mk (hB2.setCell (p := ⟨gk, 2, none⟩) hX.out.k.hb (.slice A2' (m.out ++ [(⟨c, n, s, 0⟩ : S37)]).length c2'))
 replace hst := Aside0.mk hst
 clear hg2 hb2 k2 hB2
 generalize (m.out ++ [(⟨c, n, s, 0⟩ : S37)]).length = nn at hff hB3 hst k2' ⊢
 go_wp2_with fail
 exact bodyPost_end (results_none rfl _ _ _) rfl ⟨rfl, hB3.out, _, _, _, ⟨hst.out, hff.out, rfl, hX.out.lf, hX.out.inp, hX.out.le⟩⟩
theorem UN (h : Rx w base gk gf T o vk vf m) (s : ByteArray) (c : Int) (hl : m.names.length < 1099511627776) :
 Calls Try.prog 73 #[.pointer (some ⟨gk, 0, none⟩), .string s, .int .i64 c] w (ROk base gk gf T { m with names := (s, c) :: m.names } w) := by
 obtain ⟨A0, c0, A2, c2, A3, c3, A4, c4, u9, u10, u11, u12, u13, u14, u15, rfl⟩ := h.kc
 have k3 := h.k.cell 3 rfl
 have hX := Aside0.mk h
 have hl3 := Ydt m.names
 have hl4 := YdJ m.names
 replace hl3 := Aside0.mk hl3
 replace hl4 := Aside0.mk hl4
 clear h
 go_enter Try.func73, Try.ntmps73
 go_wp2_with (at_builtin; refine St.push (d := Kd.string) (e := 9) (i := 3) hX.out.k rfl rfl s [.string s] (fun _ => False) rfl Try.underlying63 info9 rfl Z1 Z1 rfl rfl rfl rfl rfl (by rw [hl3.out]; omega) ?_)
 rintro v2 w2 hp
 have hff := Aside0.mk (St.beside hp hX.out.k rfl rfl hX.out.f (.inr Z1))
 obtain ⟨hst, hB2, ⟨A2', c2', rfl⟩, hb2, hg2⟩ := hp
 have hf := Yf hb2 3
 have k3' : w2.cell? ⟨gk, 3, none⟩ = some (.slice A3 m.names.length c3) := (Yc hb2 3).trans rfl
 have hB3 := Aside0.mk (hB2.setCell (p := ⟨gk, 3, none⟩) hX.out.k.hb (.slice A2' (nmL m.names ++ [s]).length c2'))
 replace hst := Aside0.mk hst
 clear hg2 hb2 k3 hB2
 generalize (nmL m.names ++ [s]).length = nn at hff hB3 hst k3' ⊢
 go_upto_region 1 with (fail)
 have k4 := hst.out.cell 4 rfl
 generalize w2.setCell ⟨gk, 3, none⟩ (.slice A2' nn c2') = w3 at hst hB3 hff k4 ⊢
 clear k3' hf
 go_wp2_with (at_builtin; refine St.push (d := Kd.int .i64) (e := 3) (i := 4) hst.out rfl rfl c [.int .i64 c] (fun _ => False) rfl Try.underlying53 YcP rfl Z1 Z1 rfl rfl rfl rfl rfl (by rw [hl4.out]; omega) ?_)
 rintro v5 w5 hp
 have hff2 := Aside0.mk (St.beside hp hst.out rfl rfl hff.out (.inr Z1))
 obtain ⟨hst2, hB4, ⟨A4', c4', rfl⟩, hb4, hg4⟩ := hp
 have hf := Yf hb4 4
 have k4' : w5.cell? ⟨gk, 4, none⟩ = some (.slice A4 m.names.length c4) := (Yc hb4 4).trans rfl
 have hB5 := Aside0.mk ((hB3.out.trans hB4).setCell (p := ⟨gk, 4, none⟩) hX.out.k.hb (.slice A4' (cdL m.names ++ [c]).length c4'))
 replace hst2 := Aside0.mk hst2
 clear hg4 hb4 k4 hB4
 generalize (cdL m.names ++ [c]).length = n2 at hff2 hB5 hst2 k4' ⊢
 go_wp2_with fail
 have h9 := hst2.out
 rw [← nmL_cons s c, ← cdL_cons s c] at h9
 exact bodyPost_end (results_none rfl _ _ _) rfl ⟨rfl, hB5.out, _, _, _, ⟨h9, hff2.out, rfl, hX.out.lf, hX.out.inp, hX.out.le⟩⟩
end
end Go.Proofs.Ytehmhgpogpbjiaa.Fcc
namespace Go.Proofs.Ytehmhgpogpbjiaa.Fcc
open Go.RowKit Go.Proofs.YtehmhgpogpbjiaaW.PrintWords Go.Proofs.YtehmhgpogpbjiaaW.PrintLast
section
variable {P : Program} {ops : Array Oper} {Q : Exit → Act → World → Prop} {S : World → Prop} {ds : List Nat} {dn : List Nat} {a a' : Act} {w : World} {T : Bool × List (List Nat × List Nat)}
def mark (n : Nat) (dn : List Nat) : List Bool := dn.foldl (fun l i => l.set i true) (List.replicate n false)
theorem Uv (n : Nat) (dn : List Nat) (i : Nat) : mark n (dn ++ [i]) = (mark n dn).set i true := by unfold mark; rw [List.foldl_append]; rfl
def At (P : Program) (ops : Array Oper) (Q : Exit → Act → World → Prop) (S : World → Prop) (ds dn : List Nat) (a : Act) (w : World) : Prop :=
 ∀ fuel, ops.size ≤ fuel + dn.length → YL P .any ops Q S ds fuel (mark ops.size dn).toArray a w
theorem At.step {i : Nat} (hlt : dn.length < ops.size) (h : ∀ fuel, ops.size ≤ fuel + (dn ++ [i]).length → YL P .any ops Q S ds (fuel + 1) (mark ops.size dn).toArray a w) : At P ops Q S ds dn a w := by
 intro fuel hf
 match fuel, hf with
 | 0, hf => omega
 | f + 1, hf => exact h f Zm
structure Tab (ops : Array Oper) (n : Nat) (T : Bool × List (List Nat × List Nat)) : Prop where
 hn : ops.size = n
 hT : rtab .any ops = T
theorem VS {id n : Nat} (hm : P.follows .mixedOrders = true) (hn : ops.size = n) (hT : rtab .any ops = T) (hS : S w.drew)
 (h : Tab ops n T → Aside0 (S w.drew) → At P ops Q S ds [] a w.drew) : (Code.region id ops true).wp P Q a w := by
 refine Yau (S := S) (ds := ds) (mark n []).toArray hm hn ?_ hS (fun hS' => ?_)
 ·simp [mark]
 ·have := h ⟨hn, hT⟩ ⟨hS⟩ n Zm
  rw [hn] at this
  exact this
inductive Seg (P : Program) (ops : Array Oper) (S : World → Prop) : List (Nat × Tmp) → Act → Act → Prop
 | nil {a : Act} : Seg P ops S [] a a
 | cons {i : Nat} {N : Tmp} {r : List (Nat × Tmp)} {oi : Oper} {v : Value} {a a1 a2 : Act} (hi : ops[i]? = some oi) (hN : oi.dst = some N) (hy : YieldsIf P ops S oi v a) (ha : a.put (some N) v = a1) (h : Seg P ops S r a1 a2) : Seg P ops S ((i, N) :: r) a a2
theorem Seg.on {i : Nat} {N : Tmp} {r : List (Nat × Tmp)} {oi : Oper} {v : Value} {a a1 a2 : Act} (hi : ops[i]? = some oi) (hN : oi.dst = some N) (hw : Region.wanted oi (yielded ops a.tmps) = true) (hy : ∀ w, S w → (execOp a.eval oi).run P w = .ok (.value v) w) (ha : a.put (some N) v = a1) (h : Seg P ops S r a1 a2) : Seg P ops S ((i, N) :: r) a a2 := .cons hi hN (.inl ⟨hw, hy⟩) ha h
theorem Seg.off {i : Nat} {N : Tmp} {r : List (Nat × Tmp)} {oi : Oper} {a a1 a2 : Act} (hi : ops[i]? = some oi) (hN : oi.dst = some N) (hw : Region.wanted oi (yielded ops a.tmps) = false) (ha : a.put (some N) undef = a1) (h : Seg P ops S r a1 a2) : Seg P ops S ((i, N) :: r) a a2 := .cons hi hN (.inr ⟨hw, rfl⟩) ha h
def segB (n : Nat) (T : Bool × List (List Nat × List Nat)) (ds : List Nat) : List Nat → List (Nat × Tmp) → Bool
 | _, [] => true
 | dn, (i, _) :: r => decide (dn.length < n) && takeT T ds (mark n dn) (mark n (dn ++ [i])) i && segB n T ds (dn ++ [i]) r
theorem seg_of (hT : rtab .any ops = T) (hQ : ∀ c (a : Act) (tm : Array Value) w, Q (.panic c) { a with tmps := tm } w → Q (.panic c) a w) (hS : S w) : ∀ (is : List (Nat × Tmp)) (dn : List Nat) (a a' : Act), segB ops.size T ds dn is = true → Seg P ops S is a a' → At P ops Q S ds (dn ++ is.map (·.1)) a' w → At P ops Q S ds dn a w
 | [], dn, a, a', _, hseg, h => by
   cases hseg
   simpa using h
 | (i, N) :: r, dn, a, a', hb, hseg, h => by
   cases hseg with
   | cons hi hN hy ha hr =>
     simp only [segB, Bool.and_eq_true, decide_eq_true_eq] at hb
     have h1 := seg_of hT hQ hS r (dn ++ [i]) _ _ hb.2 hr ZO
     refine At.step (i := i) hb.1.1 fun fuel hf => ?_
     have h2 := h1 fuel hf
     rw [Uv] at h2
     refine take_ (N := _) ((mark ops.size dn).set i true).toArray hi hN (take_of hT ?_) (fun c a w hq => ?_) hy hS ha h2
     ·have := hb.1.2
      rw [Uv] at this
      simpa using this
     ·rw [hN] at hq
      exact hQ _ _ _ _ hq
theorem seg_ (is : List (Nat × Tmp)) {n : Nat} (tb : Tab ops n T) (hS : Aside0 (S w)) (hb : segB n T ds dn is = true) (hQ : ∀ c (a : Act) (tm : Array Value) w, Q (.panic c) { a with tmps := tm } w → Q (.panic c) a w) (hseg : Seg P ops S is a a') (h : At P ops Q S ds (dn ++ is.map (·.1)) a' w) : At P ops Q S ds dn a w :=
 seg_of tb.hT hQ hS.out is dn a a' (by rw [tb.hn]; exact hb) hseg h
def segAB (n : Nat) (T : Bool × List (List Nat × List Nat)) : List Nat → List (Nat × Tmp) → Bool
 | _, [] => true
 | dn, (i, _) :: r => decide (dn.length < n) && anyT T (mark n dn) (mark n (dn ++ [i])) i && segAB n T (dn ++ [i]) r
theorem sega_of (hT : rtab .any ops = T) (hQ : ∀ c (a : Act) (tm : Array Value) w, Q (.panic c) { a with tmps := tm } w → Q (.panic c) a w) : ∀ (is : List (Nat × Tmp)) (dn : List Nat) (a a' : Act), segAB ops.size T dn is = true → Seg P ops (fun _ => True) is a a' → At P ops Q S ds (dn ++ is.map (·.1)) a' w → At P ops Q S ds dn a w
 | [], dn, a, a', _, hseg, h => by
   cases hseg
   simpa using h
 | (i, N) :: r, dn, a, a', hb, hseg, h => by
   cases hseg with
   | cons hi hN hy ha hr =>
     simp only [segAB, Bool.and_eq_true, decide_eq_true_eq] at hb
     have h1 := sega_of hT hQ r (dn ++ [i]) _ _ hb.2 hr ZO
     refine At.step (i := i) hb.1.1 fun fuel hf => ?_
     have h2 := h1 fuel hf
     rw [Uv] at h2
     refine Xp (N := _) ((mark ops.size dn).set i true).toArray hi hN (any_of hT ?_) (fun c a w hq => ?_) ?_ ha h2
     ·have := hb.1.2
      rw [Uv] at this
      simpa using this
     ·rw [hN] at hq
      exact hQ _ _ _ _ hq
     ·exact hy.imp (fun ⟨h1, h2⟩ => ⟨h1, fun w => h2 w trivial⟩) id
theorem sega_ (is : List (Nat × Tmp)) {n : Nat} (tb : Tab ops n T) (hb : segAB n T dn is = true) (hQ : ∀ c (a : Act) (tm : Array Value) w, Q (.panic c) { a with tmps := tm } w → Q (.panic c) a w) (hseg : Seg P ops (fun _ => True) is a a') (h : At P ops Q S ds (dn ++ is.map (·.1)) a' w) : At P ops Q S ds dn a w :=
 sega_of tb.hT hQ is dn a a' (by rw [tb.hn]; exact hb) hseg h
def QL (Q : Exit → Act → World → Prop) (K : Act → World → Prop) : Exit → Act → World → Prop
 | .normal, a, w => K a w
 | e, a, w => Q e a w
theorem ql_ {K : Act → World → Prop} (h : K a w) : QL Q K .normal a w := h
theorem QL.lets {K : Act → World → Prop} (h : LetsOut (QL Q K)) : LetsOut Q := h
theorem QL.wp {K : Act → World → Prop} {o : Oper} (h : o.wp P a w K (QL Q K)) : o.wp P a w K Q := by
 unfold Oper.wp at *
 generalize (execOp a.eval o).run P w = r at *
 cases r with
 | ok n w' =>
   cases n <;> simp only [Oper.upon] at h ⊢ <;>
    first
     | exact h
     | exact Calls.mono h (fun e w'' he => by cases e <;> exact he)
 | halt x w' => cases x <;> simp only [Oper.upon] at h ⊢ <;> exact h
theorem QL.op {K : Act → World → Prop} {i : Nat} {oi : Oper} (hi : ops[i]? = some oi) (h : wpList P ops (QL Q K) [oi] a w) : wpOp P ops Q i K a w := by
 unfold wpOp
 rw [hi]
 unfold wpList at h
 have hk : (wpList P ops (QL Q K) []) = K := by funext a w; rfl
 rw [hk] at h
 simp only
 split
 ·rename_i hw
  rw [if_pos hw] at h
  exact h.imp QL.wp (fun h => ⟨h.1, QL.lets h.2⟩)
 ·rename_i hw
  rw [if_neg hw] at h
  exact h
theorem eff_ (i : Nat) {n : Nat} {oi : Oper} (tb : Tab ops n T) (hi : ops[i]? = some oi) (hb : (decide (dn.length < n) && (Jx T.2 (mark n dn) == [i])) = true)
 (h : wpList P ops (QL Q (fun a' w' => S w' ∧ (Aside0 (S w') → At P ops Q S ds (dn ++ [i]) a' w'))) [oi] a w) : At P ops Q S ds dn a w := by
 obtain ⟨hn, hT⟩ := tb
 subst hn
 simp only [Bool.and_eq_true, decide_eq_true_eq] at hb
 refine At.step (i := i) hb.1 fun fuel hf => ?_
 refine Uy (rs := [i]) (by rw [Jc, hT]; simpa using hb.2) Z6 fun j hj => ?_
 rw [List.mem_singleton] at hj
 subst hj
 refine wpOp_mono (fun a' w' hh => ?_) (QL.op hi h)
 refine ⟨fun _ _ => hh.1, ?_⟩
 have := hh.2 ⟨hh.1⟩ fuel hf
 rw [Uv] at this
 simpa using this
theorem UI (i : Nat) {n : Nat} {oi : Oper} (tb : Tab ops n T) (hi : ops[i]? = some oi) (hb : (decide (dn.length < n) && (Jx T.2 (mark n dn) == [i]) && ds.contains i) = true)
 (h : wpList P ops (QL Q (fun a' w' => At P ops Q S ds (dn ++ [i]) a' w')) [oi] a w) : At P ops Q S ds dn a w := by
 obtain ⟨hn, hT⟩ := tb
 subst hn
 simp only [Bool.and_eq_true, decide_eq_true_eq] at hb
 refine At.step (i := i) hb.1.1 fun fuel hf => ?_
 refine Uy (rs := [i]) (by rw [Jc, hT]; simpa using hb.1.2) Z6 fun j hj => ?_
 rw [List.mem_singleton] at hj
 subst hj
 refine wpOp_mono (fun a' w' hh => ?_) (QL.op hi h)
 refine ⟨fun hn => absurd (by simpa using hb.2) hn, ?_⟩
 have := hh fuel hf
 rw [Uv] at this
 simpa using this
theorem end_ {n : Nat} (tb : Tab ops n T) (hb : (Jx T.2 (mark n dn) == []) = true) (h : Q .normal a w) : At P ops Q S ds dn a w := by
 obtain ⟨hn, hT⟩ := tb
 subst hn
 intro fuel _
 exact YcW (UT hT hb) h
end
end Go.Proofs.Ytehmhgpogpbjiaa.Fcc
namespace Go.Proofs.Ytehmhgpogpbjiaa.Fcc
open Go.RowKit Go.Proofs.YtehmhgpogpbjiaaW.PrintWords Go.Proofs.YtehmhgpogpbjiaaW.PrintLast Go.Proofs.YtehmhgpogpbjiaaW.PrintMore Go.Proofs.Ytehmhgpogpbjiaa.PFccTokens
section
variable {w : World} {base gk gf : Nat} {T : Tx} {o : Nat → Nat} {vk vf : List Value} {m : Mk} {t : S59} {r : List S59}
theorem Rx.tok (h : Rx w base gk gf T o vk vf m) {A0 : Option Addr} {c0 : Nat} (hv : vk[0]? = some (.slice A0 T.l.length c0)) {j : Nat} (hj : T.l[j]? = some t) : ∃ ad, A0 = some ad ∧
 w.cell? (ad.add (j * 3)) = some (.int .i64 t.f0) ∧ w.cell? ⟨(ad.add (j * 3)).block, (ad.add (j * 3)).off + 1, none⟩ = some (.string t.f1) ∧ w.cell? ⟨(ad.add (j * 3)).block, (ad.add (j * 3)).off + 2, none⟩ = some (.int .i64 t.f2) := by
 have hR : Kd.R k59 59 w base (fun k => o k = 0 + 1 + 0) (.slice A0 T.l.length c0) T.l := h.k.row 0 _ _ hv rfl
 obtain ⟨-, hnc, hC⟩ := Kd.R_reads' hR
 have hjl : j < T.l.length := (List.getElem?_eq_some_iff.1 hj).1
 obtain ⟨ad, e, g0, g1, g2⟩ := at_T59 hC (j : Int) Z0 Z0
 have hrd : Jy T.l (j : Int) = t := by simp [Jy, List.getD_eq_getElem?_getD, hj]
 rw [Int.toNat_natCast, hrd] at g0 g1 g2
 exact ⟨ad, e, g0, g1, g2⟩
theorem Rx.ahead (h : Rx w base gk gf T o vk vf m) (hm : m.inp = t :: r) : ∃ j, T.l.length - m.inp.length = j ∧ j < T.l.length ∧ T.l[j]? = some t ∧ T.l.length - r.length = j + 1 ∧ T.l.length < 9223372036854775808 ∧ r = T.l.drop (T.l.length - r.length) ∧ r.length ≤ T.l.length := by
 have hmx : T.l.length ≤ 9223372036854775807 := by
  obtain ⟨A0, c0, A2, c2, A3, c3, A4, c4, u9, u10, u11, u12, u13, u14, u15, rfl⟩ := h.kc
  have hR : Kd.R k59 59 w base (fun k => o k = 0 + 1 + 0) (.slice A0 T.l.length c0) T.l := h.k.row 0 _ _ rfl rfl
  exact (Kd.R_reads' hR).2.2.2.1
 have hi := h.inp
 have hle := h.le
 rw [hm] at hi hle
 have hl : (t :: r).length = r.length + 1 := rfl
 rw [hl] at hi hle
 obtain ⟨j, hj⟩ : ∃ j, T.l.length - (r.length + 1) = j := ⟨_, rfl⟩
 rw [hj] at hi
 have hj1 : T.l[j]? = some t := by
  have := congrArg (fun l => l[0]?) hi
  simpa using this.symm
 refine ⟨j, (by rw [hm]; exact hj), Z0, hj1, Z0, Z0, ?_, Z0⟩
 have := congrArg List.tail hi
 rw [List.tail_cons, List.tail_drop] at this
 rw [show T.l.length - r.length = j + 1 by omega]
 exact this
theorem Rx.none_ahead (h : Rx w base gk gf T o vk vf m) (hm : m.inp = []) : T.l.length - m.inp.length = T.l.length := by rw [hm]; simp
theorem Rx.step (h : Rx w base gk gf T o vk vf m) (hr : r = T.l.drop (T.l.length - r.length)) (hl : r.length ≤ T.l.length) : Rx (w.setCell ⟨gk, 1, none⟩ (.int .i64 ((T.l.length - r.length : Nat) : Int))) base gk gf T o (vk.set 1 (.int .i64 ((T.l.length - r.length : Nat) : Int))) vf { m with inp := r } :=
 ⟨h.k.put 1 (loc_val _ _) rfl, St.besideP h.k h.f (.inr Z1), Z1W, h.lf, hr, hl⟩
theorem Ydi (h : Rx w base gk gf T o vk vf m) (hm : m.inp = t :: r) (ht : t.f0 = 1) :
 Calls Try.prog 74 #[.pointer (some ⟨gk, 0, none⟩)] w fun e w' => e = .returned (.tuple #[.string t.f1, .int .i64 0]) ∧ Below base w w' ∧ ∃ o' vk' vf', Rx w' base gk gf T o' vk' vf' { m with inp := r } := by
 obtain ⟨A0, c0, A2, c2, A3, c3, A4, c4, u9, u10, u11, u12, u13, u14, u15, rfl⟩ := h.kc
 obtain ⟨j, hj, hjl, hjt, hj1, hT, hr, hrl⟩ := h.ahead hm
 obtain ⟨ad, rfl, g0, g1, g2⟩ := h.tok rfl hjt
 have k0 := h.k.cell 0 rfl
 have k1 := h.k.cell 1 rfl
 have kf := h.k.free 1
 rw [hj] at k1
 rw [ht] at g0
 have hX := Aside0.mk h
 have hr' := Aside0.mk (And.intro hr hrl)
 have hj1' := Aside0.mk hj1
 have hjt' := Aside0.mk hjt
 have hjz : (j : Int) < (T.l.length : Int) := by omega
 have e0 : decide ((T.l.length : Int) ≤ (j : Int)) = false := by simp; omega
 clear h hm hj hj1 hr hrl hjt
 go_enter Try.func74, Try.ntmps74
 go_wp2_with fail
 go_quiet (fail)
 rename_i nq
 have hB1 := Yn (Below.refl w.heap.size w) nq
 have hX1 := hX.out.below hB1
 have hB2 := Below.mono hB1 hX.out.k.base_le
 have k1' : (w.drewN nq).cell? ⟨gk, 1, none⟩ = some (.int .i64 (j : Int)) := k1
 have kf' := hX1.k.free 1
 have hS := hX1.step hr'.out.1 hr'.out.2
 rw [hj1'.out] at hS
 have hB3 := Aside0.mk (hB2.setCell (p := ⟨gk, 1, none⟩) hX.out.k.hb (.int .i64 ((j + 1 : Nat) : Int)))
 have s0 := hS.k.cell 0 rfl
 have s1 := hS.k.cell 1 rfl
 obtain ⟨ad', e, q0, q1, q2⟩ := hS.tok rfl hjt'.out
 cases e
 replace hS := Aside0.mk hS
 generalize w.drewN nq = w1 at hX1 hB3 k1' kf' hS s0 s1 q0 q1 q2 ⊢
 clear hX1 hB1 hB2 g0 g1 g2 k0 k1 kf
 have ej : ((j + 1 : Nat) : Int) = (j : Int) + 1 := by omega
 rw [ej] at hB3 hS s0 s1 q0 q1 q2
 go_wp2_with fail
 generalize w1.setCell ⟨gk, 1, none⟩ (.int .i64 ((j : Int) + 1)) = w2 at hB3 hS s0 s1 q0 q1 q2 ⊢
 go_quiet (fail)
 go_wp2_with fail
 exact bodyPost_ret (v := .tuple #[.string t.f1, .int .i64 0]) Z1Q rfl ⟨rfl, hB3.out.trans (Below.mono (Yn (Below.refl _ _) _) hS.out.k.base_le), _, _, _, hS.out.below (Yn (Below.refl _ _) _)⟩
theorem rname_bad (h : Rx w base gk gf T o vk vf m) (hm : m.inp = t :: r) (ht : t.f0 ≠ 1) :
 Calls Try.prog 74 #[.pointer (some ⟨gk, 0, none⟩)] w fun e w' => e = .returned (.tuple #[.string ⟨#[]⟩, .int .i64 15]) ∧ Below w.heap.size w w' := by
 obtain ⟨A0, c0, A2, c2, A3, c3, A4, c4, u9, u10, u11, u12, u13, u14, u15, rfl⟩ := h.kc
 obtain ⟨j, hj, hjl, hjt, hj1, hT, hr, hrl⟩ := h.ahead hm
 obtain ⟨ad, rfl, g0, g1, g2⟩ := h.tok rfl hjt
 have k0 := h.k.cell 0 rfl
 have k1 := h.k.cell 1 rfl
 rw [hj] at k1
 have e1 : (t.f0 == 1) = false := by simpa using ht
 have e2 : (t.f0 != 1) = true := by simpa using ht
 have hjz : (j : Int) < (T.l.length : Int) := by omega
 have e0 : decide ((T.l.length : Int) ≤ (j : Int)) = false := by simp; omega
 clear h hm hj hj1 hr hrl hjt
 go_enter Try.func74, Try.ntmps74
 go_wp2_with fail
 go_quiet (fail)
 go_wp2_with fail
 exact Z2v
theorem YeE (h : Rx w base gk gf T o vk vf m) (hm : m.inp = []) :
 Calls Try.prog 74 #[.pointer (some ⟨gk, 0, none⟩)] w fun e w' => e = .returned (.tuple #[.string ⟨#[]⟩, .int .i64 15]) ∧ Below w.heap.size w w' := by
 obtain ⟨A0, c0, A2, c2, A3, c3, A4, c4, u9, u10, u11, u12, u13, u14, u15, rfl⟩ := h.kc
 have k0 := h.k.cell 0 rfl
 have k1 := h.k.cell 1 rfl
 rw [h.none_ahead hm] at k1
 clear h hm
 go_enter Try.func74, Try.ntmps74
 go_wp2_with fail
 go_quiet (fail)
 go_wp2_with fail
 exact Z2v
end
section
variable {w : World} {base g : Nat} {prims : List (ByteArray × Int)} {o : Nat → Nat} {vs : List Value} {m : Mk} {t : S59} {r : List S59}
theorem Ydz {ok : Nat → Prop} {v : Value} (h : inF base (t :: r) w ok v) : ∃ ad c, v = .slice (some ad) (r.length + 1) c ∧ r.length + 1 ≤ c ∧ r.length + 1 < 9223372036854775808 ∧ w.cell? ad = some (.int .i64 t.f0) ∧ w.cell? ⟨ad.block, ad.off + 1, none⟩ = some (.string t.f1) ∧
 ∀ A', (0 < r.length → A' = some (ad.add 3)) → inF base r w ok (.slice A' r.length (c - 1)) := by
 obtain ⟨L, A, A0, n, c, j, hR, hj, hl, rfl, hA⟩ := h
 obtain ⟨hn, hnc, hC⟩ := Kd.R_reads' hR
 have hlen : L.length = j + (r.length + 1) := by
  have := congrArg List.length hl
  rw [List.length_drop, List.length_cons] at this
  omega
 have hjn : j < n := by omega
 have hA0 := hA hjn
 have hsz := hC.2.1
 obtain ⟨ad, e, g0, g1, g2⟩ := at_T59 hC (j : Int) Z0 Z0
 subst e
 rw [Int.toNat_natCast] at g0 g1
 have hrd : Jy L (j : Int) = t := by
  have h2 : L[j]? = some t := by
   have := congrArg (fun l => l[0]?) hl
   simpa using this.symm
  simp [Jy, List.getD_eq_getElem?_getD, h2]
 rw [hrd] at g0 g1
 rw [Option.map_some] at hA0
 refine ⟨ad.add (j * 3), c - j, ?_, Z0, Z0, g0, g1, fun A' hA' => ⟨L, some ad, A', n, c, j + 1, hR, Z0, ?_, ?_, fun hlt => ?_⟩⟩
 ·rw [hA0]
  have : n - j = r.length + 1 := by omega
  rw [this]
 ·have := congrArg List.tail hl
  rw [List.tail_cons, List.tail_drop] at this
  exact this
 ·have h1 : r.length = n - (j + 1) := by omega
  have h2 : c - j - 1 = c - (j + 1) := by omega
  rw [← h1, h2]
 ·rw [hA' Z0, Option.map_some]
  have : (ad.add (j * 3)).add 3 = ad.add ((j + 1) * 3) := by
   cases ad
   by_cases hj0 : j = 0
   ·subst hj0
    simp [Addr.add]
   ·have h1 : j * 3 ≠ 0 := by omega
    have h2 : (j + 1) * 3 ≠ 0 := by omega
    simp only [Addr.add, h1, h2, ↓reduceIte]
    simp
    omega
  rw [this]
theorem in_nil {ok : Nat → Prop} {v : Value} (h : inF base [] w ok v) : ∃ A c, v = .slice A 0 c := by
 obtain ⟨L, A, A0, n, c, j, hR, hj, hl, rfl, hA⟩ := h
 have hn := (Kd.R_reads' hR).1
 have hlen : L.length - j = 0 := by
  have := congrArg List.length hl
  rw [List.length_drop, List.length_nil] at this
  exact this.symm
 exact ⟨_, _, (by rw [show n - j = 0 by omega])⟩
theorem Mx.setIn {A' : Option Addr} {n' c' : Nat} {v0 : Value} {vr : List Value} (h : Mx w base g prims o (v0 :: vr) m) {l : List S59} (hl : inF base l w (fun k => o k = 1) (.slice A' n' c')) :
 Mx (w.setCell ⟨g, 0, none⟩ (.slice A' n' c')) base g prims o (.slice A' n' c' :: vr) { m with inp := l } :=
 ⟨h.st.put 0 (loc_in base l) hl, h.len⟩
theorem Ug (h : Mx w base g prims o vs m) (hm : m.inp = t :: r) (ht : t.f0 = 1) :
 Calls Try.prog 64 #[.pointer (some ⟨g, 0, none⟩)] w fun e w' => e = .returned (.tuple #[.string t.f1, .int .i64 0]) ∧ Below base w w' ∧ ∃ o' vs', Mx w' base g prims o' vs' { m with inp := r } := by
 obtain ⟨v0, A1, c1, b, A7, c7, A8, c8, A9, c9, A10, c10, A11, c11, rfl⟩ := h.cells
 have hin : inF base m.inp w (fun k => o k = 0 + 1 + 0) v0 := h.st.row 0 _ _ rfl rfl
 rw [hm] at hin
 obtain ⟨ad, c, rfl, hc, hb, g0, g1, hr⟩ := Ydz hin
 have hcell := h.st.cell 0 rfl
 have hfree := h.st.free 0
 rw [ht] at g0
 have e0 : ((r.length : Int) + 1 == 0) = false := by simp; omega
 have p0 : ((0 : Int) < (r.length : Int) + 1) = True := eq_true Z0
 have p1 : ((1 : Int) ≤ (r.length : Int) + 1) = True := eq_true Z0
 have p2 : ((r.length : Int) + 1 ≤ (c : Int)) = True := eq_true Z0
 go_enter Try.func64, Try.ntmps64
 have hX := h
 clear h
 go_wp2_with fail
 ·skip
  subst h
  exact bodyPost_ret (v := .tuple #[.string t.f1, .int .i64 0]) Z1q rfl ⟨rfl, (Below.refl _ _).setCell hX.st.hb _, _, _, hX.setIn (hr _ (fun h1 => absurd h1 Z0))⟩
 ·refine bodyPost_ret (v := .tuple #[.string t.f1, .int .i64 0]) Z1q rfl ⟨rfl, (Below.refl _ _).setCell hX.st.hb _, _, _, hX.setIn (hr _ (fun h1 => ?_))⟩
  cases ad
  simp [Addr.add]
theorem Yby (h : Mx w base g prims o vs m) (hm : m.inp = t :: r) (ht : t.f0 ≠ 1) :
 Calls Try.prog 64 #[.pointer (some ⟨g, 0, none⟩)] w fun e w' => e = .returned (.tuple #[.string ⟨#[]⟩, .int .i64 15]) ∧ w' = w := by
 obtain ⟨v0, A1, c1, b, A7, c7, A8, c8, A9, c9, A10, c10, A11, c11, rfl⟩ := h.cells
 have hin : inF base m.inp w (fun k => o k = 0 + 1 + 0) v0 := h.st.row 0 _ _ rfl rfl
 rw [hm] at hin
 obtain ⟨ad, c, rfl, hc, hb, g0, g1, hr⟩ := Ydz hin
 have hcell := h.st.cell 0 rfl
 have e0 : ((r.length : Int) + 1 == 0) = false := by simp; omega
 have e1 : (t.f0 == 1) = false := by simpa using ht
 have p0 : ((0 : Int) < (r.length : Int) + 1) = True := eq_true Z0
 clear hin hr h
 go_enter Try.func64, Try.ntmps64
 go_wp2_with fail
 exact Z2w
theorem Yam (h : Mx w base g prims o vs m) (hm : m.inp = []) :
 Calls Try.prog 64 #[.pointer (some ⟨g, 0, none⟩)] w fun e w' => e = .returned (.tuple #[.string ⟨#[]⟩, .int .i64 15]) ∧ w' = w := by
 obtain ⟨v0, A1, c1, b, A7, c7, A8, c8, A9, c9, A10, c10, A11, c11, rfl⟩ := h.cells
 have hin : inF base m.inp w (fun k => o k = 0 + 1 + 0) v0 := h.st.row 0 _ _ rfl rfl
 rw [hm] at hin
 obtain ⟨A, c, rfl⟩ := in_nil hin
 have hcell := h.st.cell 0 rfl
 clear hin h
 go_enter Try.func64, Try.ntmps64
 go_wp2_with fail
 exact Z2w
end
end Go.Proofs.Ytehmhgpogpbjiaa.Fcc
