import Derived.Test.Ytehmhgpogpbjiaafr15
set_option linter.unusedVariables false
set_option linter.unusedSimpArgs false
set_option maxRecDepth 100000
set_option maxHeartbeats 8000000
namespace Go.Proofs.Ytehmhgpogpbjiaa.Fcc
open Go.RowKit Go.Proofs.YtehmhgpogpbjiaaW.PrintWords Go.Proofs.YtehmhgpogpbjiaaW.PrintLast
section
variable {P : Program} {ops : Array Oper} {Q : Exit → Act → World → Prop} {S : World → Prop} {ds : List Nat} {dn : List Nat} {a a' : Act} {w : World} {T : Bool × List (List Nat × List Nat)}
def mark (n : Nat) (dn : List Nat) : List Bool := dn.foldl (fun l i => l.set i true) (List.replicate n false)
theorem Us (n : Nat) (dn : List Nat) (i : Nat) : mark n (dn ++ [i]) = (mark n dn).set i true := by unfold mark; rw [List.foldl_append]; rfl
def At (P : Program) (ops : Array Oper) (Q : Exit → Act → World → Prop) (S : World → Prop) (ds dn : List Nat) (a : Act) (w : World) : Prop :=
 ∀ fuel, ops.size ≤ fuel + dn.length → YO P .any ops Q S ds fuel (mark ops.size dn).toArray a w
theorem At.step {i : Nat} (hlt : dn.length < ops.size) (h : ∀ fuel, ops.size ≤ fuel + (dn ++ [i]).length → YO P .any ops Q S ds (fuel + 1) (mark ops.size dn).toArray a w) : At P ops Q S ds dn a w := by
 intro fuel hf
 match fuel, hf with
 | 0, hf => omega
 | f + 1, hf => exact h f Zj
structure Tab (ops : Array Oper) (n : Nat) (T : Bool × List (List Nat × List Nat)) : Prop where
 hn : ops.size = n
 hT : rtab .any ops = T
theorem Uk {id n : Nat} (hm : P.follows .mixedOrders = true) (hn : ops.size = n) (hT : rtab .any ops = T) (hS : S w.drew)
 (h : Tab ops n T → Aside0 (S w.drew) → At P ops Q S ds [] a w.drew) : (Code.region id ops true).wp P Q a w := by
 refine Yam (S := S) (ds := ds) (mark n []).toArray hm hn ?_ hS (fun hS' => ?_)
 ·simp [mark]
 ·have := h ⟨hn, hT⟩ ⟨hS⟩ n Zj
  rw [hn] at this
  exact this
inductive Seg (P : Program) (ops : Array Oper) (S : World → Prop) : List (Nat × Tmp) → Act → Act → Prop
 | nil {a : Act} : Seg P ops S [] a a
 | cons {i : Nat} {N : Tmp} {r : List (Nat × Tmp)} {oi : Oper} {v : Value} {a a1 a2 : Act} (hi : ops[i]? = some oi) (hN : oi.dst = some N) (hy : YieldsIf P ops S oi v a) (ha : a.put (some N) v = a1) (h : Seg P ops S r a1 a2) : Seg P ops S ((i, N) :: r) a a2
theorem Seg.on {i : Nat} {N : Tmp} {r : List (Nat × Tmp)} {oi : Oper} {v : Value} {a a1 a2 : Act} (hi : ops[i]? = some oi) (hN : oi.dst = some N) (hw : Region.wanted oi (yielded ops a.tmps) = true) (hy : ∀ w, S w → (execOp a.eval oi).run P w = .ok (.value v) w) (ha : a.put (some N) v = a1) (h : Seg P ops S r a1 a2) : Seg P ops S ((i, N) :: r) a a2 := .cons hi hN (.inl ⟨hw, hy⟩) ha h
theorem Seg.off {i : Nat} {N : Tmp} {r : List (Nat × Tmp)} {oi : Oper} {a a1 a2 : Act} (hi : ops[i]? = some oi) (hN : oi.dst = some N) (hw : Region.wanted oi (yielded ops a.tmps) = false) (ha : a.put (some N) undef = a1) (h : Seg P ops S r a1 a2) : Seg P ops S ((i, N) :: r) a a2 := .cons hi hN (.inr ⟨hw, rfl⟩) ha h
def segB (n : Nat) (T : Bool × List (List Nat × List Nat)) (ds : List Nat) : List Nat → List (Nat × Tmp) → Bool
 | _, [] => true
 | dn, (i, _) :: r => decide (dn.length < n) && takeT T ds (mark n dn) (mark n (dn ++ [i])) i && segB n T ds (dn ++ [i]) r
theorem seg_of (hT : rtab .any ops = T) (hQ : ∀ c (a : Act) (tm : Array Value) w, Q (.panic c) { a with tmps := tm } w → Q (.panic c) a w) (hS : S w) : ∀ (is : List (Nat × Tmp)) (dn : List Nat) (a a' : Act), segB ops.size T ds dn is = true → Seg P ops S is a a' → At P ops Q S ds (dn ++ is.map (·.1)) a' w → At P ops Q S ds dn a w
 | [], dn, a, a', _, hseg, h => by
   cases hseg
   simpa using h
 | (i, N) :: r, dn, a, a', hb, hseg, h => by
   cases hseg with
   | cons hi hN hy ha hr =>
     simp only [segB, Bool.and_eq_true, decide_eq_true_eq] at hb
     have h1 := seg_of hT hQ hS r (dn ++ [i]) _ _ hb.2 hr ZM
     refine At.step (i := i) hb.1.1 fun fuel hf => ?_
     have h2 := h1 fuel hf
     rw [Us] at h2
     refine take_ (N := _) ((mark ops.size dn).set i true).toArray hi hN (take_of hT ?_) (fun c a w hq => ?_) hy hS ha h2
     ·have := hb.1.2
      rw [Us] at this
      simpa using this
     ·rw [hN] at hq
      exact hQ _ _ _ _ hq
theorem seg_ (is : List (Nat × Tmp)) {n : Nat} (tb : Tab ops n T) (hS : Aside0 (S w)) (hb : segB n T ds dn is = true) (hQ : ∀ c (a : Act) (tm : Array Value) w, Q (.panic c) { a with tmps := tm } w → Q (.panic c) a w) (hseg : Seg P ops S is a a') (h : At P ops Q S ds (dn ++ is.map (·.1)) a' w) : At P ops Q S ds dn a w :=
 seg_of tb.hT hQ hS.out is dn a a' (by rw [tb.hn]; exact hb) hseg h
def segAB (n : Nat) (T : Bool × List (List Nat × List Nat)) : List Nat → List (Nat × Tmp) → Bool
 | _, [] => true
 | dn, (i, _) :: r => decide (dn.length < n) && anyT T (mark n dn) (mark n (dn ++ [i])) i && segAB n T (dn ++ [i]) r
theorem sega_of (hT : rtab .any ops = T) (hQ : ∀ c (a : Act) (tm : Array Value) w, Q (.panic c) { a with tmps := tm } w → Q (.panic c) a w) : ∀ (is : List (Nat × Tmp)) (dn : List Nat) (a a' : Act), segAB ops.size T dn is = true → Seg P ops (fun _ => True) is a a' → At P ops Q S ds (dn ++ is.map (·.1)) a' w → At P ops Q S ds dn a w
 | [], dn, a, a', _, hseg, h => by
   cases hseg
   simpa using h
 | (i, N) :: r, dn, a, a', hb, hseg, h => by
   cases hseg with
   | cons hi hN hy ha hr =>
     simp only [segAB, Bool.and_eq_true, decide_eq_true_eq] at hb
     have h1 := sega_of hT hQ r (dn ++ [i]) _ _ hb.2 hr ZM
     refine At.step (i := i) hb.1.1 fun fuel hf => ?_
     have h2 := h1 fuel hf
     rw [Us] at h2
     refine Xr (N := _) ((mark ops.size dn).set i true).toArray hi hN (any_of hT ?_) (fun c a w hq => ?_) ?_ ha h2
     ·have := hb.1.2
      rw [Us] at this
      simpa using this
     ·rw [hN] at hq
      exact hQ _ _ _ _ hq
     ·exact hy.imp (fun ⟨h1, h2⟩ => ⟨h1, fun w => h2 w trivial⟩) id
theorem sega_ (is : List (Nat × Tmp)) {n : Nat} (tb : Tab ops n T) (hb : segAB n T dn is = true) (hQ : ∀ c (a : Act) (tm : Array Value) w, Q (.panic c) { a with tmps := tm } w → Q (.panic c) a w) (hseg : Seg P ops (fun _ => True) is a a') (h : At P ops Q S ds (dn ++ is.map (·.1)) a' w) : At P ops Q S ds dn a w :=
 sega_of tb.hT hQ is dn a a' (by rw [tb.hn]; exact hb) hseg h
def QL (Q : Exit → Act → World → Prop) (K : Act → World → Prop) : Exit → Act → World → Prop
 | .normal, a, w => K a w
 | e, a, w => Q e a w
theorem ql_ {K : Act → World → Prop} (h : K a w) : QL Q K .normal a w := h
theorem QL.lets {K : Act → World → Prop} (h : LetsOut (QL Q K)) : LetsOut Q := h
theorem QL.wp {K : Act → World → Prop} {o : Oper} (h : o.wp P a w K (QL Q K)) : o.wp P a w K Q := by
 unfold Oper.wp at *
 generalize (execOp a.eval o).run P w = r at *
 cases r with
 | ok n w' =>
   cases n <;> simp only [Oper.upon] at h ⊢ <;>
    first
     | exact h
     | exact Calls.mono h (fun e w'' he => by cases e <;> exact he)
 | halt x w' => cases x <;> simp only [Oper.upon] at h ⊢ <;> exact h
theorem QL.op {K : Act → World → Prop} {i : Nat} {oi : Oper} (hi : ops[i]? = some oi) (h : wpList P ops (QL Q K) [oi] a w) : wpOp P ops Q i K a w := by
 unfold wpOp
 rw [hi]
 unfold wpList at h
 have hk : (wpList P ops (QL Q K) []) = K := by funext a w; rfl
 rw [hk] at h
 simp only
 split
 ·rename_i hw
  rw [if_pos hw] at h
  exact h.imp QL.wp (fun h => ⟨h.1, QL.lets h.2⟩)
 ·rename_i hw
  rw [if_neg hw] at h
  exact h
theorem eff_ (i : Nat) {n : Nat} {oi : Oper} (tb : Tab ops n T) (hi : ops[i]? = some oi) (hb : (decide (dn.length < n) && (Jr T.2 (mark n dn) == [i])) = true)
 (h : wpList P ops (QL Q (fun a' w' => S w' ∧ (Aside0 (S w') → At P ops Q S ds (dn ++ [i]) a' w'))) [oi] a w) : At P ops Q S ds dn a w := by
 obtain ⟨hn, hT⟩ := tb
 subst hn
 simp only [Bool.and_eq_true, decide_eq_true_eq] at hb
 refine At.step (i := i) hb.1 fun fuel hf => ?_
 refine Uv (rs := [i]) (by rw [UU, hT]; simpa using hb.2) Z3 fun j hj => ?_
 rw [List.mem_singleton] at hj
 subst hj
 refine wpOp_mono (fun a' w' hh => ?_) (QL.op hi h)
 refine ⟨fun _ _ => hh.1, ?_⟩
 have := hh.2 ⟨hh.1⟩ fuel hf
 rw [Us] at this
 simpa using this
theorem JL (i : Nat) {n : Nat} {oi : Oper} (tb : Tab ops n T) (hi : ops[i]? = some oi) (hb : (decide (dn.length < n) && (Jr T.2 (mark n dn) == [i]) && ds.contains i) = true)
 (h : wpList P ops (QL Q (fun a' w' => At P ops Q S ds (dn ++ [i]) a' w')) [oi] a w) : At P ops Q S ds dn a w := by
 obtain ⟨hn, hT⟩ := tb
 subst hn
 simp only [Bool.and_eq_true, decide_eq_true_eq] at hb
 refine At.step (i := i) hb.1.1 fun fuel hf => ?_
 refine Uv (rs := [i]) (by rw [UU, hT]; simpa using hb.1.2) Z3 fun j hj => ?_
 rw [List.mem_singleton] at hj
 subst hj
 refine wpOp_mono (fun a' w' hh => ?_) (QL.op hi h)
 refine ⟨fun hn => absurd (by simpa using hb.2) hn, ?_⟩
 have := hh fuel hf
 rw [Us] at this
 simpa using this
theorem end_ {n : Nat} (tb : Tab ops n T) (hb : (Jr T.2 (mark n dn) == []) = true) (h : Q .normal a w) : At P ops Q S ds dn a w := by
 obtain ⟨hn, hT⟩ := tb
 subst hn
 intro fuel _
 exact Ycm (UM hT hb) h
end
end Go.Proofs.Ytehmhgpogpbjiaa.Fcc
namespace Go.Proofs.Ytehmhgpogpbjiaa.Fcc
open Go.RowKit Go.Proofs.YtehmhgpogpbjiaaW.PrintWords Go.Proofs.YtehmhgpogpbjiaaW.PrintLast Go.Proofs.YtehmhgpogpbjiaaW.PrintMore Go.Proofs.Ytehmhgpogpbjiaa.PFccTokens
section
variable {α : Type} {d : Kd α} {w : World} {base g T z i e t bytes : Nat} {vs : List Value} {o : Nat → Nat} {F : List Fld} {xs : List α} {v zv : Value}
def PushedS (d : Kd α) (e base g T z i : Nat) (w : World) (vs : List Value) (o : Nat → Nat) (F : List Fld) (v : Value) (ys : List α) (v' : Value) (w2 : World) : Prop :=
 St (w2.setCell ⟨g, i, none⟩ v') base g T z (vs.set i v') (new_ w o (z + 1 + i)) (F.set i (rowsF d e base ys)) ∧ Below base w w2 ∧ (∃ A c, v' = .slice A ys.length c) ∧ w2.heap[g]? = some (.cells vs.toArray T (0, 0)) ∧ w.grownBy w2 v.ownBlock
theorem St.pushS {P : Program} {ops : Array Oper} {rest : List Oper} {Q : Exit → Act → World → Prop} {a : Act} {q : Oper} {s x : Operand} (h : St w base g T z vs o F) (hv : vs[i]? = some v) (hF : F[i]? = some (rowsF d e base xs)) (p : α) (cs : List Value)
 (hd : d.sz = cs.length) (ht : P.underlying t = some (.slice e)) (hinfo : (P.info? e).map (fun i => (i.zero, i.size, i.bytes)) = some (some zv, d.sz, bytes)) (hz : zv.cells.size = d.sz) (hs0 : 0 < d.sz) (hb0 : 0 < bytes)
 (hgd : q.guard = none) (hq : q.op = .call { callee := .builtin .append, args := #[s, x], argTypes := #[t, t] }) (hs : a.eval s = v) (hx : a.eval x = .slice (some ⟨w.heap.size, 0, none⟩) 1 1)
 (hp : d.M w base (fun _ => False) p cs) (hl : (xs.length + 1) * bytes ≤ 140737488355328)
 (k : ∀ v' w2, PushedS d e base g T z i w vs o F v (xs ++ [p]) v' w2 → wpList P ops Q rest (a.put q.dst v') w2) : wpList P ops Q (q :: rest) a (w.alloc (.cells cs.toArray e)) := by
 have hR0 : Kd.S d e w base (fun k => new_ w o (z + 1 + i) k = z + 1 + i) v xs := (loc_rows d e base xs).move (h.row i v _ hv hF) (fun k hk _ hl => ⟨rfl, (by rw [Ybc hl]; exact hk)⟩)
 refine Kd.S_append d (w0 := w) (W := w) base hgd s x t e zv bytes hq ht hinfo hz hs0 hb0 v xs p cs (fun k => new_ w o (z + 1 + i) k = z + 1 + i) (fun _ => False) hs hx hp (fun _ h => h.elim) (fun k hk => Yca hk) (Kd.S_mono hR0 (fun _ hk => ⟨hk, fun h => h⟩)) (Below.refl _ _) h.base_le hl ?_
 intro v' w2 hR hB hg _
 refine k v' w2 ⟨h.pushedS hv hF hg hR, hB, ?_, ?_, hg⟩
 ·obtain ⟨A, c, rfl, _⟩ := Kd.S_reads hR
  exact ⟨A, c, rfl⟩
 ·refine XU h.box hg (fun e2 => ?_)
  have h1 := (Kd.S_R (h.row i v _ hv hF : Kd.S d e w base _ v xs)).1 g e2.symm
  have h2 := h.own
  omega
end
theorem info142 : (Try.prog.info? 142).map (fun i => (i.zero, i.size, i.bytes)) = some (some (.agg #[.int .i64 0, .slice none 0 0]), 2, 32) := by kernel_rfl
section
variable {w : World} {base g : Nat} {prims : List (ByteArray × Int)} {o : Nat → Nat} {vs : List Value} {m : Mk}
theorem Yea (h : Mx w base g prims o vs m) (hl : m.out.length < 1099511627770) (hl2 : m.cases.length < 1099511627770) :
 Calls Try.prog 63 #[.pointer (some ⟨g, 0, none⟩), .string ⟨#[99, 97, 115, 101]⟩] w (XQ base g prims (.inl ({ m with cases := m.cases ++ ([⟨-1, []⟩] : List Ch) }.add 196)) w) := by
 obtain ⟨v0, A1, c1, b, A7, c7, A8, c8, A9, c9, A10, c10, A11, c11, rfl⟩ := h.cells
 have k1 := h.st.cell 1 rfl
 have k10 := h.st.cell 10 rfl
 have hX := Aside0.mk h
 clear h
 go_enter Try.func63, Try.ntmps63
 go_wp2_with fail
 go_quiet (fail)
 have hq := YZ.below (w := w) (w' := w.drewN nq) ⟨⟨nq, rfl⟩⟩
 have hY := Aside0.mk (hX.out.below hq)
 have hB0 := Below.mono hq hX.out.st.base_le
 clear hq
 clear k1 k10
 generalize w.drewN nq = W at hY hB0 ⊢
 have k10 := hY.out.st.cell 10 rfl
 go_wp2_with (at_builtin; refine St.pushS (d := k149) (e := 142) (i := 10) hY.out.st rfl rfl (⟨-1, []⟩ : Ch) [.int .i64 (-1), .slice none 0 0] rfl Try.underlying54 info142 rfl Z1 Z1 rfl rfl rfl rfl (k149_mkM _ _ _ (x := (⟨-1, []⟩ : S149)) (Kd.R_nil _ _ _ _ _)) Z0 ?_)
 rintro v2 w2 ⟨hst, hB2, ⟨A2, c2, rfl⟩, hb2, hg2⟩
 have hz : (m.cases ++ ([⟨-1, []⟩] : List Ch)).length = m.cases.length + 1 := by simp
 rw [hz] at hst ⊢
 have hf := Yf hb2 10
 have k10' : w2.cell? ⟨g, 10, none⟩ = some (.slice A10 m.cases.length c10) := (Ya hb2 10).trans rfl
 have h2 : Mx _ base g prims _ _ { m with cases := m.cases ++ ([⟨-1, []⟩] : List Ch) } := ⟨hst, rfl⟩
 have hB3 : Below base w (w2.setCell ⟨g, 10, none⟩ (.slice A2 (m.cases.length + 1) c2)) := Below.setCell (hB0.trans hB2) hX.out.st.hb _
 clear k10 hb2 hg2
 go_wp2_with fail
 refine (YW h2 196 0 ⟨#[]⟩ Z17).mono ?_
 rintro e w4 ⟨rfl, hB4, o4, vs4, h4⟩
 go_wp2_with fail
 exact Z2m
theorem YcW (h : Mx w base g prims o vs m) (hl : m.out.length < 1099511627770) (hn : m.cases = []) (s : ByteArray) (hs : s.toList ≠ ([99, 97, 115, 101] : List UInt8)) :
 Calls Try.prog 63 #[.pointer (some ⟨g, 0, none⟩), .string s] w (XQ base g prims (.inr 13) w) := by
 obtain ⟨v0, A1, c1, b, A7, c7, A8, c8, A9, c9, A10, c10, A11, c11, rfl⟩ := h.cells
 have k1 := h.st.cell 1 rfl
 have k10 := h.st.cell 10 rfl
 have hX := Aside0.mk h
 rw [hn] at k10
 have b0 : (s.toList == ([99, 97, 115, 101] : List UInt8)) = false := beq_eq_false_iff_ne.mpr hs
 clear h hn hs
 go_enter Try.func63, Try.ntmps63
 go_wp2_with fail
 go_quiet (fail)
 have hq := YZ.below (w := w) (w' := w.drewN nq) ⟨⟨nq, rfl⟩⟩
 have hB0 := Below.mono hq hX.out.st.base_le
 clear hq k1 k10
 generalize w.drewN nq = W at hB0 ⊢
 go_wp2_with fail
 exact Z1Q
end
section
variable {α : Type} {d : Kd α} {w w1 : World} {base g T z i e : Nat} {vs : List Value} {o : Nat → Nat} {F : List Fld} {pre : List α} {x x' : α} {v : Value}
theorem St.last (h : St w base g T z vs o F) (hv : vs[i]? = some v) (hF : F[i]? = some (rowsF d e base (pre ++ [x]))) :
 ∃ gc cap cells oki c, v = .slice (some ⟨gc, 0, none⟩) (pre.length + 1) cap ∧ pre.length + 1 ≤ cap ∧ o gc = z + 1 + i ∧ base ≤ gc ∧ w.heap[gc]? = some (.cells cells e (0, 0)) ∧ c.length = d.sz ∧ d.M w base oki x c ∧ (∀ q u, c[q]? = some u → cells[pre.length * d.sz + q]? = some u) ∧ (∀ k, oki k → o k = z + 1 + i ∧ k ≠ gc) ∧
  Kd.H d e w base (fun k => o k = z + 1 + i) v (pre ++ [x]) pre.length oki c := by
 have hS : Kd.S d e w base (fun k => o k = z + 1 + i) v (pre ++ [x]) := h.row i v _ hv hF
 obtain ⟨gc, cap, rfl, hb, hl, cells, hc⟩ := Kd.S_form hS Z3
 have hz : (pre ++ [x]).length = pre.length + 1 := by simp
 have hcap := (Kd.S_reads' hS).2.1
 rw [hz] at hS hcap ⊢
 obtain ⟨oki, c, hcl, hM, hcc, hfr, hok, hH⟩ := Kd.S_elem hS x pre.length Z0 Z0
 have hx : (pre ++ [x]).getD (pre.length : Int).toNat x = x := by simp
 rw [hx] at hM
 refine ⟨gc, cap, cells, oki, c, rfl, hcap, (Kd.S_R hS).1 gc ZB, hb, hc, hcl, hM, fun q u hq => ?_, hok, hH⟩
 have := hcc q u hq
 rw [Ya hc] at this
 simpa using this
theorem St.back {o1 : Nat → Nat} {gc n cap : Nat} {okx okp : Nat → Prop} {c : List Value} (h : St w base g T z vs o F) (hv : vs[i]? = some (.slice (some ⟨gc, 0, none⟩) n cap)) (ho : ∀ k, k < w.heap.size → o1 k = o k) (hk : ∀ k, k < w.heap.size → base ≤ k → o k ≠ z + 1 + i → w1.heap[k]? = w.heap[k]?)
 (hH : Kd.H d e w1 base (fun k => o1 k = z + 1 + i) (.slice (some ⟨gc, 0, none⟩) n cap) (pre ++ [x]) pre.length okx c) (hM : d.M w1 base okp x' c) (hokp : ∀ k, okp k → okx k) : St w1 base g T z vs o1 (F.set i (rowsF d e base (pre ++ [x']))) := by
 refine h.turn i (loc_rows _ _ _ _) ho hk (fun v hv' => ?_)
 rw [hv] at hv'
 cases hv'
 have := Kd.H_back hH hM hokp
 simpa using this
end
section
variable {w : World} {base g : Nat} {prims : List (ByteArray × Int)} {o : Nat → Nat} {vs : List Value} {m : Mk} {pre : List Ch} {c : Ch}
theorem of_calls (h : Mx w base g prims o vs m) (hl : m.out.length < 1099511627770) (hn : m.cases = pre ++ [c]) (hl2 : m.cases.length < 1099511627770) (hc : c.f0 < 0) :
 Calls Try.prog 63 #[.pointer (some ⟨g, 0, none⟩), .string ⟨#[111, 102]⟩] w (XQ base g prims (.inl ({ m with cases := pre ++ ([⟨m.at_, c.f1⟩] : List Ch) }.add 28)) w) := by
 obtain ⟨v0, A1, c1, b, A7, c7, A8, c8, A9, c9, A10, c10, A11, c11, rfl⟩ := h.cells
 have hF : (mkF base prims m)[10]? = some (rowsF k149 142 base (pre ++ [c])) := by rw [← hn]; rfl
 obtain ⟨gc, cap, cells, oki, cc, hv, hcap, hog, hbg, hbk, hcl, hM, hcc, hok, hH⟩ := h.st.last (i := 10) rfl hF
 obtain ⟨v1, rfl, hR1⟩ := Ua hM
 have hlen : m.cases.length = pre.length + 1 := by rw [hn]; simp
 rw [hlen] at hl2 h hv hH
 cases hv
 have k1 := h.st.cell 1 rfl
 have k10 := h.st.cell 10 rfl
 have q0 : w.cell? ⟨gc, pre.length * 2, none⟩ = some (.int .i64 c.f0) := (Ya hbk _).trans (hcc 0 _ rfl)
 have f0 : w.frozen? ⟨gc, pre.length * 2, none⟩ = false := Yf hbk _
 have hX := Aside0.mk h
 have hH' := Aside0.mk hH
 clear h hn hF hlen hH
 go_enter Try.func63, Try.ntmps63
 go_wp2_with fail
 go_quiet (fail)
 have hq := YZ.below (w := w) (w' := w.drewN nq) ⟨⟨nq, rfl⟩⟩
 have hB0 := Below.mono hq hX.out.st.base_le
 have hY := Aside0.mk (hX.out.below hq)
 have hb1 := Kd.H_drewN hH'.out nq
 have hs1 := Kd.H_seg hb1 Z0 Z0 (seg := [.int .i64 m.out.length]) (j := 0) (by show 0 + 1 ≤ 2; omega) (by simp [Value.oneCell'])
 have hR2 := Kd.R_far (p := ⟨gc, pre.length * 2, none⟩) (Kd.R_drewN hR1 nq) (fun k hk => (hok k hk).2) (.int .i64 m.out.length)
 have h2 : Mx ((w.drewN nq).setCell ⟨gc, pre.length * 2, none⟩ (.int .i64 m.out.length)) base g prims o _ { m with cases := pre ++ ([⟨m.at_, c.f1⟩] : List Ch) } :=
  ⟨hY.out.st.back (x' := (⟨m.at_, c.f1⟩ : S149)) rfl (fun _ _ => rfl) (fun k hlt _ hne => hs1.2.block k hlt (fun e => hne (by cases e; exact hog))) hs1.1 (k149_mkM _ _ _ (x := ⟨m.at_, c.f1⟩) hR2) (fun _ hk => hk), rfl⟩
 have hB3 := hB0.setCell (p := ⟨gc, pre.length * 2, none⟩) hbg (.int .i64 m.out.length)
 clear hb1 hs1 hR2 hq hbk hcc hM hcl
 go_wp2_with fail
 refine (YW h2 28 0 ⟨#[]⟩ Z17).mono ?_
 rintro e w4 ⟨rfl, hB4, o4, vs4, h4⟩
 go_wp2_with fail
 exact Z2m
theorem YcU (h : Mx w base g prims o vs m) (hl : m.out.length < 1099511627770) (hn : m.cases = pre ++ [c]) (hl2 : m.cases.length < 1099511627770) (hc : c.f0 < 0) :
 Calls Try.prog 63 #[.pointer (some ⟨g, 0, none⟩), .string ⟨#[101, 110, 100, 111, 102]⟩] w (XQ base g prims (.inr 13) w) := by
 obtain ⟨v0, A1, c1, b, A7, c7, A8, c8, A9, c9, A10, c10, A11, c11, rfl⟩ := h.cells
 have hF : (mkF base prims m)[10]? = some (rowsF k149 142 base (pre ++ [c])) := by rw [← hn]; rfl
 obtain ⟨gc, cap, cells, oki, cc, hv, hcap, hog, hbg, hbk, hcl, hM, hcc, hok, hH⟩ := h.st.last (i := 10) rfl hF
 obtain ⟨v1, rfl, hR1⟩ := Ua hM
 have hlen : m.cases.length = pre.length + 1 := by rw [hn]; simp
 rw [hlen] at hl2 h hv hH
 cases hv
 have k1 := h.st.cell 1 rfl
 have k10 := h.st.cell 10 rfl
 have q0 : w.cell? ⟨gc, pre.length * 2, none⟩ = some (.int .i64 c.f0) := (Ya hbk _).trans (hcc 0 _ rfl)
 have hX := Aside0.mk h
 clear h hn hF hlen hH hcc hM hcl hbk
 go_enter Try.func63, Try.ntmps63
 go_wp2_with fail
 go_quiet (fail)
 have hq := YZ.below (w := w) (w' := w.drewN nq) ⟨⟨nq, rfl⟩⟩
 have hB0 := Below.mono hq hX.out.st.base_le
 go_wp2_with fail
 exact Z1Q
theorem YcV (h : Mx w base g prims o vs m) (hl : m.out.length < 1099511627770) (hn : m.cases = pre ++ [c]) (hl2 : m.cases.length < 1099511627770) (hc : 0 ≤ c.f0) (s : ByteArray) (hs : s.toList ≠ ([99, 97, 115, 101] : List UInt8)) (hs2 : s.toList ≠ ([101, 110, 100, 111, 102] : List UInt8)) :
 Calls Try.prog 63 #[.pointer (some ⟨g, 0, none⟩), .string s] w (XQ base g prims (.inr 13) w) := by
 obtain ⟨v0, A1, c1, b, A7, c7, A8, c8, A9, c9, A10, c10, A11, c11, rfl⟩ := h.cells
 have hF : (mkF base prims m)[10]? = some (rowsF k149 142 base (pre ++ [c])) := by rw [← hn]; rfl
 obtain ⟨gc, cap, cells, oki, cc, hv, hcap, hog, hbg, hbk, hcl, hM, hcc, hok, hH⟩ := h.st.last (i := 10) rfl hF
 obtain ⟨v1, rfl, hR1⟩ := Ua hM
 have hlen : m.cases.length = pre.length + 1 := by rw [hn]; simp
 rw [hlen] at hl2 h hv hH
 cases hv
 have k1 := h.st.cell 1 rfl
 have k10 := h.st.cell 10 rfl
 have q0 : w.cell? ⟨gc, pre.length * 2, none⟩ = some (.int .i64 c.f0) := (Ya hbk _).trans (hcc 0 _ rfl)
 have hX := Aside0.mk h
 have b0 : (s.toList == ([99, 97, 115, 101] : List UInt8)) = false := beq_eq_false_iff_ne.mpr hs
 have b1 : (s.toList == ([101, 110, 100, 111, 102] : List UInt8)) = false := beq_eq_false_iff_ne.mpr hs2
 have d0 : decide (c.f0 < 0) = false := by simp; exact hc
 clear h hn hF hlen hH hcc hM hcl hbk hs hs2
 go_enter Try.func63, Try.ntmps63
 go_wp2_with fail
 go_quiet (fail)
 have hq := YZ.below (w := w) (w' := w.drewN nq) ⟨⟨nq, rfl⟩⟩
 have hB0 := Below.mono hq hX.out.st.base_le
 go_wp2_with fail
 exact Z1Q
end
section
variable {w : World} {base g : Nat} {prims : List (ByteArray × Int)} {o : Nat → Nat} {vs : List Value} {m : Mk} {pre : List Ch} {c : Ch}
theorem YcR (h : Mx w base g prims o vs m) (hl : m.out.length < 1099511627770) (hn : m.cases = pre ++ [c]) (hl2 : m.cases.length < 1099511627770) (hl3 : m.leads.length < 1099511627770) (hl4 : c.f1.length < 1099511627770) (hc : 0 ≤ c.f0) :
 Calls Try.prog 63 #[.pointer (some ⟨g, 0, none⟩), .string ⟨#[101, 110, 100, 111, 102]⟩] w (XQ base g prims (.inl ({ m with cases := pre ++ ([⟨-1, c.f1 ++ [m.at_]⟩] : List Ch), leads := m.leads ++ ([⟨c.f0, m.at_⟩] : List Ld) }.add 198)) w) := by
 obtain ⟨v0, A1, c1, b, A7, c7, A8, c8, A9, c9, A10, c10, A11, c11, rfl⟩ := h.cells
 have hF : (mkF base prims m)[10]? = some (rowsF k149 142 base (pre ++ [c])) := by rw [← hn]; rfl
 obtain ⟨gc, cap, cells, oki, cc, hv, hcap, hog, hbg, hbk, hcl, hM, hcc, hok, hH⟩ := h.st.last (i := 10) rfl hF
 obtain ⟨v1, rfl, hR1⟩ := Ua hM
 have hlen : m.cases.length = pre.length + 1 := by rw [hn]; simp
 rw [hlen] at hl2 h hv hH
 cases hv
 have k1 := h.st.cell 1 rfl
 have k10 := h.st.cell 10 rfl
 have q0 : w.cell? ⟨gc, pre.length * 2, none⟩ = some (.int .i64 c.f0) := (Ya hbk _).trans (hcc 0 _ rfl)
 have hX := Aside0.mk h
 have hHn := Aside0.mk hn
 have d0 : decide (c.f0 < 0) = false := by simp; exact hc
 have e0 := Aside0.mk (show cells[pre.length * 2]? = some (.int .i64 c.f0) from hcc 0 _ rfl)
 clear h hn hF hlen hH hcc hM hcl
 go_enter Try.func63, Try.ntmps63
 go_wp2_with fail
 go_quiet (fail)
 have hq := YZ.below (w := w) (w' := w.drewN nq) ⟨⟨nq, rfl⟩⟩
 have hB0 := Below.mono hq hX.out.st.base_le
 have hY := hX.out.below hq
 go_wp2_with fail
 clear k1 k10 q0
 have hbk1 : (w.drewN nq).heap[gc]? = some (.cells cells 142 (0, 0)) := Vs hbk nq
 have q0 : (w.drewN nq).cell? ⟨gc, pre.length * 2, none⟩ = some (.int .i64 c.f0) := (Ya hbk1 _).trans e0.out
 clear hq hbk hR1
 generalize w.drewN nq = W at hY hB0 hbk1 q0 ⊢
 have hd := hY.below (YY (Below.refl _ _))
 have hBd : Below W.heap.size W W.drew := YY (Below.refl _ _)
 refine Uk (ds := [15]) (S := fun w' => w'.cell? ⟨g, 11, none⟩ = some (.slice A11 m.leads.length c11) ∧ w'.cell? ⟨gc, pre.length * 2, none⟩ = some (.int .i64 c.f0)) Z2 rfl rfl ⟨hd.st.cell 11 rfl, q0⟩ (fun tb hS => ?_)
 have hbk2 := XZ hbk1
 generalize W.drew = Wd at hd hBd hS hbk2 ⊢
 have q1 := hS.out.2
 refine seg_ [(0, 104), (1, 105), (2, 106), (3, 107), (4, 108), (5, 109), (6, 110), (7, 111), (8, 112), (9, 113), (10, 114)] tb hS Z2 (fun _ _ _ _ h => h) (a' := ?_) ?_ ?_
 rotate_left
 ·repeat (first | exact Seg.nil | (refine Seg.on (v := ?_) (a1 := ?_) rfl rfl Z7 ?_ ?_ ?_; rotate_left 2; (rintro w' hS; go_split_ands; go_simp; with_reducible rfl); (simp only [Act.put, List.setIfInBounds_toArray, List.set_cons_zero, List.set_cons_succ, YH, YJ]; rfl)))
 refine eff_ 11 tb rfl Z2 ?_
 go_wp2_with fail
 refine ql_ ⟨⟨(hd.below (Yc (Below.refl _ _) _)).st.cell 11 rfl, (Ya (Xh hbk2 _) _).trans e0.out⟩, fun hS => ?_⟩
 refine eff_ 12 tb rfl Z2 ?_
 refine St.push (d := k77) (e := 101) (i := 11) hd.st rfl rfl (⟨c.f0, m.out.length⟩ : S77) [.int .i64 c.f0, .int .i64 m.out.length] (fun _ => False) rfl Try.underlying55 JH rfl Z1 Z1 rfl rfl rfl rfl (JF _ _ _ _) Z0 ?_
 rintro v2 w2 ⟨hst, hB2, ⟨A2, c2, rfl⟩, hb2, hg2⟩
 have hz : (m.leads ++ [(⟨c.f0, m.out.length⟩ : S77)]).length = m.leads.length + 1 := by simp
 rw [hz] at hst ⊢
 have hne : some gc ≠ (Value.slice A11 m.leads.length c11).ownBlock := fun e => by
  have := (hd.st.row 11 _ _ rfl rfl : Kd.R k77 101 Wd base _ (.slice A11 m.leads.length c11) m.leads).1 gc e.symm
  omega
 have hbk3 := XU hbk2 hg2 hne
 have hf := Yf hb2 11
 have k11 : w2.cell? ⟨g, 11, none⟩ = some (.slice A11 m.leads.length c11) := (Ya hb2 11).trans rfl
 refine ql_ ⟨⟨k11, (Ya hbk3 _).trans e0.out⟩, fun hS => ?_⟩
 refine seg_ [(13, 117), (14, 118)] tb hS Z2 (fun _ _ _ _ h => h) (a' := ?_) ?_ ?_
 rotate_left
 ·repeat (first | exact Seg.nil | (refine Seg.on (v := ?_) (a1 := ?_) rfl rfl Z7 ?_ ?_ ?_; rotate_left 2; (rintro w' hS; go_split_ands; go_simp; with_reducible rfl); (simp only [Act.put, List.setIfInBounds_toArray, List.set_cons_zero, List.set_cons_succ, YH, YJ]; rfl)))
 refine JL 15 tb rfl Z2 ?_
 go_wp2_with fail
 refine ql_ (end_ tb Z2 ?_)
 have h2 : Mx _ base g prims _ _ { m with leads := m.leads ++ [(⟨c.f0, m.out.length⟩ : S77)] } := ⟨hst, rfl⟩
 have hB4 : Below base w (w2.setCell ⟨g, 11, none⟩ (.slice A2 (m.leads.length + 1) c2)) := Below.setCell (hB0.trans ((Below.mono hBd hY.st.base_le).trans hB2)) hX.out.st.hb _
 clear hS k11 hf hbk3 hne hz hg2 hb2 hst q1 hbk2 hd hBd q0 hbk1 hY e0 hok
 generalize w2.setCell ⟨g, 11, none⟩ (.slice A2 (m.leads.length + 1) c2) = W4 at h2 hB4 ⊢
 generalize new_ Wd o (0 + 1 + 11) = o4 at h2
 have hF2 : (mkF base prims { m with leads := m.leads ++ [(⟨c.f0, m.out.length⟩ : S77)] })[10]? = some (rowsF k149 142 base (pre ++ [c])) := by rw [← hHn.out]; rfl
 obtain ⟨gc', cap, cells, oki, cc, hv, hcap, hog, hbg, hbk, hcl, hM, hcc, hok, hH⟩ := h2.st.last (i := 10) rfl hF2
 obtain ⟨v1, rfl, hR1⟩ := Ua hM
 cases hv
 obtain ⟨A5, c5, rfl⟩ := Kd.R_slice hR1
 have q1 : W4.cell? ⟨gc, pre.length * 2 + 1, none⟩ = some (.slice A5 c.f1.length c5) := (Ya hbk _).trans (hcc 1 _ rfl)
 have hb4 := h2.st.base_le
 go_wp2_with (at_builtin; refine Kd.R_append (Kd.int .i64) (w0 := W4) (W := W4) base rfl _ _ 53 3 (.int .i64 0) 8 rfl Try.underlying53 info3 rfl Z1 Z1 (.slice A5 c.f1.length c5) c.f1 (m.out.length : Int) [.int .i64 m.out.length] (fun k => oki k ∨ W4.heap.size ≤ k) (fun _ => False) rfl rfl rfl (fun _ h => h.elim) (fun k hk => .inr hk) (Kd.R_mono hR1 (fun k hk => .inl hk)) (Below.refl _ _) hb4 Z0 ?_)
 intro v5 w5 hR5 hB5 hg5 _
 obtain ⟨A6, c6, rfl⟩ := Kd.R_slice hR5
 have hz5 : (c.f1 ++ [(m.out.length : Int)]).length = c.f1.length + 1 := by simp
 rw [hz5] at hR5 ⊢
 have hown : ∀ k, (Value.slice A5 c.f1.length c5).ownBlock = some k → oki k := hR1.1
 have hH1 := Kd.H_grown (Kd.H_widen (Kd.H_mono hH (ok' := fun k => new_ W4 o4 11 k = 0 + 1 + 10) (fun k hk => by unfold new_; split; exact hk; rfl))) hg5 (fun k hk => .inl (hown k hk))
 have hs1 := Kd.H_seg hH1 Z0 Z0 (seg := [.int .i64 (-1)]) (j := 0) (by show 0 + 1 ≤ 2; omega) (by simp [Value.oneCell'])
 have hs2 := Kd.H_seg hs1.1 Z0 Z0 (seg := [.slice A6 (c.f1.length + 1) c6]) (j := 1) (by show 1 + 1 ≤ 2; omega) (by simp [Value.oneCell'])
 have hbk5 : w5.heap[gc]? = some (.cells cells 142 (0, 0)) := XU hbk hg5 (fun e => (hok gc (hown gc e.symm)).2 rfl)
 have r0 : w5.cell? ⟨gc, pre.length * 2, none⟩ = some (.int .i64 c.f0) := (Ya hbk5 _).trans (hcc 0 _ rfl)
 have r1 : w5.frozen? ⟨gc, pre.length * 2, none⟩ = false := Yf hbk5 _
 have hbk6 := YaM hbk5 (pre.length * 2) (.int .i64 (-1))
 have r2 : (w5.setCell ⟨gc, pre.length * 2, none⟩ (.int .i64 (-1))).frozen? ⟨gc, pre.length * 2 + 1, none⟩ = false := Yf hbk6 _
 have r3 : (w5.setCell ⟨gc, pre.length * 2, none⟩ (.int .i64 (-1))).cell? ⟨gc, pre.length * 2 + 1, none⟩ = some (.slice A5 c.f1.length c5) := by
  rw [Ya hbk6, Array.getElem?_setIfInBounds_ne Z0]
  exact hcc 1 _ rfl
 have hokg : ∀ k, (oki k ∨ W4.heap.size ≤ k) → k ≠ gc := fun k hk => hk.elim (fun h => (hok k h).2) (fun h e => by have := UO hbk; omega)
 have hR6 := Kd.R_far (p := ⟨gc, pre.length * 2 + 1, none⟩) (Kd.R_far (p := ⟨gc, pre.length * 2, none⟩) hR5 hokg (.int .i64 (-1))) hokg (.slice A6 (c.f1.length + 1) c6)
 obtain ⟨vs6, h6⟩ : ∃ vs6, Mx ((w5.setCell ⟨gc, pre.length * 2, none⟩ (.int .i64 (-1))).setCell ⟨gc, pre.length * 2 + 1, none⟩ (.slice A6 (c.f1.length + 1) c6)) base g prims (new_ W4 o4 11) vs6 { m with cases := pre ++ ([⟨-1, c.f1 ++ [m.at_]⟩] : List Ch), leads := m.leads ++ ([⟨c.f0, m.at_⟩] : List Ld) } := by
  refine ⟨_, h2.st.back (x' := (⟨-1, c.f1 ++ [m.at_]⟩ : S149)) rfl (fun _ hk => Ybc hk) (fun k hlt _ hne => ?_) hs2.1 (k149_mkM _ _ _ (x := ⟨-1, c.f1 ++ [m.at_]⟩) hR6) (fun k hk => ?_), rfl⟩
  ·have hkg : k ≠ gc := fun e => hne (by rw [e]; exact hog)
   show ((w5.setCell ⟨gc, pre.length * 2, none⟩ (.int .i64 (-1))).setCell ⟨gc, pre.length * 2 + 1, none⟩ (.slice A6 (c.f1.length + 1) c6)).heap[k]? = _
   rw [Below.heap_setCell _ _ _ _ hkg, Below.heap_setCell _ _ _ _ hkg]
   exact hg5.block k hlt (fun e => hne (hok k (hown k e.symm)).1)
  ·exact hk.imp id (fun h => ⟨Yca h, h⟩)
 have hB6 : Below base w ((w5.setCell ⟨gc, pre.length * 2, none⟩ (.int .i64 (-1))).setCell ⟨gc, pre.length * 2 + 1, none⟩ (.slice A6 (c.f1.length + 1) c6)) := Below.setCell (Below.setCell (hB4.trans hB5) hbg _) hbg _
 clear hs1 hs2 hH1 hR6 hokg hH hM hcc hcl hg5 hR5 hR1 hF2 h2 q1 hz5 hbk hbk5 hbk6
 go_wp2_with fail
 refine (YW h6 198 0 ⟨#[]⟩ Z17).mono ?_
 rintro e w7 ⟨rfl, hB7, o7, vs7, h7⟩
 go_wp2_with fail
 exact bodyPost_ret (v := .int .i64 0) ZR rfl ⟨hB6.trans hB7, rfl, o7, vs7, h7⟩
end
section
variable {w : World} {base g : Nat} {prims : List (ByteArray × Int)} {o : Nat → Nat} {vs : List Value} {m : Mk} {pre : List Ch} {c : Ch}
def ended (m : Mk) (c : Ch) (kk : Nat) : Mk := { m with leads := m.leads ++ (c.f1.take kk).map (fun x => (⟨x, m.at_⟩ : Ld)) }
def EndsR (o : Nat → Nat) (wr : World) (base : Nat) (v : Value) (l : List Int) : Prop := Kd.R (Kd.int .i64) 3 wr base (fun k => o k = 11 ∧ k < wr.heap.size) v l
theorem YbP (h : Mx w base g prims o vs m) (hl : m.out.length < 1099511627770) (hn : m.cases = pre ++ [c]) (hl2 : m.cases.length < 1099511627770) (hl3 : m.leads.length < 1099511627770) (hl4 : c.f1.length < 1099511627770) (hc : c.f0 < 0) :
 Calls Try.prog 63 #[.pointer (some ⟨g, 0, none⟩), .string ⟨#[101, 110, 100, 99, 97, 115, 101]⟩] w (XQ base g prims (.inl ({ m with cases := pre, leads := m.leads ++ c.f1.map (fun x => (⟨x, m.at_⟩ : Ld)) }.add 197)) w) := by
 obtain ⟨v0, A1, c1, b, A7, c7, A8, c8, A9, c9, A10, c10, A11, c11, rfl⟩ := h.cells
 have hF : (mkF base prims m)[10]? = some (rowsF k149 142 base (pre ++ [c])) := by rw [← hn]; rfl
 obtain ⟨gc, cap, cells, oki, cc, hv, hcap, hog, hbg, hbk, hcl, hM, hcc, hok, hH⟩ := h.st.last (i := 10) rfl hF
 obtain ⟨v1, rfl, hR1⟩ := Ua hM
 have hlen : m.cases.length = pre.length + 1 := by rw [hn]; simp
 rw [hlen] at hl2 h hv hH
 cases hv
 obtain ⟨A5, c5, rfl, hlc, hCe⟩ := Kd.R_reads hR1
 have hz5 := hCe.2.1
 have k1 := h.st.cell 1 rfl
 have k10 := h.st.cell 10 rfl
 have q0 : w.cell? ⟨gc, pre.length * 2, none⟩ = some (.int .i64 c.f0) := (Ya hbk _).trans (hcc 0 _ rfl)
 have q1 : w.cell? ⟨gc, pre.length * 2 + 1, none⟩ = some (.slice A5 c.f1.length c5) := (Ya hbk _).trans (hcc 1 _ rfl)
 have hX := Aside0.mk h
 have hHn := Aside0.mk hn
 have hE : EndsR o w base (.slice A5 c.f1.length c5) c.f1 := Kd.R_mono (Kd.R_bound hR1) (fun k hk => ⟨(hok k hk.1).1, hk.2.2.1⟩)
 clear h hn hF hlen hH hcc hM hcl hR1 hCe
 go_enter Try.func63, Try.ntmps63
 go_wp2_with fail
 go_quiet (fail)
 have hq := YZ.below (w := w) (w' := w.drewN nq) ⟨⟨nq, rfl⟩⟩
 have hB0 := Below.mono hq hX.out.st.base_le
 have hY := hX.out.below hq
 have hE1 : EndsR o (w.drewN nq) base (.slice A5 c.f1.length c5) c.f1 := Kd.R_drewN hE nq
 go_wp2_with fail
 clear k1 k10 q0 q1 hE hq hbk
 generalize w.drewN nq = W at hY hB0 hE1 ⊢
 go_loopg [64] c.f1.length (fun gg s64 wr => ∃ (kk : Nat) (o1 : Nat → Nat) (vs1 : List Value), kk ≤ c.f1.length ∧ c.f1.length - kk ≤ gg ∧ s64 = .int .i64 kk ∧ Aside0 (Below base w wr) ∧ Aside0 (Mx wr base g prims o1 vs1 (ended m c kk)) ∧ Aside0 (EndsR o1 wr base (.slice A5 c.f1.length c5) c.f1))
 case atStart => exact ⟨0, o, _, Nat.zero_le _, Z0, rfl, ⟨hB0⟩, ⟨(by unfold ended; simpa using hY)⟩, ⟨hE1⟩⟩
 case round =>
  obtain ⟨kk, o1, vs1, hkk, hg, rfl, HB, HM, HE⟩ := hrel
  by_cases hlt : kk < c.f1.length
  ·have hltz : (kk : Int) < (c.f1.length : Int) := by omega
   have htake : c.f1.take (kk + 1) = c.f1.take kk ++ [c.f1[kk]'hlt] := by rw [List.take_add_one, List.getElem?_eq_getElem hlt]; rfl
   obtain ⟨L2, cl2, eL, _, hCL2⟩ := Kd.R_reads HE.out
   injection eL with eL1 _ eL3
   subst eL1 eL3
   obtain ⟨ad, e, g0⟩ := Kd.at_int hCL2 (kk : Int) Z0 hltz
   cases e
   rw [Int.toNat_natCast] at g0
   have hrd : rd c.f1 (kk : Int) = c.f1[kk]'hlt := by simp [rd, List.getD_eq_getElem?_getD, hlt]
   rw [hrd] at g0
   have hll := Aside0.mk (show (ended m c kk).leads.length = m.leads.length + kk by simp [ended]; omega)
   have hend : ∀ x, x = c.f1[kk]'hlt → ({ ended m c kk with leads := (ended m c kk).leads ++ [(⟨x, m.out.length⟩ : S77)] } : Mk) = ended m c (kk + 1) := by
    rintro x rfl
    simp only [ended, htake, List.map_append, List.append_assoc]
    rfl
   clear hrd hCL2 htake
   generalize c.f1[kk]'hlt = x at g0 hend
   have hend2 := Aside0.mk (hend x rfl)
   clear hend
   generalize ended m c kk = me at HM hll hend2
   obtain ⟨v0, A1, c1, b, A7, c7, A8, c8, A9, c9, A10, c10, A11, c11, rfl⟩ := HM.out.cells
   have k11 := HM.out.st.cell 11 rfl
   have hlim : (me.leads.length + 1) * 16 ≤ 140737488355328 := by rw [hll.out]; omega
   have hgk0 : c.f1.length - (kk + 1) < gk ∧ kk + 1 ≤ c.f1.length := by omega
   have hgk := Aside0.mk hgk0
   go_wp2_with (at_builtin; refine St.push (d := k77) (e := 101) (i := 11) HM.out.st rfl rfl (⟨x, m.out.length⟩ : S77) [.int .i64 x, .int .i64 m.out.length] (fun _ => False) rfl Try.underlying55 JH rfl Z1 Z1 rfl rfl rfl rfl (JF _ _ _ _) hlim ?_)
   rintro v2 w2 ⟨hst, hB2, ⟨A2, c2, rfl⟩, hb2, hg2⟩
   have hz : ((me).leads ++ [(⟨x, m.out.length⟩ : S77)]).length = (me).leads.length + 1 := by simp
   rw [hz] at hst ⊢
   have hf := Yf hb2 11
   have k11' : w2.cell? ⟨g, 11, none⟩ = some (.slice A11 (me).leads.length c11) := (Ya hb2 11).trans rfl
   have h2 : Mx _ base g prims _ _ { me with leads := (me).leads ++ [(⟨x, m.out.length⟩ : S77)] } := ⟨hst, rfl⟩
   rw [hend2.out] at h2
   have hB3 := HB.out.trans (Below.setCell hB2 hX.out.st.hb (.slice A2 ((me).leads.length + 1) c2) (p := ⟨g, 11, none⟩))
   have hE3 : EndsR (new_ wr o1 12) (w2.setCell ⟨g, 11, none⟩ (.slice A2 ((me).leads.length + 1) c2)) base (.slice (some ad) c.f1.length c5) c.f1 := by
    have hsz := hg2.size
    refine Kd.R_mono (Kd.R_far (Kd.R_step HE.out (fun k hk hlt => hg2.block k hlt (fun e => ?_))) (fun k hk => ?_) _) (fun k hk => ⟨(by rw [Ybc hk.2]; exact hk.1), ?_⟩)
    ·have h9 := (HM.out.st.row 11 _ _ rfl rfl : Kd.R k77 101 wr base _ (.slice A11 (me).leads.length c11) (me).leads).1 k e.symm
     omega
    ·intro e
     have h9 := HM.out.st.own
     have h8 := hk.1
     rw [show k = g from e] at h8
     omega
    ·have h9 : (w2.setCell ⟨g, 11, none⟩ (.slice A2 ((me).leads.length + 1) c2)).heap.size = w2.heap.size := World.size_setCell _ _ _
     omega
   clear hst hb2 hg2 g0 k11 hll hz
   replace h2 := Aside0.mk h2
   replace hE3 := Aside0.mk hE3
   replace hB3 := Aside0.mk hB3
   clear hgk0 hlim
   go_wp2_with fail
   go_roundg (c.f1.length - (kk + 1))
   case measure => exact hgk.out.1
   case rel => exact ⟨kk + 1, _, _, hgk.out.2, Nat.le_refl _, Zy, hB3, h2, hE3⟩
  ·have hkk2 : kk = c.f1.length := by omega
   subst hkk2
   have hall : ended m c c.f1.length = { m with leads := m.leads ++ c.f1.map (fun x => (⟨x, m.at_⟩ : Ld)) } := by simp [ended]
   have hM2 := HM.out
   rw [hall] at hM2
   have hF2 : (mkF base prims { m with leads := m.leads ++ c.f1.map (fun x => (⟨x, m.at_⟩ : Ld)) })[10]? = some (rowsF k149 142 base (pre ++ [c])) := by rw [← hHn.out]; rfl
   have hcl : m.cases.length = pre.length + 1 := by rw [hHn.out]; simp
   obtain ⟨v0, A1, c1, b, A7, c7, A8, c8, A9, c9, A10, c10, A11, c11, rfl⟩ := hM2.cells
   have hS := hM2.st.row 10 _ _ rfl hF2
   have hcap : m.cases.length ≤ c10 := by have := (Kd.S_reads' hS).2.1; exact this
   have ht := Kd.S_take hS (m := pre.length) Z3
   rw [List.take_left' rfl] at ht
   have h3 : Mx _ base g prims _ _ { m with cases := pre, leads := m.leads ++ c.f1.map (fun x => (⟨x, m.at_⟩ : Ld)) } := ⟨hM2.st.put 10 (loc_rows _ _ _ _) ht, rfl⟩
   have k10 := hM2.st.cell 10 rfl
   have f10 := hM2.st.free 10
   have hB3 := Below.setCell HB.out hX.out.st.hb (.slice A10 pre.length c10) (p := ⟨g, 10, none⟩)
   have p3 : (0 ≤ (pre.length : Int) ∧ (pre.length : Int) ≤ (c10 : Int)) = True := eq_true ⟨Z0, Z0⟩
   have p2 : ((pre.length : Int) ≤ (c10 : Int)) = True := eq_true Z0
   clear hall hS ht hF2 hcl HE HM hM2
   replace h3 := Aside0.mk h3
   replace hB3 := Aside0.mk hB3
   go_wp2_with fail
   refine (YW h3.out 197 0 ⟨#[]⟩ Z17).mono ?_
   rintro e w4 ⟨rfl, hB4, o4, vs4, h4⟩
   go_wp2_with fail
   exact bodyPost_ret (v := .int .i64 0) ZR rfl ⟨hB3.out.trans hB4, rfl, o4, vs4, h4⟩
end
def wt (m : Mk) : Nat := m.out.length + m.origs.length + m.dests.length + m.loops.length + m.leads.length + (m.cases.map (fun c => c.f1.length + 1)).sum
theorem sum_len (l : List Ch) : l.length ≤ (l.map (fun c => c.f1.length + 1)).sum := by
 induction l with
 | nil => simp
 | cons x l ih => simp only [List.length_cons, List.map_cons, List.sum_cons]; omega
theorem Yad {m : Mk} {B : Nat} (h : wt m ≤ B) : m.out.length ≤ B ∧ m.origs.length ≤ B ∧ m.dests.length ≤ B ∧ m.loops.length ≤ B ∧ m.leads.length ≤ B ∧ m.cases.length ≤ B ∧ ∀ c ∈ m.cases, c.f1.length ≤ B := by
 unfold wt at h
 have h1 := sum_len m.cases
 refine ⟨Z0, Z0, Z0, Z0, Z0, Z0, fun c hc => ?_⟩
 have : c.f1.length + 1 ≤ (m.cases.map (fun c => c.f1.length + 1)).sum := by
  clear h h1
  generalize m.cases = l at hc
  induction l with
  | nil => cases hc
  | cons x l ih =>
    simp only [List.map_cons, List.sum_cons]
    rcases List.mem_cons.1 hc with rfl | hc
    ·omega
    ·have := ih hc; omega
 omega
theorem Xe {s : ByteArray} {l : List UInt8} (h : s.toList = l) : s = ⟨l.toArray⟩ := by
 apply ByteArray.ext
 rw [ByteArray.toList_eq] at h
 rw [← h, Array.toArray_toList]
section
variable {w : World} {base g : Nat} {prims : List (ByteArray × Int)} {o : Nat → Nat} {vs : List Value} {m : Mk}
def BPostO (base g : Nat) (prims : List (ByteArray × Int)) (r : Option Res) (w : World) (e : Ending) (w' : World) : Prop := match r with
 | some r => VB base g prims r w e w'
 | none => e = .returned (.tuple #[.int .i64 0, .bool false]) ∧ w' = w
theorem Yeb (h : Mx w base g prims o vs m) (hb : wt m ≤ 1000000000000) (s : ByteArray) : Calls Try.prog 61 #[.pointer (some ⟨g, 0, none⟩), .string s] w (BPostO base g prims (Xt m s) w) := by
 obtain ⟨b1, b2, b3, b4, b5, b6, b7⟩ := Yad hb
 by_cases h_if : s.toList = ([105, 102] : List UInt8)
 ·obtain rfl := Xe h_if
  obtain ⟨r, hr, hc⟩ : ∃ r, Xt m ⟨#[105, 102]⟩ = some r ∧ Calls Try.prog 61 _ w (VB base g prims r w) := ⟨_, (by unfold Xt; simp only [h_if]; rfl), if_calls h Z0 Z0⟩
  rw [hr]
  exact hc
 by_cases h_while : s.toList = ([119, 104, 105, 108, 101] : List UInt8)
 ·obtain rfl := Xe h_while
  obtain ⟨r, hr, hc⟩ : ∃ r, Xt m ⟨#[119, 104, 105, 108, 101]⟩ = some r ∧ Calls Try.prog 61 _ w (VB base g prims r w) := ⟨_, (by unfold Xt; simp only [h_while]; rfl), Ycu h Z0 Z0⟩
  rw [hr]
  exact hc
 by_cases h_else : s.toList = ([101, 108, 115, 101] : List UInt8)
 ·obtain rfl := Xe h_else
  obtain ⟨r, hr, hc⟩ : ∃ r, Xt m ⟨#[101, 108, 115, 101]⟩ = some r ∧ Calls Try.prog 61 _ w (VB base g prims r w) := ⟨_, (by unfold Xt; simp only [h_else]; rfl), Yd7 h Z0 Z0 Z0⟩
  rw [hr]
  exact hc
 by_cases h_then : s.toList = ([116, 104, 101, 110] : List UInt8)
 ·obtain rfl := Xe h_then
  obtain ⟨r, hr, hc⟩ : ∃ r, Xt m ⟨#[116, 104, 101, 110]⟩ = some r ∧ Calls Try.prog 61 _ w (VB base g prims r w) := ⟨_, (by unfold Xt; simp only [h_then]; rfl), YdD h Z0 Z0⟩
  rw [hr]
  exact hc
 by_cases h_begin : s.toList = ([98, 101, 103, 105, 110] : List UInt8)
 ·obtain rfl := Xe h_begin
  obtain ⟨r, hr, hc⟩ : ∃ r, Xt m ⟨#[98, 101, 103, 105, 110]⟩ = some r ∧ Calls Try.prog 61 _ w (VB base g prims r w) := ⟨_, (by unfold Xt; simp only [h_begin]; rfl), Yc3 h Z0 Z0⟩
  rw [hr]
  exact hc
 by_cases h_until : s.toList = ([117, 110, 116, 105, 108] : List UInt8)
 ·obtain rfl := Xe h_until
  obtain ⟨r, hr, hc⟩ : ∃ r, Xt m ⟨#[117, 110, 116, 105, 108]⟩ = some r ∧ Calls Try.prog 61 _ w (VB base g prims r w) := ⟨_, (by unfold Xt; simp only [h_until]; rfl), Ycv h Z0 Z0⟩
  rw [hr]
  exact hc
 by_cases h_again : s.toList = ([97, 103, 97, 105, 110] : List UInt8)
 ·obtain rfl := Xe h_again
  obtain ⟨r, hr, hc⟩ : ∃ r, Xt m ⟨#[97, 103, 97, 105, 110]⟩ = some r ∧ Calls Try.prog 61 _ w (VB base g prims r w) := ⟨_, (by unfold Xt; simp only [h_again]; rfl), Yc6 h Z0 Z0⟩
  rw [hr]
  exact hc
 by_cases h_repeat : s.toList = ([114, 101, 112, 101, 97, 116] : List UInt8)
 ·obtain rfl := Xe h_repeat
  obtain ⟨r, hr, hc⟩ : ∃ r, Xt m ⟨#[114, 101, 112, 101, 97, 116]⟩ = some r ∧ Calls Try.prog 61 _ w (VB base g prims r w) := ⟨_, (by unfold Xt; simp only [h_repeat]; rfl), Yb2 h Z0 Z0⟩
  rw [hr]
  exact hc
 have hn : Xt m s = none := by unfold Xt; simp only [h_if, h_while, h_else, h_then, h_begin, h_until, h_again, h_repeat, or_self, if_false]
 rw [hn]
 exact Ycr h s (by simp only [List.mem_cons, List.not_mem_nil, or_false, not_or]; exact ⟨h_if, h_while, h_else, h_then, h_begin, h_until, h_again, h_repeat⟩)
theorem leave_any (h : Mx w base g prims o vs m) (hl : m.out.length < 1099511627776) (hl2 : m.loops.length < 1099511627776) : Calls Try.prog 62 #[.pointer (some ⟨g, 0, none⟩), .string ⟨#[108, 101, 97, 118, 101]⟩] w (VB base g prims (if m.loops = [] then .inr 13 else .inl (m.add 27)) w) := by
 by_cases hne : m.loops = []
 ·rw [if_pos hne]
  exact YdR h hne
 ·rw [if_neg hne]
  exact YcL h hl hl2 hne
theorem loop_any (h : Mx w base g prims o vs m) (hb : wt m ≤ 1000000000000) (s : ByteArray) : Calls Try.prog 62 #[.pointer (some ⟨g, 0, none⟩), .string s] w (BPostO base g prims (VP m s) w) := by
 obtain ⟨b1, b2, b3, b4, b5, b6, b7⟩ := Yad hb
 by_cases h_do : s.toList = ([100, 111] : List UInt8)
 ·obtain rfl := Xe h_do
  obtain ⟨r, hr, hc⟩ : ∃ r, VP m ⟨#[100, 111]⟩ = some r ∧ Calls Try.prog 62 _ w (VB base g prims r w) := ⟨_, (by unfold VP; simp only [h_do]; rfl), do_calls h Z0 Z0⟩
  rw [hr]
  exact hc
 by_cases h_qdo : s.toList = ([63, 100, 111] : List UInt8)
 ·obtain rfl := Xe h_qdo
  obtain ⟨r, hr, hc⟩ : ∃ r, VP m ⟨#[63, 100, 111]⟩ = some r ∧ Calls Try.prog 62 _ w (VB base g prims r w) := ⟨_, (by unfold VP; simp only [h_qdo]; rfl), qdo_calls h Z0 Z0⟩
  rw [hr]
  exact hc
 by_cases h_loop : s.toList = ([108, 111, 111, 112] : List UInt8)
 ·obtain rfl := Xe h_loop
  obtain ⟨r, hr, hc⟩ : ∃ r, VP m ⟨#[108, 111, 111, 112]⟩ = some r ∧ Calls Try.prog 62 _ w (VB base g prims r w) := ⟨_, (by unfold VP; simp only [h_loop]; rfl), YdQ h Z0 Z0⟩
  rw [hr]
  exact hc
 by_cases h_qloopp : s.toList = ([43, 108, 111, 111, 112] : List UInt8)
 ·obtain rfl := Xe h_qloopp
  obtain ⟨r, hr, hc⟩ : ∃ r, VP m ⟨#[43, 108, 111, 111, 112]⟩ = some r ∧ Calls Try.prog 62 _ w (VB base g prims r w) := ⟨_, (by unfold VP; simp only [h_qloopp]; rfl), YcH h Z0 Z0⟩
  rw [hr]
  exact hc
 by_cases h_leave : s.toList = ([108, 101, 97, 118, 101] : List UInt8)
 ·obtain rfl := Xe h_leave
  obtain ⟨r, hr, hc⟩ : ∃ r, VP m ⟨#[108, 101, 97, 118, 101]⟩ = some r ∧ Calls Try.prog 62 _ w (VB base g prims r w) := ⟨_, (by unfold VP; simp only [h_leave]; rfl), leave_any h Z0 Z0⟩
  rw [hr]
  exact hc
 have hn : VP m s = none := by unfold VP; simp only [h_do, h_qdo, h_loop, h_qloopp, h_leave, or_self, if_false]
 rw [hn]
 exact YdP h s (by simp only [List.mem_cons, List.not_mem_nil, or_false, not_or]; exact ⟨h_do, h_qdo, h_loop, h_qloopp, h_leave⟩)
theorem Yd9 (h : Mx w base g prims o vs m) (hb : wt m ≤ 1000000000000) (s : ByteArray) (hs : s.toList ∈ ([[99, 97, 115, 101], [111, 102], [101, 110, 100, 111, 102], [101, 110, 100, 99, 97, 115, 101]] : List (List UInt8))) : Calls Try.prog 63 #[.pointer (some ⟨g, 0, none⟩), .string s] w (XQ base g prims (Vh m s) w) := by
 obtain ⟨b1, b2, b3, b4, b5, b6, b7⟩ := Yad hb
 by_cases h0 : s.toList = ([99, 97, 115, 101] : List UInt8)
 ·have hr : Vh m s = .inl ({ m with cases := m.cases ++ ([⟨-1, []⟩] : List Ch) }.add 196) := by unfold Vh; rw [if_pos h0]
  rw [hr]
  obtain rfl := Xe h0
  exact Yea h Z0 Z0
 ·have hu : Vh m s = match m.cases.getLast? with
   | none => .inr 13
   | some c => if (c.f0 < 0 ↔ s.toList = ([101, 110, 100, 111, 102] : List UInt8)) then .inr 13 else if s.toList = ([111, 102] : List UInt8) then .inl ({ m with cases := m.cases.dropLast ++ ([⟨m.at_, c.f1⟩] : List Ch) }.add 28)
     else if s.toList = ([101, 110, 100, 111, 102] : List UInt8) then .inl ({ m with cases := m.cases.dropLast ++ ([⟨-1, c.f1 ++ [m.at_]⟩] : List Ch), leads := m.leads ++ ([⟨c.f0, m.at_⟩] : List Ld) }.add 198)
     else .inl ({ m with cases := m.cases.dropLast, leads := m.leads ++ c.f1.map (fun x => (⟨x, m.at_⟩ : Ld)) }.add 197) := by unfold Vh; exact if_neg h0
  rw [hu]
  rcases List.eq_nil_or_concat m.cases with hc | ⟨pre, c, hc⟩
  ·rw [hc]
   exact YcW h Z0 hc s h0
  ·rw [List.concat_eq_append] at hc
   have hl : m.cases.getLast? = some c := by rw [hc]; simp
   have hd : m.cases.dropLast = pre := by rw [hc]; simp
   have hcl : c.f1.length ≤ 1000000000000 := b7 c (by rw [hc]; simp)
   rw [hl, hd]
   by_cases h1 : s.toList = ([101, 110, 100, 111, 102] : List UInt8)
   ·have h2 : ¬ s.toList = ([111, 102] : List UInt8) := by rw [h1]; decide
    by_cases hz : c.f0 < 0
    ·simp only [h1, hz, if_true]
     obtain rfl := Xe h1
     exact YcU h Z0 hc Z0 hz
    ·simp only [h1, hz, false_iff, not_true, if_false, if_true]
     rw [if_neg Z1]
     obtain rfl := Xe h1
     exact YcR h Z0 hc Z0 Z0 Z0 Z0
   ·by_cases hz : c.f0 < 0
    ·simp only [h1, hz, true_iff, if_false]
     by_cases h2 : s.toList = ([111, 102] : List UInt8)
     ·rw [if_pos h2]
      obtain rfl := Xe h2
      exact of_calls h Z0 hc Z0 hz
     ·rw [if_neg h2]
      simp only [List.mem_cons, List.not_mem_nil, or_false] at hs
      rcases hs with hs | hs | hs | hs
      ·exact absurd hs h0
      ·exact absurd hs h2
      ·exact absurd hs h1
      ·obtain rfl := Xe hs
       exact YbP h Z0 hc Z0 Z0 Z0 hz
    ·simp only [h1, hz, iff_self, if_true]
     exact YcV h Z0 hc Z0 Z0 s h0 h1
end
end Go.Proofs.Ytehmhgpogpbjiaa.Fcc
