import Derived.Test.Ytehmhgpogpbjiaafr13
import Derived.Maps.OwnSet
set_option linter.unusedVariables false
set_option linter.unusedSimpArgs false
set_option maxRecDepth 100000
set_option maxHeartbeats 8000000
namespace Go.Proofs.Ytehmhgpogpbjiaa.Fcc
open Go.RowKit Go.Proofs.YtehmhgpogpbjiaaW.PrintWords Go.Proofs.YtehmhgpogpbjiaaW.PrintLast Go.Proofs.YtehmhgpogpbjiaaW.PrintMore
theorem pop_calls (bb i : Nat) (A : Option Addr) (n c T : Nat) (xs : List Int) (x : Int) (w : World) (cs : Array Value)
 (hB : w.heap[bb]? = some (.cells cs T (0, 0))) (hi : cs[i]? = some (.slice A (n + 1) c)) (hc : n + 1 ≤ c) (hC : Kd.C (Kd.int .i64) w A (n + 1) (xs ++ [x])) :
 Calls Try.prog 86 #[.pointer (some ⟨bb, i, none⟩)] w fun e w' => e = .returned (.tuple #[.int .i64 x, .bool true]) ∧ w' = w.setCell ⟨bb, i, none⟩ (.slice A n c) := by
 have hb0 : w.cell? ⟨bb, i, none⟩ = some (.slice A (n + 1) c) := (Ya hB i).trans hi
 have hf : w.frozen? ⟨bb, i, none⟩ = false := Yf hB i
 have hlen := hC.2.1
 have hxs : xs.length = n := by have := hC.1; simpa using this
 obtain ⟨ad, e, g0⟩ := Kd.at_int hC (n : Int) Z0 Z0
 cases e
 rw [Int.toNat_natCast] at g0
 have hx : rd (xs ++ [x]) (n : Int) = x := by simp [rd, List.getD_eq_getElem?_getD, ← hxs]
 rw [hx] at g0
 clear hC hx
 have e1 : (n : Int) + 1 - 1 = n := by omega
 have e2 : wrap64 (n : Int) = n := IntWalk.wrap64_in _ ⟨Z0, Z0⟩
 have e3 : ((n : Int) < 0) = False := eq_false Z0
 have p3 : (0 ≤ (n : Int) ∧ (n : Int) ≤ (c : Int)) = True := eq_true ⟨Z0, Z0⟩
 have p0 : (0 ≤ (n : Int)) = True := eq_true Z0
 have p1 : ((n : Int) < (n : Int) + 1) = True := eq_true Z0
 have p2 : ((n : Int) ≤ (c : Int)) = True := eq_true Z0
 go_enter Try.func86, Try.ntmps86
 go_wp2_with fail
 exact bodyPost_ret (v := .tuple #[.int .i64 x, .bool true]) (by simp [results, Try.results86, go_sem]) rfl ⟨rfl, rfl⟩
theorem pop_empty (bb i : Nat) (A : Option Addr) (c T : Nat) (w : World) (cs : Array Value)
 (hB : w.heap[bb]? = some (.cells cs T (0, 0))) (hi : cs[i]? = some (.slice A 0 c)) :
 Calls Try.prog 86 #[.pointer (some ⟨bb, i, none⟩)] w fun e w' => e = .returned (.tuple #[.int .i64 0, .bool false]) ∧ w' = w := by
 have hb0 : w.cell? ⟨bb, i, none⟩ = some (.slice A 0 c) := (Ya hB i).trans hi
 go_enter Try.func86, Try.ntmps86
 go_wp2_with fail
 exact bodyPost_ret (v := .tuple #[.int .i64 0, .bool false]) (by simp [results, Try.results86, go_sem]) rfl ⟨rfl, rfl⟩
section
variable {w : World} {base g T z i : Nat} {vs : List Value} {o : Nat → Nat} {F : List Fld} {xs : List Int} {x : Int} {v : Value}
theorem St.pop (h : St w base g T z vs o F) (hv : vs[i]? = some v) (hF : F[i]? = some (rowF (Kd.int .i64) 3 base (xs ++ [x]))) :
 Calls Try.prog 86 #[.pointer (some ⟨g, i, none⟩)] w fun e w' => e = .returned (.tuple #[.int .i64 x, .bool true]) ∧ ∃ v', St w' base g T z (vs.set i v') o (F.set i (rowF (Kd.int .i64) 3 base xs)) ∧ Below base w w' := by
 have hr : Kd.R (Kd.int .i64) 3 w base (fun k => o k = z + 1 + i) v (xs ++ [x]) := h.row i v _ hv hF
 obtain ⟨A, c, rfl, hc, hC⟩ := Kd.R_reads hr
 have hz : (xs ++ [x]).length = xs.length + 1 := by simp
 rw [hz] at hr hc hC hv
 refine (pop_calls g i A xs.length c T xs x w _ h.box (by simpa using hv) hc hC).mono ?_
 rintro e w' ⟨rfl, rfl⟩
 have ht := Kd.R_take hr (m := xs.length) Z3
 rw [List.take_left'  rfl] at ht
 exact ⟨rfl, _, h.put i (loc_row _ _ _ _) ht, (Below.refl _ _).setCell h.hb _⟩
theorem St.pop_none (h : St w base g T z vs o F) (hv : vs[i]? = some v) (hF : F[i]? = some (rowF (Kd.int .i64) 3 base [])) :
 Calls Try.prog 86 #[.pointer (some ⟨g, i, none⟩)] w fun e w' => e = .returned (.tuple #[.int .i64 0, .bool false]) ∧ w' = w := by
 have hr : Kd.R (Kd.int .i64) 3 w base (fun k => o k = z + 1 + i) v [] := h.row i v _ hv hF
 obtain ⟨A, c, rfl⟩ := Kd.R_slice hr
 exact pop_empty g i A c T w _ h.box (by simpa using hv)
end
end Go.Proofs.Ytehmhgpogpbjiaa.Fcc
namespace Go.Proofs.Ytehmhgpogpbjiaa.Fcc
open Go.RowKit Go.Proofs.YtehmhgpogpbjiaaW.PrintWords Go.Proofs.YtehmhgpogpbjiaaW.PrintLast Go.Proofs.YtehmhgpogpbjiaaW.PrintMore Go.Proofs.Ytehmhgpogpbjiaa.PFccTokens
open Go.Maps (Keyed)
def inF (base : Nat) (l : List S59) : Fld := fun w ok v =>
 ∃ (L : List S59) (A A' : Option Addr) (n c j : Nat), Kd.R k59 59 w base ok (.slice A n c) L ∧ j ≤ L.length ∧ l = L.drop j ∧ v = .slice A' (n - j) (c - j) ∧ (j < n → A' = A.map (·.add (j * 3)))
theorem loc_in (base : Nat) (l : List S59) : Loc base (inF base l) :=
 ⟨fun {w w1 ok ok' v} h hm => by
  obtain ⟨L, A, A', n, c, j, hR, hj, hl, hv⟩ := h
  exact ⟨L, A, A', n, c, j, (loc_row k59 59 base L).move hR hm, hj, hl, hv⟩⟩
def look (l : List (ByteArray × Int)) (s : ByteArray) : Option Int := (l.find? (fun p => decide (p.1 = s))).map (·.2)
def Ybi (D : DataW Unit) (l : List (ByteArray × Int)) : Prop :=
 ∀ s : ByteArray, Maps.has D (.string s.data.toList) = (look l s).isSome ∧ ∀ c, look l s = some c → D.atKey (.string s.data.toList) (.lit (.int .i64 0)) = .lit (.int .i64 c)
def UX (base : Nat) (l : List (ByteArray × Int)) : Fld := fun w ok v => ∃ (n : Nat) (D : DataW Unit), n ≤ l.length ∧ Ybi D l ∧ mapF Try.prog 9 (plainElem Try.prog 3) base n D w ok v
theorem loc_names (base : Nat) (l : List (ByteArray × Int)) : Loc base (UX base l) :=
 ⟨fun {w w1 ok ok' v} h hm => by
  obtain ⟨n, D, h1, h2, h3⟩ := h
  exact ⟨n, D, h1, h2, (loc_map Try.prog 9 (plainElem Try.prog 3) base n D).move h3 hm⟩⟩
def mkF (base : Nat) (prims : List (ByteArray × Int)) (m : Mk) : List Fld :=
 [inF base m.inp, rowF k37 37 base m.out, UX base (m.names ++ prims), valF (.int .i64 m.next), valF (.bool m.opn), valF (.string m.name), valF (.int .i64 m.code),
  rowF (Kd.int .i64) 3 base m.origs, rowF (Kd.int .i64) 3 base m.dests, rowF (Kd.int .i64) 3 base m.loops, rowsF k149 142 base m.cases, rowF k77 101 base m.leads]
structure Mx (w : World) (base g : Nat) (prims : List (ByteArray × Int)) (o : Nat → Nat) (vs : List Value) (m : Mk) : Prop where
 st : St w base g 57 0 vs o (mkF base prims m)
 len : vs.length = 12
section
variable {w : World} {base g : Nat} {prims : List (ByteArray × Int)} {o : Nat → Nat} {vs : List Value} {m : Mk}
theorem Mx.cells (h : Mx w base g prims o vs m) : ∃ v0 A1 c1 b A7 c7 A8 c8 A9 c9 A10 c10 A11 c11, vs = [v0, .slice A1 m.out.length c1, .map (some b), .int .i64 m.next, .bool m.opn, .string m.name, .int .i64 m.code,
 .slice A7 m.origs.length c7, .slice A8 m.dests.length c8, .slice A9 m.loops.length c9, .slice A10 m.cases.length c10, .slice A11 m.leads.length c11] := by
 obtain ⟨st, len⟩ := h
 match vs, len with
 | [v0, v1, v2, v3, v4, v5, v6, v7, v8, v9, v10, v11], _ =>
   obtain ⟨A1, c1, rfl⟩ := Kd.R_slice (st.row 1 v1 _ rfl rfl)
   obtain ⟨n, D, -, -, b, rfl, -⟩ := (st.row 2 v2 _ rfl rfl : UX base (m.names ++ prims) w _ v2)
   obtain rfl := (st.row 3 v3 _ rfl rfl : v3 = _)
   obtain rfl := (st.row 4 v4 _ rfl rfl : v4 = _)
   obtain rfl := (st.row 5 v5 _ rfl rfl : v5 = _)
   obtain rfl := (st.row 6 v6 _ rfl rfl : v6 = _)
   obtain ⟨A7, c7, rfl⟩ := Kd.R_slice (st.row 7 v7 _ rfl rfl)
   obtain ⟨A8, c8, rfl⟩ := Kd.R_slice (st.row 8 v8 _ rfl rfl)
   obtain ⟨A9, c9, rfl⟩ := Kd.R_slice (st.row 9 v9 _ rfl rfl)
   obtain ⟨A10, c10, rfl, -⟩ := Kd.S_reads (st.row 10 v10 _ rfl rfl)
   obtain ⟨A11, c11, rfl⟩ := Kd.R_slice (st.row 11 v11 _ rfl rfl)
   exact ⟨_, _, _, _, _, _, _, _, _, _, _, _, _, _, rfl⟩
theorem Mx.below {w1 : World} (h : Mx w base g prims o vs m) (hb : Below w.heap.size w w1) : Mx w1 base g prims o vs m := ⟨h.st.below hb, h.len⟩
end
def XQ (base g : Nat) (prims : List (ByteArray × Int)) (r : Res) (w : World) (e : Ending) (w' : World) : Prop :=
 Below base w w' ∧ match r with
  | .inl m => e = .returned (.int .i64 0) ∧ ∃ o vs, Mx w' base g prims o vs m
  | .inr c => e = .returned (.int .i64 c)
end Go.Proofs.Ytehmhgpogpbjiaa.Fcc
namespace Go.Proofs.Ytehmhgpogpbjiaa.Fcc
open Go.RowKit Go.Proofs.YtehmhgpogpbjiaaW.PrintWords Go.Proofs.YtehmhgpogpbjiaaW.PrintLast Go.Proofs.YtehmhgpogpbjiaaW.PrintMore Go.Proofs.Ytehmhgpogpbjiaa.PFccTokens
section
variable {α : Type} {d : Kd α} {w : World} {base g T z i e t bytes : Nat} {vs : List Value} {o : Nat → Nat} {F : List Fld} {xs : List α} {v zv : Value} {p : α} {cs : List Value}
theorem St.pushed {w2 : World} {v' : Value} {ys : List α} (h : St w base g T z vs o F) (hv : vs[i]? = some v) (hF : F[i]? = some (rowF d e base xs)) (hg : w.grownBy w2 v.ownBlock)
 (hR : Kd.R d e w2 base (fun k => new_ w o (z + 1 + i) k = z + 1 + i) v' ys) : St (w2.setCell ⟨g, i, none⟩ v') base g T z (vs.set i v') (new_ w o (z + 1 + i)) (F.set i (rowF d e base ys)) :=
 h.grow i (loc_row _ _ _ _) (fun k hk => Ybc hk) hg (h.row i v _ hv hF : Kd.R d e w base _ v xs).1 hR
theorem St.pushedS {w2 : World} {v' : Value} {ys : List α} (h : St w base g T z vs o F) (hv : vs[i]? = some v) (hF : F[i]? = some (rowsF d e base xs)) (hg : w.grownBy w2 v.ownBlock)
 (hR : Kd.S d e w2 base (fun k => new_ w o (z + 1 + i) k = z + 1 + i) v' ys) : St (w2.setCell ⟨g, i, none⟩ v') base g T z (vs.set i v') (new_ w o (z + 1 + i)) (F.set i (rowsF d e base ys)) :=
 h.grow i (loc_rows _ _ _ _) (fun k hk => Ybc hk) hg (Kd.S_R (h.row i v _ hv hF : Kd.S d e w base _ v xs)).1 hR
theorem St.oldR (h : St w base g T z vs o F) (hv : vs[i]? = some v) (hF : F[i]? = some (rowF d e base xs)) : Kd.R d e w base (fun k => new_ w o (z + 1 + i) k = z + 1 + i) v xs :=
 (loc_row d e base xs).move (h.row i v _ hv hF) (fun k hk _ hl => ⟨rfl, (by rw [Ybc hl]; exact hk)⟩)
theorem St.base_le (h : St w base g T z vs o F) : base ≤ w.heap.size := Nat.le_of_lt (Nat.lt_of_le_of_lt h.hb h.lt)
def Pushed (d : Kd α) (e base g T z i : Nat) (w : World) (vs : List Value) (o : Nat → Nat) (F : List Fld) (v : Value) (ys : List α) (v' : Value) (w2 : World) : Prop :=
 St (w2.setCell ⟨g, i, none⟩ v') base g T z (vs.set i v') (new_ w o (z + 1 + i)) (F.set i (rowF d e base ys)) ∧ Below base w w2 ∧ (∃ A c, v' = .slice A ys.length c) ∧ w2.heap[g]? = some (.cells vs.toArray T (0, 0)) ∧ w.grownBy w2 v.ownBlock
theorem St.push {P : Program} {ops : Array Oper} {rest : List Oper} {Q : Exit → Act → World → Prop} {a : Act} {q : Oper} {s x : Operand} (h : St w base g T z vs o F) (hv : vs[i]? = some v) (hF : F[i]? = some (rowF d e base xs)) (p : α) (cs : List Value) (okp : Nat → Prop)
 (hd : d.sz = cs.length) (ht : P.underlying t = some (.slice e)) (hinfo : (P.info? e).map (fun i => (i.zero, i.size, i.bytes)) = some (some zv, d.sz, bytes)) (hz : zv.cells.size = d.sz) (hs0 : 0 < d.sz) (hb0 : 0 < bytes)
 (hgd : q.guard = none) (hq : q.op = .call { callee := .builtin .append, args := #[s, x], argTypes := #[t, t] }) (hs : a.eval s = v) (hx : a.eval x = .slice (some ⟨w.heap.size, 0, none⟩) 1 1)
 (hp : d.M w base (fun _ => False) p cs) (hl : (xs.length + 1) * bytes ≤ 140737488355328)
 (k : ∀ v' w2, Pushed d e base g T z i w vs o F v (xs ++ [p]) v' w2 → wpList P ops Q rest (a.put q.dst v') w2) : wpList P ops Q (q :: rest) a (w.alloc (.cells cs.toArray e)) := by
 refine Kd.R_append d (w0 := w) (W := w) base hgd s x t e zv bytes hq ht hinfo hz hs0 hb0 v xs p cs (fun k => new_ w o (z + 1 + i) k = z + 1 + i) (fun _ => False) hs hx hp (fun _ h => h.elim) (fun k hk => Yca hk) (h.oldR hv hF) (Below.refl _ _) h.base_le hl ?_
 intro v' w2 hR hB hg _
 refine k v' w2 ⟨h.pushed hv hF hg hR, hB, ?_, ?_, hg⟩
 ·obtain ⟨A, c, rfl⟩ := Kd.R_slice hR
  exact ⟨A, c, rfl⟩
 ·refine XU h.box hg (fun e2 => ?_)
  have h1 := (h.row i v _ hv hF : Kd.R d e w base _ v xs).1 g e2.symm
  have h2 := h.own
  omega
theorem St.pushD {P : Program} {ops : Array Oper} {Q : Exit → Act → World → Prop} {Kc : Act → World → Prop} {a : Act} {q : Oper} {s x : Operand} (h : St w base g T z vs o F) (hv : vs[i]? = some v) (hF : F[i]? = some (rowF d e base xs)) (p : α) (cs : List Value) (okp : Nat → Prop)
 (hd : d.sz = cs.length) (ht : P.underlying t = some (.slice e)) (hinfo : (P.info? e).map (fun i => (i.zero, i.size, i.bytes)) = some (some zv, d.sz, bytes)) (hz : zv.cells.size = d.sz) (hs0 : 0 < d.sz) (hb0 : 0 < bytes)
 (hw : Region.wanted q (yielded ops a.tmps) = true) (hq : q.op = .call { callee := .builtin .append, args := #[s, x], argTypes := #[t, t] }) (hs : a.eval s = v) (hx : a.eval x = .slice (some ⟨w.heap.size, 0, none⟩) 1 1)
 (hp : d.M w base (fun _ => False) p cs) (hl : (xs.length + 1) * bytes ≤ 140737488355328)
 (k : ∀ v' w2, Pushed d e base g T z i w vs o F v (xs ++ [p]) v' w2 → Kc (a.put q.dst v') w2) :
 if Region.wanted q (yielded ops a.tmps) = true then Oper.wp P q a (w.alloc (.cells cs.toArray e)) Kc Q else Kc (a.put q.dst undef) (w.alloc (.cells cs.toArray e)) := by
 refine Kd.R_append_step d (w0 := w) (W := w) base hw s x t e zv bytes hq ht hinfo hz hs0 hb0 v xs p cs (fun k => new_ w o (z + 1 + i) k = z + 1 + i) (fun _ => False) hs hx hp (fun _ h => h.elim) (fun k hk => Yca hk) (h.oldR hv hF) (Below.refl _ _) h.base_le hl ?_
 intro v' w2 hR hB hg _
 refine k v' w2 ⟨h.pushed hv hF hg hR, hB, ?_, ?_, hg⟩
 ·obtain ⟨A, c, rfl⟩ := Kd.R_slice hR
  exact ⟨A, c, rfl⟩
 ·refine XU h.box hg (fun e2 => ?_)
  have h1 := (h.row i v _ hv hF : Kd.R d e w base _ v xs).1 g e2.symm
  have h2 := h.own
  omega
end
theorem info37 : (Try.prog.info? 37).map (fun i => (i.zero, i.size, i.bytes)) = some (some (.agg #[.int .i64 0, .int .u32 0, .string ⟨#[]⟩, .int .i64 0]), 4, 40) := by kernel_rfl
section
variable {w : World} {base g : Nat} {prims : List (ByteArray × Int)} {o : Nat → Nat} {vs : List Value} {m : Mk}
theorem YW (h : Mx w base g prims o vs m) (c n : Int) (s : ByteArray) (hl : m.out.length < 1099511627776) :
 Calls Try.prog 19 #[.pointer (some ⟨g, 0, none⟩), .agg #[.int .i64 c, .int .u32 n, .string s, .int .i64 0]] w fun e w' => e = .returned (.tuple #[]) ∧ Below base w w' ∧ ∃ o' vs', Mx w' base g prims o' vs' (m.add c n s) := by
 have hbw := h.st.base_le
 have hBn := Yc (Below.refl w.heap.size w) (.cells #[.int .i64 c, .int .u32 n, .string s, .int .i64 0] 37)
 have hnew := Xa w (.cells #[.int .i64 c, .int .u32 n, .string s, .int .i64 0] 37)
 have h1 := h.below hBn
 obtain ⟨v0, A1, c1, b, A7, c7, A8, c8, A9, c9, A10, c10, A11, c11, rfl⟩ := h.cells
 go_enter Try.func19, Try.ntmps19
 have hS : (w.alloc (.cells #[.int .i64 c, .int .u32 n, .string s, .int .i64 0] 37)).cell? ⟨g, 1, none⟩ = some (.slice A1 m.out.length c1) ∧ (w.alloc (.cells #[.int .i64 c, .int .u32 n, .string s, .int .i64 0] 37)).cell? ⟨w.heap.size, 0, none⟩ = some (.int .i64 c) ∧ (w.alloc (.cells #[.int .i64 c, .int .u32 n, .string s, .int .i64 0] 37)).cell? ⟨w.heap.size, 1, none⟩ = some (.int .u32 n) ∧ (w.alloc (.cells #[.int .i64 c, .int .u32 n, .string s, .int .i64 0] 37)).cell? ⟨w.heap.size, 2, none⟩ = some (.string s) ∧ (w.alloc (.cells #[.int .i64 c, .int .u32 n, .string s, .int .i64 0] 37)).cell? ⟨w.heap.size, 3, none⟩ = some (.int .i64 0) :=
  ⟨h1.st.cell 1 rfl, (Ya hnew 0).trans rfl, (Ya hnew 1).trans rfl, (Ya hnew 2).trans rfl, (Ya hnew 3).trans rfl⟩
 have hBw := Below.mono hBn hbw
 have hlt := Kd.R_lt (h.st.row 1 _ _ rfl rfl : Kd.R k37 37 w base _ (.slice A1 m.out.length c1) m.out)
 go_wp2_with fail
 generalize w.alloc (.cells #[.int .i64 c, .int .u32 n, .string s, .int .i64 0] 37) = W at h1 hnew hBw hBn hS ⊢
 generalize w.heap.size = gb at hnew hBn hS hlt ⊢
 refine Yam (n := 11) (S := fun w' => w'.cell? ⟨g, 1, none⟩ = some (.slice A1 m.out.length c1) ∧ w'.cell? ⟨gb, 0, none⟩ = some (.int .i64 c) ∧ w'.cell? ⟨gb, 1, none⟩ = some (.int .u32 n) ∧ w'.cell? ⟨gb, 2, none⟩ = some (.string s) ∧ w'.cell? ⟨gb, 3, none⟩ = some (.int .i64 0)) (ds := [10]) #[false, false, false, false, false, false, false, false, false, false, false] Z2 rfl rfl (hS) (fun hHeld => ?_)
 refine Jj (rfl : rtab .any (Yaw Try.f19 1) = rtab .any (Yaw Try.f19 1)) (fun HT_ => ?_)
 refine Xr (i := 0) (N := some 4) (v := ?_) (a' := ?_) #[true, false, false, false, false, false, false, false, false, false, false] rfl rfl (any_of HT_.out Z2) (fun _ _ _ h => h) (Or.inl ⟨Z7, ?_⟩) ?_ ?_
 rotate_left
 ·intro w'
  go_simp
  with_reducible rfl
 rotate_left
 ·simp only [Act.put, List.setIfInBounds_toArray, List.set_cons_zero, List.set_cons_succ, YH, YJ]
  rfl
 refine Xr (i := 1) (N := some 5) (v := ?_) (a' := ?_) #[true, true, false, false, false, false, false, false, false, false, false] rfl rfl (any_of HT_.out Z2) (fun _ _ _ h => h) (Or.inl ⟨Z7, ?_⟩) ?_ ?_
 rotate_left
 ·intro w'
  go_simp
  with_reducible rfl
 rotate_left
 ·simp only [Act.put, List.setIfInBounds_toArray, List.set_cons_zero, List.set_cons_succ, YH, YJ]
  rfl
 refine Xr (i := 2) (N := some 6) (v := ?_) (a' := ?_) #[true, true, true, false, false, false, false, false, false, false, false] rfl rfl (any_of HT_.out Z2) (fun _ _ _ h => h) (Or.inl ⟨Z7, ?_⟩) ?_ ?_
 rotate_left
 ·intro w'
  go_simp
  with_reducible rfl
 rotate_left
 ·simp only [Act.put, List.setIfInBounds_toArray, List.set_cons_zero, List.set_cons_succ, YH, YJ]
  rfl
 refine Xr (i := 3) (N := some 7) (v := ?_) (a' := ?_) #[true, true, true, true, false, false, false, false, false, false, false] rfl rfl (any_of HT_.out Z2) (fun _ _ _ h => h) (Or.inl ⟨Z7, ?_⟩) ?_ ?_
 rotate_left
 ·intro w'
  go_simp
  with_reducible rfl
 rotate_left
 ·simp only [Act.put, List.setIfInBounds_toArray, List.set_cons_zero, List.set_cons_succ, YH, YJ]
  rfl
 refine take_ (i := 4) (N := some 8) (v := ?_) (a' := ?_) #[true, true, true, true, true, false, false, false, false, false, false] rfl rfl (take_of HT_.out Z2) (fun _ _ _ h => h) (Or.inl ⟨Z7, ?_⟩) hHeld ?_ ?_
 rotate_left
 ·rintro w' hS; go_split_ands
  go_simp
  with_reducible rfl
 rotate_left
 ·simp only [Act.put, List.setIfInBounds_toArray, List.set_cons_zero, List.set_cons_succ, YH, YJ]
  rfl
 refine take_ (i := 5) (N := some 9) (v := ?_) (a' := ?_) #[true, true, true, true, true, true, false, false, false, false, false] rfl rfl (take_of HT_.out Z2) (fun _ _ _ h => h) (Or.inl ⟨Z7, ?_⟩) hHeld ?_ ?_
 rotate_left
 ·rintro w' hS; go_split_ands
  go_simp
  with_reducible rfl
 rotate_left
 ·simp only [Act.put, List.setIfInBounds_toArray, List.set_cons_zero, List.set_cons_succ, YH, YJ]
  rfl
 refine one_ (i := 6) (N := some 10) #[true, true, true, true, true, true, true, false, false, false, false] rfl rfl (VM HT_.out Z2) Z1 (fun K hK => ?_)
 refine JR (w1 := ?_) (v := ?_) Z7 rfl ?_ ?_
 rotate_left 2
 ·go_simp
  constructor
  ·rfl
  ·rfl
 have hS : (W.drew.alloc (.cells #[.int .i64 c, .int .u32 n, .string s, .int .i64 0] 37)).cell? ⟨g, 1, none⟩ = some (.slice A1 m.out.length c1) ∧ (W.drew.alloc (.cells #[.int .i64 c, .int .u32 n, .string s, .int .i64 0] 37)).cell? ⟨gb, 0, none⟩ = some (.int .i64 c) ∧ (W.drew.alloc (.cells #[.int .i64 c, .int .u32 n, .string s, .int .i64 0] 37)).cell? ⟨gb, 1, none⟩ = some (.int .u32 n) ∧ (W.drew.alloc (.cells #[.int .i64 c, .int .u32 n, .string s, .int .i64 0] 37)).cell? ⟨gb, 2, none⟩ = some (.string s) ∧ (W.drew.alloc (.cells #[.int .i64 c, .int .u32 n, .string s, .int .i64 0] 37)).cell? ⟨gb, 3, none⟩ = some (.int .i64 0) := ⟨(h1.below (Yc (YY (Below.refl _ _)) _)).st.cell 1 rfl, (Ya (Xh (XZ hnew) _) 0).trans rfl, (Ya (Xh (XZ hnew) _) 1).trans rfl, (Ya (Xh (XZ hnew) _) 2).trans rfl, (Ya (Xh (XZ hnew) _) 3).trans rfl⟩
 refine hK.out _ _ (hS) (fun hHeld => ?_)
 clear hK K
 refine Jd (a' := ?_) ?_ ?_
 rotate_left
 ·show Act.put _ (some 10) _ = _
  simp only [Act.put, List.setIfInBounds_toArray, List.set_cons_zero, List.set_cons_succ, YH, YJ]
  rfl
 refine one_ (i := 7) (N := some 11) #[true, true, true, true, true, true, true, true, false, false, false] rfl rfl (VM HT_.out Z2) Z1 (fun K hK => ?_)
 refine St.pushD (d := k37) (e := 37) (i := 1) (h1.below (YY (Below.refl _ _))).st rfl rfl (⟨c, n, s, 0⟩ : S37) [.int .i64 c, .int .u32 n, .string s, .int .i64 0] (fun _ => False) rfl Try.underlying23 info37 rfl Z1 Z1 rfl rfl rfl rfl (YbI _ _ _ _) Z0 ?_
 rintro v2 w2 ⟨hst, hB2, ⟨A2, c2, rfl⟩, hb2, hg2⟩
 have hz : (m.out ++ [(⟨c, n, s, 0⟩ : S37)]).length = m.out.length + 1 := by simp
 rw [hz] at hst ⊢
 have hbx := XU (XZ hnew) hg2 (fun e => Nat.lt_irrefl _ (hlt _ e.symm))
 have hS : w2.cell? ⟨g, 1, none⟩ = some (.slice A1 m.out.length c1) ∧ w2.cell? ⟨gb, 0, none⟩ = some (.int .i64 c) ∧ w2.cell? ⟨gb, 1, none⟩ = some (.int .u32 n) ∧ w2.cell? ⟨gb, 2, none⟩ = some (.string s) ∧ w2.cell? ⟨gb, 3, none⟩ = some (.int .i64 0) := ⟨(Ya hb2 1).trans rfl, (Ya hbx 0).trans rfl, (Ya hbx 1).trans rfl, (Ya hbx 2).trans rfl, (Ya hbx 3).trans rfl⟩
 have hf := Yf hb2 1
 have hcc := hS.1
 refine hK.out _ _ (hS) (fun hHeld => ?_)
 clear hK K
 refine Jd (a' := ?_) ?_ ?_
 rotate_left
 ·show Act.put _ (some 11) _ = _
  simp only [Act.put, List.setIfInBounds_toArray, List.set_cons_zero, List.set_cons_succ, YH, YJ]
  rfl
 refine Xr (i := 8) (N := some 12) (v := ?_) (a' := ?_) #[true, true, true, true, true, true, true, true, true, false, false] rfl rfl (any_of HT_.out Z2) (fun _ _ _ h => h) (Or.inl ⟨Z7, ?_⟩) ?_ ?_
 rotate_left
 ·intro w'
  go_simp
  with_reducible rfl
 rotate_left
 ·simp only [Act.put, List.setIfInBounds_toArray, List.set_cons_zero, List.set_cons_succ, YH, YJ]
  rfl
 refine Xr (i := 9) (N := some 13) (v := ?_) (a' := ?_) #[true, true, true, true, true, true, true, true, true, true, false] rfl rfl (any_of HT_.out Z2) (fun _ _ _ h => h) (Or.inl ⟨Z7, ?_⟩) ?_ ?_
 rotate_left
 ·intro w'
  go_simp
  with_reducible rfl
 rotate_left
 ·simp only [Act.put, List.setIfInBounds_toArray, List.set_cons_zero, List.set_cons_succ, YH, YJ]
  rfl
 refine YcM (i := 10) (N := none) #[true, true, true, true, true, true, true, true, true, true, true] rfl rfl (VM HT_.out Z2) Z1 (fun K hK => ?_)
 go_simp
 refine hK.out _ _ ?_
 clear hK K
 refine Ycm (UM HT_.out Z2) ?_
 clear HT_ hHeld
 go_wp2_with fail
 refine bodyPost_end (results_none rfl _ _ _) rfl ?_
 exact ⟨rfl, Below.setCell (Below.trans hBw (Below.trans (YY (Below.refl _ _)) hB2)) h.st.hb _, _, _, ⟨hst, rfl⟩⟩
end
section
variable {w : World} {base g : Nat} {prims : List (ByteArray × Int)} {o : Nat → Nat} {vs : List Value} {m : Mk} {t : S59} {r : List S59}
theorem YcP {ok : Nat → Prop} {v : Value} (h : inF base (t :: r) w ok v) : ∃ ad c, v = .slice (some ad) (r.length + 1) c ∧ r.length + 1 ≤ c ∧ r.length + 1 < 9223372036854775808 ∧ w.cell? ad = some (.int .i64 t.f0) ∧ w.cell? ⟨ad.block, ad.off + 1, none⟩ = some (.string t.f1) ∧
 ∀ A', (0 < r.length → A' = some (ad.add 3)) → inF base r w ok (.slice A' r.length (c - 1)) := by
 obtain ⟨L, A, A0, n, c, j, hR, hj, hl, rfl, hA⟩ := h
 obtain ⟨hn, hnc, hC⟩ := Kd.R_reads' hR
 have hlen : L.length = j + (r.length + 1) := by
  have := congrArg List.length hl
  rw [List.length_drop, List.length_cons] at this
  omega
 have hjn : j < n := by omega
 have hA0 := hA hjn
 have hsz := hC.2.1
 obtain ⟨ad, e, g0, g1, g2⟩ := at_T59 hC (j : Int) Z0 Z0
 subst e
 rw [Int.toNat_natCast] at g0 g1
 have hrd : Yas L (j : Int) = t := by
  have h2 : L[j]? = some t := by
   have := congrArg (fun l => l[0]?) hl
   simpa using this.symm
  simp [Yas, List.getD_eq_getElem?_getD, h2]
 rw [hrd] at g0 g1
 rw [Option.map_some] at hA0
 refine ⟨ad.add (j * 3), c - j, ?_, Z0, Z0, g0, g1, fun A' hA' => ⟨L, some ad, A', n, c, j + 1, hR, Z0, ?_, ?_, fun hlt => ?_⟩⟩
 ·rw [hA0]
  have : n - j = r.length + 1 := by omega
  rw [this]
 ·have := congrArg List.tail hl
  rw [List.tail_cons, List.tail_drop] at this
  exact this
 ·have h1 : r.length = n - (j + 1) := by omega
  have h2 : c - j - 1 = c - (j + 1) := by omega
  rw [← h1, h2]
 ·rw [hA' Z0, Option.map_some]
  have : (ad.add (j * 3)).add 3 = ad.add ((j + 1) * 3) := by
   cases ad
   by_cases hj0 : j = 0
   ·subst hj0
    simp [Addr.add]
   ·have h1 : j * 3 ≠ 0 := by omega
    have h2 : (j + 1) * 3 ≠ 0 := by omega
    simp only [Addr.add, h1, h2, ↓reduceIte]
    simp
    omega
  rw [this]
theorem in_nil {ok : Nat → Prop} {v : Value} (h : inF base [] w ok v) : ∃ A c, v = .slice A 0 c := by
 obtain ⟨L, A, A0, n, c, j, hR, hj, hl, rfl, hA⟩ := h
 have hn := (Kd.R_reads' hR).1
 have hlen : L.length - j = 0 := by
  have := congrArg List.length hl
  rw [List.length_drop, List.length_nil] at this
  exact this.symm
 exact ⟨_, _, (by rw [show n - j = 0 by omega])⟩
theorem Mx.setIn {A' : Option Addr} {n' c' : Nat} {v0 : Value} {vr : List Value} (h : Mx w base g prims o (v0 :: vr) m) {l : List S59} (hl : inF base l w (fun k => o k = 1) (.slice A' n' c')) :
 Mx (w.setCell ⟨g, 0, none⟩ (.slice A' n' c')) base g prims o (.slice A' n' c' :: vr) { m with inp := l } :=
 ⟨h.st.put 0 (loc_in base l) hl, h.len⟩
theorem VZ (h : Mx w base g prims o vs m) (hm : m.inp = t :: r) (ht : t.f0 = 1) :
 Calls Try.prog 64 #[.pointer (some ⟨g, 0, none⟩)] w fun e w' => e = .returned (.tuple #[.string t.f1, .int .i64 0]) ∧ Below base w w' ∧ ∃ o' vs', Mx w' base g prims o' vs' { m with inp := r } := by
 obtain ⟨v0, A1, c1, b, A7, c7, A8, c8, A9, c9, A10, c10, A11, c11, rfl⟩ := h.cells
 have hin : inF base m.inp w (fun k => o k = 0 + 1 + 0) v0 := h.st.row 0 _ _ rfl rfl
 rw [hm] at hin
 obtain ⟨ad, c, rfl, hc, hb, g0, g1, hr⟩ := YcP hin
 have hcell := h.st.cell 0 rfl
 have hfree := h.st.free 0
 rw [ht] at g0
 have e0 : ((r.length : Int) + 1 == 0) = false := by simp; omega
 have p0 : ((0 : Int) < (r.length : Int) + 1) = True := eq_true Z0
 have p1 : ((1 : Int) ≤ (r.length : Int) + 1) = True := eq_true Z0
 have p2 : ((r.length : Int) + 1 ≤ (c : Int)) = True := eq_true Z0
 go_enter Try.func64, Try.ntmps64
 have hX := h
 clear h
 go_wp2_with fail
 ·skip
  subst h
  exact bodyPost_ret (v := .tuple #[.string t.f1, .int .i64 0]) Z1i rfl ⟨rfl, (Below.refl _ _).setCell hX.st.hb _, _, _, hX.setIn (hr _ (fun h1 => absurd h1 Z0))⟩
 ·refine bodyPost_ret (v := .tuple #[.string t.f1, .int .i64 0]) Z1i rfl ⟨rfl, (Below.refl _ _).setCell hX.st.hb _, _, _, hX.setIn (hr _ (fun h1 => ?_))⟩
  cases ad
  simp [Addr.add]
theorem Ybn (h : Mx w base g prims o vs m) (hm : m.inp = t :: r) (ht : t.f0 ≠ 1) :
 Calls Try.prog 64 #[.pointer (some ⟨g, 0, none⟩)] w fun e w' => e = .returned (.tuple #[.string ⟨#[]⟩, .int .i64 15]) ∧ w' = w := by
 obtain ⟨v0, A1, c1, b, A7, c7, A8, c8, A9, c9, A10, c10, A11, c11, rfl⟩ := h.cells
 have hin : inF base m.inp w (fun k => o k = 0 + 1 + 0) v0 := h.st.row 0 _ _ rfl rfl
 rw [hm] at hin
 obtain ⟨ad, c, rfl, hc, hb, g0, g1, hr⟩ := YcP hin
 have hcell := h.st.cell 0 rfl
 have e0 : ((r.length : Int) + 1 == 0) = false := by simp; omega
 have e1 : (t.f0 == 1) = false := by simpa using ht
 have p0 : ((0 : Int) < (r.length : Int) + 1) = True := eq_true Z0
 clear hin hr h
 go_enter Try.func64, Try.ntmps64
 go_wp2_with fail
 exact Z2l
theorem Yaf (h : Mx w base g prims o vs m) (hm : m.inp = []) :
 Calls Try.prog 64 #[.pointer (some ⟨g, 0, none⟩)] w fun e w' => e = .returned (.tuple #[.string ⟨#[]⟩, .int .i64 15]) ∧ w' = w := by
 obtain ⟨v0, A1, c1, b, A7, c7, A8, c8, A9, c9, A10, c10, A11, c11, rfl⟩ := h.cells
 have hin : inF base m.inp w (fun k => o k = 0 + 1 + 0) v0 := h.st.row 0 _ _ rfl rfl
 rw [hm] at hin
 obtain ⟨A, c, rfl⟩ := in_nil hin
 have hcell := h.st.cell 0 rfl
 clear hin h
 go_enter Try.func64, Try.ntmps64
 go_wp2_with fail
 exact Z2l
end
theorem JH : (Try.prog.info? 101).map (fun i => (i.zero, i.size, i.bytes)) = some (some (.agg #[.int .i64 0, .int .i64 0]), 2, 16) := by kernel_rfl
theorem Uq (l : List Int) (x : Int) : popP (l ++ [x]) = some (x, l) := by simp [popP]
theorem snoc_cases (l : List Int) : l = [] ∨ ∃ xs x, l = xs ++ [x] := by
 rcases List.eq_nil_or_concat l with h | ⟨xs, x, h⟩
 ·exact .inl h
 ·exact .inr ⟨xs, x, ZM⟩
section
variable {w : World} {base g : Nat} {prims : List (ByteArray × Int)} {o : Nat → Nat} {vs : List Value} {m : Mk}
theorem Uy (h : Mx w base g prims o vs m) (hl : m.out.length < 1099511627776) (hl2 : m.leads.length < 1099511627776) : Calls Try.prog 87 #[.pointer (some ⟨g, 0, none⟩)] w (XQ base g prims (resolveP m) w) := by
 rcases snoc_cases m.origs with ho | ⟨xs, x, ho⟩
 ·have hr : resolveP m = .inr 13 := by unfold resolveP; rw [ho]; rfl
  rw [hr]
  have hF : (mkF base prims m)[7]? = some (rowF (Kd.int .i64) 3 base []) := by rw [← ho]; rfl
  obtain ⟨v0, A1, c1, b, A7, c7, A8, c8, A9, c9, A10, c10, A11, c11, rfl⟩ := h.cells
  have hp := h.st.pop_none (i := 7) rfl hF
  clear hF hr
  go_enter Try.func87, Try.ntmps87
  go_wp2_with fail
  refine hp.mono ?_
  rintro e w1 ⟨rfl, rfl⟩
  go_wp2_with fail
  exact bodyPost_ret (v := .int .i64 13) (by simp [results, Try.results87, go_sem]) rfl ⟨Below.refl _ _, rfl⟩
 ·have hr : resolveP m = .inl ({ m with origs := xs, leads := m.leads ++ ([⟨x, m.at_⟩] : List Ld) }.add 178) := by unfold resolveP; rw [ho, Uq]
  rw [hr]
  have hF : (mkF base prims m)[7]? = some (rowF (Kd.int .i64) 3 base (xs ++ [x])) := by rw [← ho]; rfl
  obtain ⟨v, hv⟩ : ∃ v, vs[7]? = some v := ⟨_, List.getElem?_eq_getElem ZZ⟩
  have hp := h.st.pop hv hF
  clear hF hr hv
  go_enter Try.func87, Try.ntmps87
  go_wp2_with fail
  refine hp.mono ?_
  rintro e w1 ⟨rfl, v', hst, hB1⟩
  have h1 : Mx w1 base g prims o (vs.set 7 v') { m with origs := xs } := ⟨hst, (by rw [List.length_set]; exact h.len)⟩
  have hgb := h.st.hb
  clear hst h hp
  generalize hm1 : ({ m with origs := xs } : Mk) = m1 at h1
  have hmo := Aside0.mk (show m1.out = m.out by rw [← hm1])
  have hml := Aside0.mk (show m1.leads = m.leads by rw [← hm1])
  generalize vs.set 7 v' = vs1 at h1
  obtain ⟨v0, A1, c1, b, A7, c7, A8, c8, A9, c9, A10, c10, A11, c11, rfl⟩ := h1.cells
  have hS : w1.cell? ⟨g, 11, none⟩ = some (.slice A11 m1.leads.length c11) ∧ w1.cell? ⟨g, 1, none⟩ = some (.slice A1 m1.out.length c1) := ⟨h1.st.cell 11 rfl, h1.st.cell 1 rfl⟩
  go_wp2_with fail
  refine Yam (n := 17) (S := fun w' => w'.cell? ⟨g, 11, none⟩ = some (.slice A11 m1.leads.length c11) ∧ w'.cell? ⟨g, 1, none⟩ = some (.slice A1 m1.out.length c1)) (ds := [16]) #[false, false, false, false, false, false, false, false, false, false, false, false, false, false, false, false, false] Z2 rfl rfl (hS) (fun hHeld => ?_)
  refine Jj (rfl : rtab .any (Yaw Try.f87 4) = rtab .any (Yaw Try.f87 4)) (fun HT_ => ?_)
  have hd := h1.below (YY (Below.refl _ _))
  have hBd : Below w1.heap.size w1 w1.drew := YY (Below.refl _ _)
  generalize w1.drew = wa at hd hBd hHeld ⊢
  refine Xr (i := 0) (N := some 14) (v := ?_) (a' := ?_) #[true, false, false, false, false, false, false, false, false, false, false, false, false, false, false, false, false] rfl rfl (any_of HT_.out Z2) (fun _ _ _ h => h) (Or.inl ⟨Z7, ?_⟩) ?_ ?_
  rotate_left
  ·intro w'
   go_simp
   with_reducible rfl
  rotate_left
  ·simp only [Act.put, List.setIfInBounds_toArray, List.set_cons_zero, List.set_cons_succ, YH, YJ]
   rfl
  refine Xr (i := 1) (N := some 15) (v := ?_) (a' := ?_) #[true, true, false, false, false, false, false, false, false, false, false, false, false, false, false, false, false] rfl rfl (any_of HT_.out Z2) (fun _ _ _ h => h) (Or.inl ⟨Z7, ?_⟩) ?_ ?_
  rotate_left
  ·intro w'
   go_simp
   with_reducible rfl
  rotate_left
  ·simp only [Act.put, List.setIfInBounds_toArray, List.set_cons_zero, List.set_cons_succ, YH, YJ]
   rfl
  refine Xr (i := 2) (N := some 16) (v := ?_) (a' := ?_) #[true, true, true, false, false, false, false, false, false, false, false, false, false, false, false, false, false] rfl rfl (any_of HT_.out Z2) (fun _ _ _ h => h) (Or.inl ⟨Z7, ?_⟩) ?_ ?_
  rotate_left
  ·intro w'
   go_simp
   with_reducible rfl
  rotate_left
  ·simp only [Act.put, List.setIfInBounds_toArray, List.set_cons_zero, List.set_cons_succ, YH, YJ]
   rfl
  refine Xr (i := 3) (N := some 17) (v := ?_) (a' := ?_) #[true, true, true, true, false, false, false, false, false, false, false, false, false, false, false, false, false] rfl rfl (any_of HT_.out Z2) (fun _ _ _ h => h) (Or.inl ⟨Z7, ?_⟩) ?_ ?_
  rotate_left
  ·intro w'
   go_simp
   with_reducible rfl
  rotate_left
  ·simp only [Act.put, List.setIfInBounds_toArray, List.set_cons_zero, List.set_cons_succ, YH, YJ]
   rfl
  refine Xr (i := 5) (N := some 19) (v := ?_) (a' := ?_) #[true, true, true, true, false, true, false, false, false, false, false, false, false, false, false, false, false] rfl rfl (any_of HT_.out Z2) (fun _ _ _ h => h) (Or.inl ⟨Z7, ?_⟩) ?_ ?_
  rotate_left
  ·intro w'
   go_simp
   with_reducible rfl
  rotate_left
  ·simp only [Act.put, List.setIfInBounds_toArray, List.set_cons_zero, List.set_cons_succ, YH, YJ]
   rfl
  refine Xr (i := 6) (N := some 20) (v := ?_) (a' := ?_) #[true, true, true, true, false, true, true, false, false, false, false, false, false, false, false, false, false] rfl rfl (any_of HT_.out Z2) (fun _ _ _ h => h) (Or.inl ⟨Z7, ?_⟩) ?_ ?_
  rotate_left
  ·intro w'
   go_simp
   with_reducible rfl
  rotate_left
  ·simp only [Act.put, List.setIfInBounds_toArray, List.set_cons_zero, List.set_cons_succ, YH, YJ]
   rfl
  refine Xr (i := 7) (N := some 21) (v := ?_) (a' := ?_) #[true, true, true, true, false, true, true, true, false, false, false, false, false, false, false, false, false] rfl rfl (any_of HT_.out Z2) (fun _ _ _ h => h) (Or.inl ⟨Z7, ?_⟩) ?_ ?_
  rotate_left
  ·intro w'
   go_simp
   with_reducible rfl
  rotate_left
  ·simp only [Act.put, List.setIfInBounds_toArray, List.set_cons_zero, List.set_cons_succ, YH, YJ]
   rfl
  refine Xr (i := 8) (N := some 22) (v := ?_) (a' := ?_) #[true, true, true, true, false, true, true, true, true, false, false, false, false, false, false, false, false] rfl rfl (any_of HT_.out Z2) (fun _ _ _ h => h) (Or.inl ⟨Z7, ?_⟩) ?_ ?_
  rotate_left
  ·intro w'
   go_simp
   with_reducible rfl
  rotate_left
  ·simp only [Act.put, List.setIfInBounds_toArray, List.set_cons_zero, List.set_cons_succ, YH, YJ]
   rfl
  refine take_ (i := 4) (N := some 18) (v := ?_) (a' := ?_) #[true, true, true, true, true, true, true, true, true, false, false, false, false, false, false, false, false] rfl rfl (take_of HT_.out Z2) (fun _ _ _ h => h) (Or.inl ⟨Z7, ?_⟩) hHeld ?_ ?_
  rotate_left
  ·rintro w' hS; go_split_ands
   go_simp
   with_reducible rfl
  rotate_left
  ·simp only [Act.put, List.setIfInBounds_toArray, List.set_cons_zero, List.set_cons_succ, YH, YJ]
   rfl
  refine take_ (i := 9) (N := some 23) (v := ?_) (a' := ?_) #[true, true, true, true, true, true, true, true, true, true, false, false, false, false, false, false, false] rfl rfl (take_of HT_.out Z2) (fun _ _ _ h => h) (Or.inl ⟨Z7, ?_⟩) hHeld ?_ ?_
  rotate_left
  ·rintro w' hS; go_split_ands
   go_simp
   with_reducible rfl
  rotate_left
  ·simp only [Act.put, List.setIfInBounds_toArray, List.set_cons_zero, List.set_cons_succ, YH, YJ]
   rfl
  refine Xr (i := 10) (N := some 24) (v := ?_) (a' := ?_) #[true, true, true, true, true, true, true, true, true, true, true, false, false, false, false, false, false] rfl rfl (any_of HT_.out Z2) (fun _ _ _ h => h) (Or.inl ⟨Z7, ?_⟩) ?_ ?_
  rotate_left
  ·intro w'
   go_simp
   with_reducible rfl
  rotate_left
  ·simp only [Act.put, List.setIfInBounds_toArray, List.set_cons_zero, List.set_cons_succ, YH, YJ]
   rfl
  refine Xr (i := 11) (N := some 25) (v := ?_) (a' := ?_) #[true, true, true, true, true, true, true, true, true, true, true, true, false, false, false, false, false] rfl rfl (any_of HT_.out Z2) (fun _ _ _ h => h) (Or.inl ⟨Z7, ?_⟩) ?_ ?_
  rotate_left
  ·intro w'
   go_simp
   with_reducible rfl
  rotate_left
  ·simp only [Act.put, List.setIfInBounds_toArray, List.set_cons_zero, List.set_cons_succ, YH, YJ]
   rfl
  refine one_ (i := 12) (N := some 26) #[true, true, true, true, true, true, true, true, true, true, true, true, true, false, false, false, false] rfl rfl (VM HT_.out Z2) Z1 (fun K hK => ?_)
  refine JR (w1 := ?_) (v := ?_) Z7 rfl ?_ ?_
  rotate_left 2
  ·go_simp
   constructor
   ·rfl
   ·rfl
  have hS : (wa.alloc (.cells #[.int .i64 x, .int .i64 m1.out.length] 101)).cell? ⟨g, 11, none⟩ = some (.slice A11 m1.leads.length c11) ∧ (wa.alloc (.cells #[.int .i64 x, .int .i64 m1.out.length] 101)).cell? ⟨g, 1, none⟩ = some (.slice A1 m1.out.length c1) := ⟨(hd.below (Yc (Below.refl _ _) _)).st.cell 11 rfl, (hd.below (Yc (Below.refl _ _) _)).st.cell 1 rfl⟩
  refine hK.out _ _ (hS) (fun hHeld => ?_)
  clear hK K
  refine Jd (a' := ?_) ?_ ?_
  rotate_left
  ·show Act.put _ (some 26) _ = _
   simp only [Act.put, List.setIfInBounds_toArray, List.set_cons_zero, List.set_cons_succ, YH, YJ]
   rfl
  refine one_ (i := 13) (N := some 27) #[true, true, true, true, true, true, true, true, true, true, true, true, true, true, false, false, false] rfl rfl (VM HT_.out Z2) Z1 (fun K hK => ?_)
  refine St.pushD (d := k77) (e := 101) (i := 11) hd.st rfl rfl (⟨x, m1.out.length⟩ : S77) [.int .i64 x, .int .i64 m1.out.length] (fun _ => False) rfl Try.underlying55 JH rfl Z1 Z1 rfl rfl rfl rfl (JF _ _ _ _) (by rw [hml.out]; omega) ?_
  rintro v2 w2 ⟨hst, hB2, ⟨A2, c2, rfl⟩, hb2, hg2⟩
  have hz : (m1.leads ++ [(⟨x, m1.out.length⟩ : S77)]).length = m1.leads.length + 1 := by simp
  rw [hz] at hst ⊢
  have hS : w2.cell? ⟨g, 11, none⟩ = some (.slice A11 m1.leads.length c11) ∧ w2.cell? ⟨g, 1, none⟩ = some (.slice A1 m1.out.length c1) := ⟨(Ya hb2 11).trans rfl, (Ya hb2 1).trans rfl⟩
  have hf := Yf hb2 11
  have hcc := hS.1
  refine hK.out _ _ (hS) (fun hHeld => ?_)
  clear hK K
  refine Jd (a' := ?_) ?_ ?_
  rotate_left
  ·show Act.put _ (some 27) _ = _
   simp only [Act.put, List.setIfInBounds_toArray, List.set_cons_zero, List.set_cons_succ, YH, YJ]
   rfl
  refine Xr (i := 14) (N := some 28) (v := ?_) (a' := ?_) #[true, true, true, true, true, true, true, true, true, true, true, true, true, true, true, false, false] rfl rfl (any_of HT_.out Z2) (fun _ _ _ h => h) (Or.inl ⟨Z7, ?_⟩) ?_ ?_
  rotate_left
  ·intro w'
   go_simp
   with_reducible rfl
  rotate_left
  ·simp only [Act.put, List.setIfInBounds_toArray, List.set_cons_zero, List.set_cons_succ, YH, YJ]
   rfl
  refine Xr (i := 15) (N := some 29) (v := ?_) (a' := ?_) #[true, true, true, true, true, true, true, true, true, true, true, true, true, true, true, true, false] rfl rfl (any_of HT_.out Z2) (fun _ _ _ h => h) (Or.inl ⟨Z7, ?_⟩) ?_ ?_
  rotate_left
  ·intro w'
   go_simp
   with_reducible rfl
  rotate_left
  ·simp only [Act.put, List.setIfInBounds_toArray, List.set_cons_zero, List.set_cons_succ, YH, YJ]
   rfl
  refine YcM (i := 16) (N := none) #[true, true, true, true, true, true, true, true, true, true, true, true, true, true, true, true, true] rfl rfl (VM HT_.out Z2) Z1 (fun K hK => ?_)
  go_simp
  refine hK.out _ _ ?_
  clear hK K
  refine Ycm (UM HT_.out Z2) ?_
  clear HT_ hHeld
  have hB3 : Below base w (w2.setCell ⟨g, 11, none⟩ (.slice A2 (m1.leads.length + 1) c2)) := Below.setCell (Below.trans hB1 (Below.trans (Below.mono hBd h1.st.base_le) hB2)) hgb _
  have h2 : Mx _ base g prims _ _ { m1 with leads := m1.leads ++ ([⟨x, m1.out.length⟩] : List Ld) } := ⟨hst, rfl⟩
  go_wp2_with fail
  refine (YW h2 178 0 ⟨#[]⟩ (by show m1.out.length < _; rw [hmo.out]; exact hl)).mono ?_
  rintro e w4 ⟨rfl, hB4, o4, vs4, h4⟩
  go_wp2_with fail
  refine bodyPost_ret (v := .int .i64 0) (by simp [results, Try.results87, go_sem]) rfl ⟨hB3.trans hB4, rfl, o4, vs4, ?_⟩
  subst hm1
  exact h4
end
end Go.Proofs.Ytehmhgpogpbjiaa.Fcc
