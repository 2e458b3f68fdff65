/- FccWords: the two rows that its loop makes, and what is appended to them. -/
import Derived.Test.Ytehmhgpogpbjiaafw24
import Derived.Test.YtehmhgpogpbjiaaRows
import Derived.Deep.Slices
import Derived.Deep.Strs
import Derived.ChangeArms
import Derived.DataReads
namespace Go.Proofs.Ytehmhgpogpbjiaa.Fcc
open Go.RowKit Go.Proofs.Ytehmhgpogpbjiaa Go.Proofs.YtehmhgpogpbjiaaW.PrintWords Go.Proofs.YtehmhgpogpbjiaaW.PrintLast Go.Proofs.YtehmhgpogpbjiaaW.PrintMore Go.Proofs.Ytehmhgpogpbjiaa.PFccTokens
set_option linter.unusedVariables false
set_option linter.unusedSimpArgs false
/-- The text's bytes and the tokens that are wanted, in rows of the call's own. -/
structure TW (base : Nat) (w0 w : World) (v6 v7 : Value) (b : List Int) (l : List S37) : Prop where
  r6 : Kd.R (Kd.int .u8) 5 w base (fun _ => True) v6 b
  r7 : Kd.R k37 37 w base (fun _ => True) v7 l
  bel : Below base w0 w
  le : base ≤ w0.heap.size
section
variable {base : Nat} {w0 w w1 : World} {v6 v7 : Value} {b : List Int} {l : List S37}
theorem TW.below (h : TW base w0 w v6 v7 b l) (hb : Below w.heap.size w w1) : TW base w0 w1 v6 v7 b l :=
  ⟨Kd.R_below h.r6 hb, Kd.R_below h.r7 hb, h.bel.trans (hb.mono (Nat.le_trans h.le h.bel.size)), h.le⟩
theorem TW.alloc (h : TW base w0 w v6 v7 b l) (o : Obj) : TW base w0 (w.alloc o) v6 v7 b l := h.below (below_alloc (Below.refl _ _) o)
theorem TW.text {ys : List Int} {v : Value} (h : TW base w0 w v6 v7 b l) (hR : Kd.R (Kd.int .u8) 5 w1 base (fun _ => True) v ys) (hg : w.grownBy w1 v6.ownBlock) (hB : Below base w0 w1) : TW base w0 w1 v v7 ys l :=
  ⟨hR, Kd.R_over h.r7 h.r6 (by intro q hq; rcases List.mem_cons.1 hq with rfl | hq; decide; cases hq) hg, hB, h.le⟩
theorem TW.toks {ys : List S37} {v : Value} (h : TW base w0 w v6 v7 b l) (hR : Kd.R k37 37 w1 base (fun _ => True) v ys) (hg : w.grownBy w1 v7.ownBlock) (hB : Below base w0 w1) : TW base w0 w1 v6 v b ys :=
  ⟨Kd.R_over h.r6 h.r7 (by intro q hq; rcases List.mem_cons.1 hq with rfl | hq; decide; cases hq) hg, hR, hB, h.le⟩
/-- What an append leaves. -/
structure TN (base : Nat) (w0 w w' : World) (v6 v7 : Value) (b : List Int) (l : List S37) : Prop where
  tw : TW base w0 w' v6 v7 b l
  sl6 : ∃ A n c, v6 = .slice A n c
  sl7 : ∃ A n c, v7 = .slice A n c
  keep : ∀ (k : Nat) (cells : Array Value), w.heap[k]? = some (Obj.cells cells 34 (0, 0)) → w'.heap[k]? = some (Obj.cells cells 34 (0, 0))
theorem TW.made (h : TW base w0 w v6 v7 b l) (hk : ∀ (k : Nat) (cells : Array Value), w1.heap[k]? = some (Obj.cells cells 34 (0, 0)) → w.heap[k]? = some (Obj.cells cells 34 (0, 0))) : TN base w0 w1 w v6 v7 b l := by
  obtain ⟨A, c, rfl⟩ := Kd.R_slice h.r6
  obtain ⟨A', c', rfl⟩ := Kd.R_slice h.r7
  exact ⟨h, ⟨_, _, _, rfl⟩, ⟨_, _, _, rfl⟩, hk⟩
theorem keep34 {α : Type} {d : Kd α} {e : Nat} {v : Value} {xs : List α} (hR : Kd.R d e w base (fun _ => True) v xs) (he : e ≠ 34) (hg : w.grownBy w1 v.ownBlock) : ∀ (k : Nat) (cells : Array Value), w.heap[k]? = some (Obj.cells cells 34 (0, 0)) → w1.heap[k]? = some (Obj.cells cells 34 (0, 0)) :=
  fun k cells hk => blk_grown hk hg (Kd.R_ne hR hk he)
variable {ops : Array Oper} {rest : List Oper} {Q : Exit → Act → World → Prop} {a : Act} {q : Oper} {s x : Operand}
/-- A text's bytes more. -/
theorem TW.str (h : TW base w0 w v6 v7 b l) (hgd : q.guard = none) (hq : q.op = .call { callee := .builtin .append, args := #[s, x], argTypes := #[29, 9] }) (hs : a.eval s = v6) (t : ByteArray) (hx : a.eval x = .string t) (hl : b.length < 1000000) (ht : t.size < 1000000)
    (k : ∀ v w', TN base w0 w w' v v7 (b ++ bytesOf t) l → wpList Try.prog ops Q rest (a.put q.dst v) w') : wpList Try.prog ops Q (q :: rest) a w := by
  obtain ⟨i0, hi, hz0, hz1, hz2⟩ := info_parts info5
  have hR := (R_nums.1 h.r6).2
  have hmx : maxLen = 9223372036854775807 := rfl
  have hbb := Nat.le_trans h.le h.bel.size
  refine Lib.wpList_append_own_string w hgd _ _ 29 9 hq base 5 i0 Try.underlying29 Try.underlying9 hi hz0 hz1 hz2 _ _ _ hs hR t hx (by omega) (by omega) hbb ?_
  intro v3 w3 hR3 hg3 _
  have hc3 : nums .u8 b ++ Lib.strCells t = nums .u8 (b ++ bytesOf t) := by
    have : Lib.strCells t = nums .u8 (bytesOf t) := by simp [nums, bytesOf, Lib.strCells]
    rw [this, ← nums_append]
  have hl3 : b.length + t.size = (b ++ bytesOf t).length := by simp [bytesOf_length]
  rw [hc3, hl3] at hR3
  exact k v3 w3 ((h.text (R_nums.2 ⟨fun _ _ => trivial, hR3⟩) hg3 (Below.grown h.bel hg3 hbb (fun k hk => own_base hR k hk))).made (keep34 h.r6 (by decide) hg3))
/-- A byte more. -/
theorem TW.byte (h : TW base w0 w v6 v7 b l) (n : Int) (hgd : q.guard = none) (hq : q.op = .call { callee := .builtin .append, args := #[s, x], argTypes := #[29, 29] }) (hs : a.eval s = v6) (hx : a.eval x = .slice (some ⟨w.heap.size, 0, none⟩) 1 1) (hl : b.length < 1000000)
    (k : ∀ v w', TN base w0 w w' v v7 (b ++ [n]) l → wpList Try.prog ops Q rest (a.put q.dst v) w') : wpList Try.prog ops Q (q :: rest) a (w.alloc (.cells #[.int .u8 n] 5)) := by
  have hbb := Nat.le_trans h.le h.bel.size
  refine Kd.R_append (Kd.int .u8) (w0 := w0) (W := w) base hgd s x 29 5 (.int .u8 0) 1 hq Try.underlying29 info5 rfl (by decide) (by decide) v6 b n [.int .u8 n] (fun _ => True) (fun _ => False) hs hx rfl (fun _ hk => hk.elim) (fun _ _ => trivial) h.r6 h.bel hbb (by omega) ?_
  intro v w' hR hB hg _
  exact k v w' ((h.text hR hg hB).made (keep34 h.r6 (by decide) hg))
/-- Two bytes more. -/
theorem TW.two (h : TW base w0 w v6 v7 b l) (m n : Int) (hgd : q.guard = none) (hq : q.op = .call { callee := .builtin .append, args := #[s, x], argTypes := #[29, 29] }) (hs : a.eval s = v6) (hx : a.eval x = .slice (some ⟨w.heap.size, 0, none⟩) 2 2) (hl : b.length < 1000000)
    (k : ∀ v w', TN base w0 w w' v v7 (b ++ [m, n]) l → wpList Try.prog ops Q rest (a.put q.dst v) w') : wpList Try.prog ops Q (q :: rest) a (w.alloc (.cells #[.int .u8 m, .int .u8 n] 5)) := by
  have h1 := h.alloc (.cells #[.int .u8 m, .int .u8 n] 5)
  have hLC := lit_C (Kd.int .u8) 5 w [m, n] [.int .u8 m, .int .u8 n] (by simp) (bytes2 _ _ _)
  have hbb := Nat.le_trans h1.le h1.bel.size
  refine Kd.R_append_rows (Kd.int .u8) (Rr := (Kd.int .u8).K (w.alloc (.cells #[.int .u8 m, .int .u8 n] 5))) (w0 := w0) base hgd s x 29 5 (.int .u8 0) 1 hq Try.underlying29 info5 rfl (by decide) (by decide) v6 b [m, n] _ 2 2 (fun _ => True) (fun _ => False) hs hx h1.r6 hLC (fun _ _ h => h) (fun _ hk => hk.elim) (fun _ _ => trivial) h1.bel hbb (by omega) ?_
  intro v w' hR hB hg _
  exact k v w' ((h1.text hR hg hB).made (fun g cells hk => keep34 h1.r6 (by decide) hg g cells (blk_alloc hk _)))
/-- A token more. -/
theorem TW.tokG (h : TW base w0 w v6 v7 b l) (c n : Int) (t : ByteArray) (f : Int) (hgd : Region.wanted q (yielded ops a.tmps) = true ∧ q.guard = none ∨ q.guard = none) (hq : q.op = .call { callee := .builtin .append, args := #[s, x], argTypes := #[23, 23] }) (hs : a.eval s = v7) (hx : a.eval x = .slice (some ⟨w.heap.size, 0, none⟩) 1 1) (hl : l.length < 1000000)
    (k : ∀ v w', TN base w0 w w' v6 v b (l ++ [(⟨c, n, t, f⟩ : S37)]) → w.grownBy w' v7.ownBlock → wpList Try.prog ops Q rest (a.put q.dst v) w') : wpList Try.prog ops Q (q :: rest) a (w.alloc (.cells #[.int .i64 c, .int .u32 n, .string t, .int .i64 f] 37)) := by
  have hbb := Nat.le_trans h.le h.bel.size
  refine Kd.R_append k37 (w0 := w0) (W := w) base (hgd.elim (·.2) id) s x 23 37 _ 40 hq Try.underlying23 info37 rfl (by decide) (by decide) v7 l (⟨c, n, t, f⟩ : S37) [.int .i64 c, .int .u32 n, .string t, .int .i64 f] (fun _ => True) (fun _ => False) hs hx (k37_mkM _ _ _ _) (fun _ hk => hk.elim) (fun _ _ => trivial) h.r7 h.bel hbb (by omega) ?_
  intro v w' hR hB hg _
  exact k v w' ((h.toks hR hg hB).made (keep34 h.r7 (by decide) hg)) hg
theorem TW.tokW (h : TW base w0 w v6 v7 b l) (c n : Int) (t : ByteArray) (f : Int) (hw : Region.wanted q (yielded ops a.tmps) = true) (hq : q.op = .call { callee := .builtin .append, args := #[s, x], argTypes := #[23, 23] }) (hs : a.eval s = v7) (hx : a.eval x = .slice (some ⟨w.heap.size, 0, none⟩) 1 1) (hl : l.length < 1000000)
    (k : ∀ v w', TN base w0 w w' v6 v b (l ++ [(⟨c, n, t, f⟩ : S37)]) → w.grownBy w' v7.ownBlock → wpList Try.prog ops Q rest (a.put q.dst v) w') : wpList Try.prog ops Q (q :: rest) a (w.alloc (.cells #[.int .i64 c, .int .u32 n, .string t, .int .i64 f] 37)) := by
  have hbb := Nat.le_trans h.le h.bel.size
  have hs := Kd.R_append_step (P := Try.prog) (Q := Q) (Kc := wpList Try.prog ops Q rest) (ops := ops) (a := a) (o := q) k37 (w0 := w0) (W := w) base hw s x 23 37 _ 40 hq Try.underlying23 info37 rfl (by decide) (by decide) v7 l (⟨c, n, t, f⟩ : S37) [.int .i64 c, .int .u32 n, .string t, .int .i64 f] (fun _ => True) (fun _ => False) hs hx (k37_mkM _ _ _ _) (fun _ hk => hk.elim) (fun _ _ => trivial) h.r7 h.bel hbb (by omega) (by
    intro v w' hR hB hg _
    exact k v w' ((h.toks hR hg hB).made (keep34 h.r7 (by decide) hg)) hg)
  rw [if_pos hw] at hs
  unfold wpList
  rw [if_pos hw]
  exact .inl hs
theorem TW.tok (h : TW base w0 w v6 v7 b l) (c n : Int) (t : ByteArray) (f : Int) (hgd : q.guard = none) (hq : q.op = .call { callee := .builtin .append, args := #[s, x], argTypes := #[23, 23] }) (hs : a.eval s = v7) (hx : a.eval x = .slice (some ⟨w.heap.size, 0, none⟩) 1 1) (hl : l.length < 1000000)
    (k : ∀ v w', TN base w0 w w' v6 v b (l ++ [(⟨c, n, t, f⟩ : S37)]) → wpList Try.prog ops Q rest (a.put q.dst v) w') : wpList Try.prog ops Q (q :: rest) a (w.alloc (.cells #[.int .i64 c, .int .u32 n, .string t, .int .i64 f] 37)) :=
  h.tokG c n t f (.inr hgd) hq hs hx hl (fun v w' h1 _ => k v w' h1)
end
/-- Bytes as numbers. -/
def nats (l : List UInt8) : List Int := l.map fun c => (c.toNat : Int)
theorem nats_append (a b : List UInt8) : nats (a ++ b) = nats a ++ nats b := List.map_append
theorem nats_str (l : List UInt8) : strOfNums (nats l) = byt l := by
  unfold strOfNums nats byt
  congr 1
  rw [List.map_map]
  have : ((fun n : Int => UInt8.ofNat n.toNat) ∘ fun c : UInt8 => (c.toNat : Int)) = id := by funext c; simp
  rw [this, List.map_id]
end Go.Proofs.Ytehmhgpogpbjiaa.Fcc

/- FccWords: how text and tokens grow. -/
namespace Go.Proofs.Ytehmhgpogpbjiaa.Fcc
open Go.RowKit Go.Proofs.Ytehmhgpogpbjiaa Go.Proofs.YtehmhgpogpbjiaaW.PrintWords Go.Proofs.YtehmhgpogpbjiaaW.PrintLast Go.Proofs.YtehmhgpogpbjiaaW.PrintMore Go.Proofs.Ytehmhgpogpbjiaa.PFccTokens
set_option linter.unusedVariables false
set_option linter.unusedSimpArgs false
theorem itemsL_succ (l0 l1 : List Int) (k : Nat) : itemsL l0 l1 (k + 1) = itemsL l0 l1 k ++ itemAt l0 l1 k := by
  unfold itemsL
  rw [List.range_succ, List.flatMap_append]
  simp
theorem itemsT_append (a b : List (List UInt8 × UInt8)) : itemsT (a ++ b) = itemsT a ++ itemsT b := by simp [itemsT]
/-- A round without a number. -/
theorem text_one (l0 l1 : List Int) (k : Nat) (h : ¬ k < l1.length) : nats (textL l0 l1 (k + 1)) = nats (textL l0 l1 k) ++ bytesOf (primAt l0 k).f0 ++ [32] := by
  unfold textL
  rw [itemsL_succ, List.map_append, itemsT_append, nats_append]
  unfold itemAt
  rw [if_neg h]
  simp [itemsT, nats, bytesOf]
theorem toks_one (l0 l1 : List Int) (k : Nat) (h : ¬ k < l1.length) : toksL l0 l1 (k + 1) = toksL l0 l1 k ++ [(⟨(primAt l0 k).f1, 0, emp, 0⟩ : S37)] := by
  unfold toksL
  rw [itemsL_succ, List.map_append]
  unfold itemAt
  rw [if_neg h]
  rfl
/-- A number's eight digits. -/
def hexI (n : Int) : List Int := [((hexd (nib n 268435456).val).toNat : Int), ((hexd (nib n 16777216).val).toNat : Int), ((hexd (nib n 1048576).val).toNat : Int), ((hexd (nib n 65536).val).toNat : Int), ((hexd (nib n 4096).val).toNat : Int), ((hexd (nib n 256).val).toNat : Int), ((hexd (nib n 16).val).toNat : Int), ((hexd (nib n 1).val).toNat : Int)]
theorem text_two (l0 l1 : List Int) (k : Nat) (h : k < l1.length) : nats (textL l0 l1 (k + 1)) = nats (textL l0 l1 k) ++ bytesOf (primAt l0 k).f0 ++ [32] ++ [104, 35] ++ hexI (l1.getD k 0) ++ [10] := by
  unfold textL
  rw [itemsL_succ, List.map_append, itemsT_append, nats_append]
  unfold itemAt
  rw [if_pos h]
  simp [itemsT, nats, bytesOf, hexN, hexW, hexI]
theorem toks_two (l0 l1 : List Int) (k : Nat) (h : k < l1.length) : toksL l0 l1 (k + 1) = toksL l0 l1 k ++ [(⟨(primAt l0 k).f1, 0, emp, 0⟩ : S37)] ++ [(⟨16, l1.getD k 0, emp, 0⟩ : S37)] := by
  unfold toksL
  rw [itemsL_succ, List.map_append]
  unfold itemAt
  rw [if_pos h]
  simp
theorem toks_len (l0 l1 : List Int) (k : Nat) : (toksL l0 l1 k).length ≤ 2 * k := by
  induction k with
  | zero => simp [toksL, itemsL]
  | succ k ih =>
    by_cases h : k < l1.length
    · rw [toks_two _ _ _ h]; simp; omega
    · rw [toks_one _ _ _ h]; simp; omega
theorem nats_len (l : List UInt8) : (nats l).length = l.length := List.length_map _
def hexS : ByteArray := ⟨#[48, 49, 50, 51, 52, 53, 54, 55, 56, 57, 97, 98, 99, 100, 101, 102]⟩
theorem hexG : ∀ d : Fin 16, ((hexS[d.val]'(show d.val < 16 from d.isLt)).toNat : Nat) = (hexd d.val).toNat := by decide +kernel
theorem hex_get (n k : Int) (h : (n / k % 16).toNat < 16) : (((hexS[(n / k % 16).toNat]'h).toNat : Nat) : Int) = ((hexd (nib n k).val).toNat : Int) := by
  have := hexG (nib n k)
  exact congrArg (Nat.cast : Nat → Int) this
theorem hex_getM (n k m : Int) (hm : n / k % 16 = m) (h : m.toNat < 16) : (((hexS[m.toNat]'h).toNat : Nat) : Int) = ((hexd (nib n k).val).toNat : Int) := by
  subst hm
  exact hex_get n k h
theorem hex_get1 (n : Int) (h : (n % 16).toNat < 16) : (((hexS[(n % 16).toNat]'h).toNat : Nat) : Int) = ((hexd (nib n 1).val).toNat : Int) := hex_getM n 1 _ (by rw [Int.ediv_one]) h
/-- The text so far, with the first digits of a number. -/
def pre (B : List Int) (y : Int) (j : Nat) : List Int := B ++ (hexI y).take j
theorem pre_zero (B : List Int) (y : Int) : pre B y 0 = B := by simp [pre]
theorem pre_eight (B : List Int) (y : Int) : pre B y 8 = B ++ hexI y := rfl
theorem pre_succ (B : List Int) (y : Int) (j : Nat) (d : Int) (hd : (hexI y)[j]? = some d) : pre B y j ++ [d] = pre B y (j + 1) := by
  unfold pre
  rw [List.take_add_one, hd, List.append_assoc]; rfl
theorem pre_len (B : List Int) (y : Int) (j : Nat) : (pre B y j).length ≤ B.length + 8 := by
  unfold pre
  have : (hexI y).length = 8 := rfl
  rw [List.length_append, List.length_take]; omega
/-- An element of a row of numbers. -/
theorem int_at {q : IntKind} {w : World} {A : Option Addr} {n : Nat} {xs : List Int} (h : (Kd.int q).C w A n xs) (i : Nat) (hi : i < n) : ∃ ad, A = some ad ∧ w.cell? (ad.add i) = some (.int q (xs.getD i 0)) := by
  obtain ⟨ad, c, e, _, hK, hc⟩ := Kd.C_get h 0 (i : Int) (by omega) (by omega)
  have hc' : c = [.int q (xs.getD (i : Int).toNat 0)] := hK
  subst hc'
  have := hc 0 _ rfl
  refine ⟨ad, e, ?_⟩
  rw [Int.toNat_natCast] at this
  rwa [show i * (Kd.int q).sz + 0 = i by show i * 1 + 0 = i; omega] at this
end Go.Proofs.Ytehmhgpogpbjiaa.Fcc

/- FccWords (4): its walk. -/
namespace Go.Proofs.Ytehmhgpogpbjiaa.Fcc
open Go.RowKit Go.Proofs.Ytehmhgpogpbjiaa Go.Proofs.YtehmhgpogpbjiaaW.PrintWords Go.Proofs.YtehmhgpogpbjiaaW.PrintLast Go.Proofs.YtehmhgpogpbjiaaW.PrintMore Go.Proofs.Ytehmhgpogpbjiaa.PFccTokens
set_option linter.unusedVariables false
set_option linter.unusedSimpArgs false
set_option maxRecDepth 100000
set_option maxHeartbeats 4000000 in
theorem fccWords_calls (A0 A1 : Option Addr) (c0 c1 : Nat) (l0 l1 : List Int) (w : World) (h0 : Kd.C (Kd.int .u8) w A0 l0.length l0) (h1 : Kd.C (Kd.int .u32) w A1 l1.length l1) (b0 : ∀ i, 0 ≤ l0.getD i 0 ∧ l0.getD i 0 < 256) (b1 : ∀ i, 0 ≤ l1.getD i 0 ∧ l1.getD i 0 < 4294967296) :
    Calls Try.prog 4 #[.slice A0 l0.length c0, .slice A1 l1.length c1] w fun e W' => e = .returned (.bool true) ∧ Below w.heap.size w W' := by
  have ha := Aside0.mk (alive_calls w)
  have b0' := Aside0.mk b0
  have b1' := Aside0.mk b1
  clear b0 b1
  have h0' := Aside0.mk h0
  have h1' := Aside0.mk h1
  clear h0 h1
  go_enter Try.func4, Try.ntmps4
  go_wp2_with fail
  refine ha.out.mono ?_
  rintro e w1 ⟨rfl, hB1⟩
  replace hB1 := Aside0.mk hB1
  go_wp2_with fail
  refine (rprims_contract w1).mono ?_
  rintro e w2 ⟨v, rfl, hP, hB2⟩
  obtain ⟨Ap, cp, rfl, hcp, hPC⟩ := Kd.R_reads hP
  have hlen : primsL.length = 111 := rfl
  rw [hlen] at hPC hcp ⊢
  have hBp := hB1.out.trans (hB2.mono hB1.out.size)
  have H0 := Aside0.mk (Kd.C_below h0'.out hBp)
  have H1 := Aside0.mk (Kd.C_below h1'.out hBp)
  replace hBp := Aside0.mk hBp
  replace hPC := Aside0.mk hPC
  have hT0 : TW w2.heap.size w2 w2 (.slice none 0 0) (.slice none 0 0) (nats (textL l0 l1 0)) (toksL l0 l1 0) := ⟨Kd.R_nil _ _ _ _ _, Kd.R_nil _ _ _ _ _, Below.refl _ _, Nat.le_refl _⟩
  replace hT0 := Aside0.mk hT0
  clear hP hB2 hlen hB1 ha h0' h1'
  go_wp2_with fail
  go_loopg [6, 7, 8] 100 (fun gg s6 s7 s8 wr => ∃ (kk : Nat) (A6 : Option Addr) (n6 c6 : Nat) (A7 : Option Addr) (n7 c7 : Nat), kk ≤ 100 ∧ kk ≤ l0.length ∧ 100 - kk ≤ gg ∧ s6 = .slice A6 n6 c6 ∧ s7 = .slice A7 n7 c7 ∧ s8 = .int .i64 kk ∧ Aside0 (TW w2.heap.size w2 wr (.slice A6 n6 c6) (.slice A7 n7 c7) (nats (textL l0 l1 kk)) (toksL l0 l1 kk)))
  case atStart => exact ⟨0, none, 0, 0, none, 0, 0, by omega, by omega, by omega, rfl, rfl, rfl, hT0⟩
  case round =>
    obtain ⟨kk, A6, n6, c6, A7, n7, c7, hk1, hk2, hg, rfl, rfl, rfl, HT⟩ := hrel
    by_cases hlt : kk < 100 ∧ kk < l0.length
    · obtain ⟨hlt1, hlt2⟩ := hlt
      have hz1 : (kk : Int) < 100 := by omega
      have hz2 : (kk : Int) < (l0.length : Int) := by omega
      obtain ⟨ad0, rfl, g0⟩ := int_at (Kd.C_below H0.out HT.out.bel) kk hlt2
      have hx := b0'.out kk
      have hrd : rd_T34 primsL (l0.getD kk 0 % 111) = primAt l0 kk := rfl
      obtain ⟨adp, rfl, p0, p1⟩ := at_T34 (Kd.C_below hPC.out HT.out.bel) (l0.getD kk 0 % 111) (by omega) (by omega)
      rw [hrd] at p0 p1
      have hps := (prim_facts _ (primAt_mem l0 kk)).2.2.2
      have h1t := Aside0.mk (fun h => text_one l0 l1 kk h)
      have h2t := Aside0.mk (fun h => text_two l0 l1 kk h)
      have h1k := Aside0.mk (fun h => toks_one l0 l1 kk h)
      have h2k := Aside0.mk (fun h => toks_two l0 l1 kk h)
      have hbl := textL_len l0 l1 kk
      have hkl := toks_len l0 l1 kk
      rw [← nats_len] at hbl
      obtain ⟨B, hB⟩ : ∃ B, nats (textL l0 l1 kk) = B := ⟨_, rfl⟩
      obtain ⟨L, hL⟩ : ∃ L, toksL l0 l1 kk = L := ⟨_, rfl⟩
      rw [hB] at HT h1t h2t hbl
      rw [hL] at HT h1k h2k hkl
      generalize primAt l0 kk = p at p0 p1 h1t h2t h1k h2k hps
      generalize l0.getD kk 0 = x at g0 hx p0 p1
      have hx1 : 0 ≤ x % 111 := by omega
      have hx2 : x % 111 < 111 := by omega
      clear hB hL hrd hT0
      have hgk := Aside0.mk (show 100 - (kk + 1) < gk ∧ kk + 1 ≤ 100 ∧ kk + 1 ≤ l0.length by omega)
      clear hg
      have hbx := blk_new wr (.cells #[.string p.f0, .int .i64 p.f1] 34)
      have q0 : (wr.alloc (.cells #[.string p.f0, .int .i64 p.f1] 34)).cell? ⟨wr.heap.size, 0, none⟩ = some (.string p.f0) := (blk_cell hbx 0).trans rfl
      have HT1 := Aside0.mk (HT.out.alloc (.cells #[.string p.f0, .int .i64 p.f1] 34))
      have hgb : w2.heap.size ≤ wr.heap.size := HT.out.bel.size
      go_wp2_with (at_builtin; refine HT1.out.str rfl rfl rfl p.f0 rfl (by omega) (by omega) ?_)
      intro v6 w4 HN
      obtain ⟨HT4, ⟨A6b, n6b, c6b, rfl⟩, -, hk4⟩ := HN
      have hb4 := hk4 _ _ hbx
      have k1 : w4.cell? ⟨wr.heap.size, 1, none⟩ = some (.int .i64 p.f1) := (blk_cell hb4 1).trans rfl
      replace HT4 := Aside0.mk HT4
      clear hk4 q0 HT1 hbx
      have hl4 : (B ++ bytesOf p.f0).length < 5000 := by rw [List.length_append, bytesOf_length]; omega
      generalize B ++ bytesOf p.f0 = B4 at HT4 hl4 h1t h2t
      go_wp2_with (at_builtin; refine HT4.out.byte 32 rfl rfl rfl rfl (by omega) ?_)
      intro v6 w5 HN
      obtain ⟨HT5, ⟨A6d, n6d, c6d, rfl⟩, -, hk5⟩ := HN
      have hb5 := hk5 _ _ hb4
      have k1 : w5.cell? ⟨wr.heap.size, 1, none⟩ = some (.int .i64 p.f1) := (blk_cell hb5 1).trans rfl
      replace HT5 := Aside0.mk HT5
      clear hk5 hb4
      have hl5 : (B4 ++ [32]).length < 5001 := by rw [List.length_append]; simp; omega
      generalize B4 ++ [32] = B5 at HT5 hl5 h1t h2t
      go_wp2_with (at_builtin; refine HT5.out.tok p.f1 0 ⟨#[]⟩ 0 rfl rfl rfl rfl (by omega) ?_)
      intro v7 w6 HN
      obtain ⟨HT6, -, ⟨A7b, n7b, c7b, rfl⟩, hk6⟩ := HN
      replace HT6 := Aside0.mk HT6
      clear hk6 hb5 k1
      have hl6 : (L ++ [(⟨p.f1, 0, ⟨#[]⟩, 0⟩ : S37)]).length < 500 := by rw [List.length_append]; simp; omega
      have h1k2 : ¬ kk < l1.length → toksL l0 l1 (kk + 1) = L ++ [(⟨p.f1, 0, ⟨#[]⟩, 0⟩ : S37)] := h1k.out
      have h2k2 : kk < l1.length → toksL l0 l1 (kk + 1) = L ++ [(⟨p.f1, 0, ⟨#[]⟩, 0⟩ : S37)] ++ [(⟨16, l1.getD kk 0, ⟨#[]⟩, 0⟩ : S37)] := h2k.out
      replace h1k := Aside0.mk h1k2
      replace h2k := Aside0.mk h2k2
      clear h1k2 h2k2
      generalize L ++ [(⟨p.f1, 0, ⟨#[]⟩, 0⟩ : S37)] = L6 at HT6 hl6 h1k h2k
      clear g0 p0 p1 hps hbl hkl HT hgb hx hx1 hx2
      by_cases hl : kk < l1.length
      · have hz3 : (kk : Int) < (l1.length : Int) := by omega
        go_wp2_with (at_builtin; refine HT6.out.two 104 35 rfl rfl rfl rfl (by omega) ?_)
        intro v6 w7 HN
        obtain ⟨HT7, ⟨A6e, n6e, c6e, rfl⟩, -, -⟩ := HN
        replace HT7 := Aside0.mk HT7
        have hl7 : (B5 ++ [104, 35]).length < 5003 := by rw [List.length_append]; simp; omega
        replace h2t := h2t.out hl
        replace h2k := h2k.out hl
        generalize B5 ++ [104, 35] = B7 at HT7 hl7 h2t
        obtain ⟨ad1, e1, -⟩ := int_at (Kd.C_below H1.out HT7.out.bel) kk hl
        subst e1
        have hy := b1'.out kk
        obtain ⟨y, hyy⟩ : ∃ y, l1.getD kk 0 = y := ⟨_, rfl⟩
        rw [hyy] at hy h2t h2k
        replace hyy := Aside0.mk hyy
        replace h2t := Aside0.mk h2t
        replace h2k := Aside0.mk h2k
        clear h1t h1k
        go_wp2_with fail
        go_loopg [6, 10] 8 (fun gg s6 s10 wq => ∃ (j : Nat) (A : Option Addr) (n c : Nat), j ≤ 8 ∧ 8 - j ≤ gg ∧ s6 = .slice A n c ∧ s10 = .int .i64 (28 - 4 * (j : Int)) ∧ Aside0 (TW w2.heap.size w2 wq (.slice A n c) (.slice A7b n7b c7b) (pre B7 y j) L6))
        case atStart => exact ⟨0, A6e, n6e, c6e, by omega, by omega, rfl, rfl, by rw [pre_zero]; exact HT7⟩
        case round =>
          obtain ⟨j, A, n, c, hj, hgj, rfl, rfl, HQ⟩ := hrel
          obtain ⟨ad1', e, y0⟩ := int_at (Kd.C_below H1.out HQ.out.bel) kk hl
          cases e
          rw [hyy.out] at y0
          have hq : (pre B7 y j).length < 5012 := by have := pre_len B7 y j; omega
          by_cases hj8 : j < 8
          · have hgk2 := Aside0.mk (show 8 - (j + 1) < gk ∧ j + 1 ≤ 8 by omega)
            rcases (by omega : j = 0 ∨ j = 1 ∨ j = 2 ∨ j = 3 ∨ j = 4 ∨ j = 5 ∨ j = 6 ∨ j = 7) with rfl | rfl | rfl | rfl | rfl | rfl | rfl | rfl
            · clear hgj hj8 hj
              have b1 : 0 ≤ y / 268435456 % 16 := by omega
              have b2 : y / 268435456 % 16 < 16 := by omega
              go_wp2_with (at_builtin; refine HQ.out.byte _ rfl rfl rfl rfl (by omega) ?_)
              intro v6 w8 HN
              obtain ⟨HT8, ⟨A8, n8, c8, rfl⟩, -, -⟩ := HN
              have e8 := (hex_get y 268435456 (by omega))
              unfold hexS at e8
              rw [e8, pre_succ _ _ _ _ rfl] at HT8
              replace HT8 := Aside0.mk HT8
              clear e8
              go_wp2_with fail
              go_roundg (8 - (0 + 1))
              case measure => exact hgk2.out.1
              case rel => exact ⟨0 + 1, A8, n8, c8, hgk2.out.2, Nat.le_refl _, rfl, rfl, HT8⟩
            · clear hgj hj8 hj
              have b1 : 0 ≤ y / 16777216 % 16 := by omega
              have b2 : y / 16777216 % 16 < 16 := by omega
              go_wp2_with (at_builtin; refine HQ.out.byte _ rfl rfl rfl rfl (by omega) ?_)
              intro v6 w8 HN
              obtain ⟨HT8, ⟨A8, n8, c8, rfl⟩, -, -⟩ := HN
              have e8 := (hex_get y 16777216 (by omega))
              unfold hexS at e8
              rw [e8, pre_succ _ _ _ _ rfl] at HT8
              replace HT8 := Aside0.mk HT8
              clear e8
              go_wp2_with fail
              go_roundg (8 - (1 + 1))
              case measure => exact hgk2.out.1
              case rel => exact ⟨1 + 1, A8, n8, c8, hgk2.out.2, Nat.le_refl _, rfl, rfl, HT8⟩
            · clear hgj hj8 hj
              have b1 : 0 ≤ y / 1048576 % 16 := by omega
              have b2 : y / 1048576 % 16 < 16 := by omega
              go_wp2_with (at_builtin; refine HQ.out.byte _ rfl rfl rfl rfl (by omega) ?_)
              intro v6 w8 HN
              obtain ⟨HT8, ⟨A8, n8, c8, rfl⟩, -, -⟩ := HN
              have e8 := (hex_get y 1048576 (by omega))
              unfold hexS at e8
              rw [e8, pre_succ _ _ _ _ rfl] at HT8
              replace HT8 := Aside0.mk HT8
              clear e8
              go_wp2_with fail
              go_roundg (8 - (2 + 1))
              case measure => exact hgk2.out.1
              case rel => exact ⟨2 + 1, A8, n8, c8, hgk2.out.2, Nat.le_refl _, rfl, rfl, HT8⟩
            · clear hgj hj8 hj
              have b1 : 0 ≤ y / 65536 % 16 := by omega
              have b2 : y / 65536 % 16 < 16 := by omega
              go_wp2_with (at_builtin; refine HQ.out.byte _ rfl rfl rfl rfl (by omega) ?_)
              intro v6 w8 HN
              obtain ⟨HT8, ⟨A8, n8, c8, rfl⟩, -, -⟩ := HN
              have e8 := (hex_get y 65536 (by omega))
              unfold hexS at e8
              rw [e8, pre_succ _ _ _ _ rfl] at HT8
              replace HT8 := Aside0.mk HT8
              clear e8
              go_wp2_with fail
              go_roundg (8 - (3 + 1))
              case measure => exact hgk2.out.1
              case rel => exact ⟨3 + 1, A8, n8, c8, hgk2.out.2, Nat.le_refl _, rfl, rfl, HT8⟩
            · clear hgj hj8 hj
              have b1 : 0 ≤ y / 4096 % 16 := by omega
              have b2 : y / 4096 % 16 < 16 := by omega
              go_wp2_with (at_builtin; refine HQ.out.byte _ rfl rfl rfl rfl (by omega) ?_)
              intro v6 w8 HN
              obtain ⟨HT8, ⟨A8, n8, c8, rfl⟩, -, -⟩ := HN
              have e8 := (hex_get y 4096 (by omega))
              unfold hexS at e8
              rw [e8, pre_succ _ _ _ _ rfl] at HT8
              replace HT8 := Aside0.mk HT8
              clear e8
              go_wp2_with fail
              go_roundg (8 - (4 + 1))
              case measure => exact hgk2.out.1
              case rel => exact ⟨4 + 1, A8, n8, c8, hgk2.out.2, Nat.le_refl _, rfl, rfl, HT8⟩
            · clear hgj hj8 hj
              have b1 : 0 ≤ y / 256 % 16 := by omega
              have b2 : y / 256 % 16 < 16 := by omega
              go_wp2_with (at_builtin; refine HQ.out.byte _ rfl rfl rfl rfl (by omega) ?_)
              intro v6 w8 HN
              obtain ⟨HT8, ⟨A8, n8, c8, rfl⟩, -, -⟩ := HN
              have e8 := (hex_get y 256 (by omega))
              unfold hexS at e8
              rw [e8, pre_succ _ _ _ _ rfl] at HT8
              replace HT8 := Aside0.mk HT8
              clear e8
              go_wp2_with fail
              go_roundg (8 - (5 + 1))
              case measure => exact hgk2.out.1
              case rel => exact ⟨5 + 1, A8, n8, c8, hgk2.out.2, Nat.le_refl _, rfl, rfl, HT8⟩
            · clear hgj hj8 hj
              have b1 : 0 ≤ y / 16 % 16 := by omega
              have b2 : y / 16 % 16 < 16 := by omega
              go_wp2_with (at_builtin; refine HQ.out.byte _ rfl rfl rfl rfl (by omega) ?_)
              intro v6 w8 HN
              obtain ⟨HT8, ⟨A8, n8, c8, rfl⟩, -, -⟩ := HN
              have e8 := (hex_get y 16 (by omega))
              unfold hexS at e8
              rw [e8, pre_succ _ _ _ _ rfl] at HT8
              replace HT8 := Aside0.mk HT8
              clear e8
              go_wp2_with fail
              go_roundg (8 - (6 + 1))
              case measure => exact hgk2.out.1
              case rel => exact ⟨6 + 1, A8, n8, c8, hgk2.out.2, Nat.le_refl _, rfl, rfl, HT8⟩
            · clear hgj hj8 hj
              have b1 : 0 ≤ y % 16 := by omega
              have b2 : y % 16 < 16 := by omega
              go_wp2_with (at_builtin; refine HQ.out.byte _ rfl rfl rfl rfl (by omega) ?_)
              intro v6 w8 HN
              obtain ⟨HT8, ⟨A8, n8, c8, rfl⟩, -, -⟩ := HN
              have e8 := (hex_get1 y (by omega))
              unfold hexS at e8
              rw [e8, pre_succ _ _ _ _ rfl] at HT8
              replace HT8 := Aside0.mk HT8
              clear e8
              go_wp2_with fail
              go_roundg (8 - (7 + 1))
              case measure => exact hgk2.out.1
              case rel => exact ⟨7 + 1, A8, n8, c8, hgk2.out.2, Nat.le_refl _, rfl, rfl, HT8⟩
          · obtain rfl : j = 8 := by omega
            have HQ8 := Aside0.mk HQ.out
            have hq8 := hq
            rw [← pre_eight] at h2t
            generalize pre B7 y 8 = B8 at HQ8 hq8 h2t
            clear hgj hj8 hj HQ hq
            go_wp2_with (at_builtin; refine HQ8.out.byte 10 rfl rfl rfl rfl (by omega) ?_)
            intro v6 w8 HN
            obtain ⟨HT8, ⟨A8, n8, c8, rfl⟩, -, -⟩ := HN
            rw [← h2t.out] at HT8
            obtain ⟨ad1', e, y1⟩ := int_at (Kd.C_below H1.out HT8.bel) kk hl
            cases e
            rw [hyy.out] at y1
            replace HT8 := Aside0.mk HT8
            clear y0
            go_wp2_with (at_builtin; refine HT8.out.tok 16 y ⟨#[]⟩ 0 rfl rfl rfl rfl (by omega) ?_)
            intro v7 w9 HN
            obtain ⟨HT9, -, ⟨A9, n9, c9, rfl⟩, -⟩ := HN
            rw [← h2k.out] at HT9
            replace HT9 := Aside0.mk HT9
            clear y1
            go_wp2_with fail
            go_roundg (100 - (kk + 1))
            case measure => exact hgk.out.1
            case rel => exact ⟨kk + 1, A8, n8, c8, A9, n9, c9, hgk.out.2.1, hgk.out.2.2, Nat.le_refl _, rfl, rfl, by go_num, HT9⟩
      · have hz3 : ¬ (kk : Int) < (l1.length : Int) := by omega
        replace h1t := h1t.out hl
        replace h1k := h1k.out hl
        have HT7 := HT6.out
        rw [← h1t, ← h1k] at HT7
        replace HT7 := Aside0.mk HT7
        clear h1t h1k h2t h2k
        go_wp2_with fail
        go_roundg (100 - (kk + 1))
        case measure => exact hgk.out.1
        case rel => exact ⟨kk + 1, A6d, n6d, c6d, A7b, n7b, c7b, hgk.out.2.1, hgk.out.2.2, Nat.le_refl _, rfl, rfl, by go_num, HT7⟩
    · have hll := textL_len l0 l1 kk
      have hkl := toks_len l0 l1 kk
      obtain ⟨-, -, hC6⟩ := Kd.R_reads' HT.out.r6
      have hn6 := (Kd.R_reads' HT.out.r6).1
      rw [← hn6] at hC6
      have hcv := Kd.C_string (w := wr) (c := c6) Try.underlying29 Try.underlying5 Try.underlying9 hC6
      rw [nats_str] at hcv
      have hwl := words_law l0 l1 b1'.out kk hk1
      have hsz : (byt (textL l0 l1 kk)).size ≤ maxLen := by
        have : (byt (textL l0 l1 kk)).size = (textL l0 l1 kk).length := rfl
        have hmx : maxLen = 9223372036854775807 := rfl
        omega
      have htk := tokens_calls (byt (textL l0 l1 kk)) hsz
      rw [hwl] at htk
      replace htk := Aside0.mk htk
      generalize byt (textL l0 l1 kk) = bs at hcv htk
      have hlt' : ¬ ((kk : Int) < 100 ∧ (kk : Int) < (l0.length : Int)) := by omega
      clear hg hC6 hn6 hwl hsz hT0
      by_cases hl0 : kk < l0.length
      · have hz1 : (kk : Int) < (l0.length : Int) := by omega
        have hz2 : ¬ (kk : Int) < 100 := by omega
        go_wp2_with fail
        refine (htk.out _).mono ?_
        rintro e w9 ⟨v, rfl, hRv, hBv⟩
        have HT9 := HT.out.below hBv
        obtain ⟨Av, cv, rfl⟩ := Kd.R_slice hRv
        have hTL : (toksL l0 l1 kk).length < 500 := by omega
        have hlt7 := fun k hk => Kd.R_lt HT.out.r7 k hk
        replace hlt7 := Aside0.mk hlt7
        replace HT9 := Aside0.mk HT9
        replace hRv := Aside0.mk hRv
        clear hBv htk
        have hvl : (toksL l0 l1 kk ++ [(⟨0, 0, emp, 0⟩ : S37)]).length < 500 := by rw [List.length_append]; simp; omega
        obtain ⟨nv, hnv⟩ : ∃ nv, (toksL l0 l1 kk ++ [(⟨0, 0, emp, 0⟩ : S37)]).length = nv := ⟨_, rfl⟩
        rw [hnv] at hRv ⊢
        replace hnv := Aside0.mk hnv
        go_wp2_with (at_builtin; refine HT9.out.tokW 0 0 ⟨#[]⟩ 0 (by rfl) rfl rfl rfl (by omega) ?_)
        intro v7 w10 HN hg10
        obtain ⟨HT10, -, ⟨A10, n10, c10, rfl⟩, -⟩ := HN
        have hR10 := Kd.R_grown (Kd.R_new' hRv.out (u := .slice A7 n7 c7) hlt7.out) hg10 (fun k hk => hk.2)
        have HT11 : TW w2.heap.size w2 w10 (.slice A6 n6 c6) (.slice A10 n10 c10) (nats (textL l0 l1 kk)) (toksL l0 l1 kk ++ [(⟨0, 0, emp, 0⟩ : S37)]) := HT10
        have hBf := Aside0.mk (hBp.out.trans (HT11.bel.mono hBp.out.size))
        obtain ⟨e1, hc1, hC1⟩ := Kd.R_reads' hR10
        obtain ⟨e2, hc2, hC2⟩ := Kd.R_reads' HT11.r7
        clear hR10 HT10 HT11 hg10 HT9 hRv hlt7 hnv
        generalize toksL l0 l1 kk ++ [(⟨0, 0, emp, 0⟩ : S37)] = TL at e1 e2 hC1 hC2 hvl
        subst e1 e2
        have hS := Aside0.mk (same_calls TL (by omega) Av A10 cv c10 w10 hC1 hc1 hC2 hc2)
        clear hC1 hC2 hc1 hc2
        go_wp2_with fail
        refine hS.out.mono ?_
        rintro e w11 ⟨rfl, nd, rfl⟩
        go_wp2_with fail
        exact bodyPost_ret (v := .bool true) (by simp [results, Try.results4, go_sem]) rfl ⟨rfl, pw_below_drewN hBf.out nd⟩
      · have hz1 : ¬ (kk : Int) < (l0.length : Int) := by omega
        go_wp2_with fail
        refine (htk.out _).mono ?_
        rintro e w9 ⟨v, rfl, hRv, hBv⟩
        have HT9 := HT.out.below hBv
        obtain ⟨Av, cv, rfl⟩ := Kd.R_slice hRv
        have hTL : (toksL l0 l1 kk).length < 500 := by omega
        have hlt7 := fun k hk => Kd.R_lt HT.out.r7 k hk
        replace hlt7 := Aside0.mk hlt7
        replace HT9 := Aside0.mk HT9
        replace hRv := Aside0.mk hRv
        clear hBv htk
        have hvl : (toksL l0 l1 kk ++ [(⟨0, 0, emp, 0⟩ : S37)]).length < 500 := by rw [List.length_append]; simp; omega
        obtain ⟨nv, hnv⟩ : ∃ nv, (toksL l0 l1 kk ++ [(⟨0, 0, emp, 0⟩ : S37)]).length = nv := ⟨_, rfl⟩
        rw [hnv] at hRv ⊢
        replace hnv := Aside0.mk hnv
        go_wp2_with (at_builtin; refine HT9.out.tokW 0 0 ⟨#[]⟩ 0 (by rfl) rfl rfl rfl (by omega) ?_)
        intro v7 w10 HN hg10
        obtain ⟨HT10, -, ⟨A10, n10, c10, rfl⟩, -⟩ := HN
        have hR10 := Kd.R_grown (Kd.R_new' hRv.out (u := .slice A7 n7 c7) hlt7.out) hg10 (fun k hk => hk.2)
        have HT11 : TW w2.heap.size w2 w10 (.slice A6 n6 c6) (.slice A10 n10 c10) (nats (textL l0 l1 kk)) (toksL l0 l1 kk ++ [(⟨0, 0, emp, 0⟩ : S37)]) := HT10
        have hBf := Aside0.mk (hBp.out.trans (HT11.bel.mono hBp.out.size))
        obtain ⟨e1, hc1, hC1⟩ := Kd.R_reads' hR10
        obtain ⟨e2, hc2, hC2⟩ := Kd.R_reads' HT11.r7
        clear hR10 HT10 HT11 hg10 HT9 hRv hlt7 hnv
        generalize toksL l0 l1 kk ++ [(⟨0, 0, emp, 0⟩ : S37)] = TL at e1 e2 hC1 hC2 hvl
        subst e1 e2
        have hS := Aside0.mk (same_calls TL (by omega) Av A10 cv c10 w10 hC1 hc1 hC2 hc2)
        clear hC1 hC2 hc1 hc2
        go_wp2_with fail
        refine hS.out.mono ?_
        rintro e w11 ⟨rfl, nd, rfl⟩
        go_wp2_with fail
        exact bodyPost_ret (v := .bool true) (by simp [results, Try.results4, go_sem]) rfl ⟨rfl, pw_below_drewN hBf.out nd⟩
end Go.Proofs.Ytehmhgpogpbjiaa.Fcc

/- Parameters of this layer, opened: a row of bytes, a row of numbers. -/
namespace Go.Proofs.Ytehmhgpogpbjiaa.Fcc
open Go.ChangeShapes Go.WideShapes Go.RowKit
open Go.Proofs.YtehmhgpogpbjiaaW.PrintWords Go.Proofs.YtehmhgpogpbjiaaW.PrintLast
set_option linter.unusedVariables false
/-- What a reading of type t finds in its cells. -/
def Rd {α : Type} (t : TypeId) (d : Kd α) (g : α → Prop) : Prop :=
  ∀ (H : Type) (enc : TypeId × Value → H) (W : World) (sp : Nat → Bool) (hd : Bool) (n : Nat) (cs : List Value) (y : DataW H × List MemPlace), DataW.trod enc Try.prog W 0 sp hd n t cs = some y → ∃ x, d.K W x cs ∧ g x
theorem rd_u8 : Rd 5 (Kd.int .u8) (fun x => 0 ≤ x ∧ x < 256) := by
  intro H enc W sp hd n cs y h
  obtain ⟨n, rfl, _, hw⟩ := DataW.trod_int (k := .u8) (by kernel_rfl) h
  refine ⟨n, rfl, ?_⟩
  simp only [Lit.wf, Bool.and_eq_true, decide_eq_true_eq] at hw
  have e1 : IntKind.min .u8 = 0 := by decide
  have e2 : IntKind.max .u8 = 255 := by decide
  rw [e1, e2] at hw
  omega
theorem rd_u32 : Rd 35 (Kd.int .u32) (fun x => 0 ≤ x ∧ x < 4294967296) := by
  intro H enc W sp hd n cs y h
  obtain ⟨n, rfl, _, hw⟩ := DataW.trod_int (k := .u32) (by kernel_rfl) h
  refine ⟨n, rfl, ?_⟩
  simp only [Lit.wf, Bool.and_eq_true, decide_eq_true_eq] at hw
  have e1 : IntKind.min .u32 = 0 := by decide
  have e2 : IntKind.max .u32 = 4294967295 := by decide
  rw [e1, e2] at hw
  omega
theorem row_of {α : Type} {H : Type} {enc : TypeId × Value → H} {W : World} {sp : Nat → Bool} {hd : Bool} {n : Nat} {e : TypeId} {d : Kd α} {g : α → Prop} (he : Rd e d g) (a : Addr) (D : Nat → DataW H) (Pl : Nat → List MemPlace) : ∀ m : Nat,
    (∀ i, i < m → ∃ cs', W.cells? 0 (a.add (i * d.sz)) d.sz = some cs' ∧ DataW.trod enc Try.prog W 0 sp hd n e cs' = some (D i, Pl i)) →
    ∃ l : List α, l.length = m ∧ (∀ j p, l[j]? = some p → g p ∧ ∃ c, c.length = d.sz ∧ d.K W p c ∧ ∀ i u, c[i]? = some u → W.cell? (a.add (j * d.sz + i)) = some u)
  | 0, _ => ⟨[], rfl, fun j p h => by simp at h⟩
  | m + 1, hx => by
    obtain ⟨l, hl, hc⟩ := row_of he a D Pl m (fun i hi => hx i (by omega))
    obtain ⟨cs, h1, h2⟩ := hx m (by omega)
    obtain ⟨_, hlen, hcell⟩ := World.cells?_some h1
    obtain ⟨x, hK, hb⟩ := he H enc W sp hd n _ _ h2
    refine ⟨l ++ [x], by simp [hl], fun j p hj => ?_⟩
    by_cases hjm : j < m
    · rw [List.getElem?_append_left (by omega)] at hj
      exact hc j p hj
    · have hj0 : j < (l ++ [x]).length := by
        by_cases h : j < (l ++ [x]).length
        · exact h
        · rw [List.getElem?_eq_none (by omega)] at hj; cases hj
      have hjm' : j = m := by simp [hl] at hj0; omega
      subst hjm'
      rw [List.getElem?_append_right (by omega), hl, Nat.sub_self] at hj
      simp at hj
      subst hj
      refine ⟨hb, cs, hlen, hK, fun i u hu => ?_⟩
      have hi : i < d.sz := by
        by_cases h : i < d.sz
        · exact h
        · rw [List.getElem?_eq_none (by omega)] at hu; cases hu
      have := hcell i hi
      rw [hu] at this
      rw [← Addr.add_add]
      exact this
theorem rd_slice {α : Type} {t e : TypeId} {d : Kd α} {g : α → Prop} (ht : Try.prog.underlying t = some (.slice e)) (he : Rd e d g) (ce : Try.prog.cellsOf e = d.sz) :
    Rd t (Kd.slice e d) (fun l => ∀ x ∈ l, g x) := by
  intro H enc W sp hd n cs y hy
  rcases Go.Deep.open_slice ht hy with ⟨rfl, rfl⟩ | ⟨a, len, cap, m, n', D, Pl, rfl, _, hl, hm, hmm, rfl, hall⟩
  · exact ⟨[], ⟨none, 0, rfl, Nat.le_refl _, rfl, by simp, fun h => by simp at h⟩, fun x hx => by cases hx⟩
  · rw [ce] at hall
    have hle : len ≤ m := by rw [hmm]; split <;> omega
    obtain ⟨l, hln, hc⟩ := row_of he a D Pl len (fun i hi => hall i (by omega))
    refine ⟨l, ⟨some a, cap, by rw [hln], by omega, rfl, Nat.le_trans (hln ▸ hl) (Nat.le_trans hm (by decide)), fun _ => ⟨a, rfl, fun j p hj => (hc j p hj).2⟩⟩, fun x hx => ?_⟩
    obtain ⟨j, hj⟩ := List.mem_iff_getElem?.1 hx
    exact (hc j x hj).1
theorem rd29 : Rd 29 (Kd.slice 5 (Kd.int .u8)) (fun l => ∀ x ∈ l, 0 ≤ x ∧ x < 256) := rd_slice Try.underlying29 rd_u8 (by kernel_rfl)
theorem rd30 : Rd 30 (Kd.slice 35 (Kd.int .u32)) (fun l => ∀ x ∈ l, 0 ≤ x ∧ x < 4294967296) := rd_slice Try.underlying30 rd_u32 (by kernel_rfl)
theorem getD_of {l : List Int} {B : Int} (hB : 0 < B) (h : ∀ x ∈ l, 0 ≤ x ∧ x < B) (i : Nat) : 0 ≤ l.getD i 0 ∧ l.getD i 0 < B := by
  rw [List.getD_eq_getElem?_getD]
  by_cases hi : i < l.length
  · rw [List.getElem?_eq_getElem hi]
    exact h _ (List.getElem_mem hi)
  · rw [List.getElem?_eq_none (by omega)]
    exact ⟨by simp, by simpa using hB⟩
theorem open_u8s {H : Type} {enc : TypeId × Value → H} {W : World} {sp : Nat → Bool} {hd : Bool} {v : Value} {d : DataW H} {p : List MemPlace} (hv : ∃ a n c, v = .slice a n c) (h : DataW.Trod enc Try.prog W 0 sp hd 29 v d p) :
    ∃ (A : Option Addr) (c : Nat) (l : List Int), v = .slice A l.length c ∧ Kd.C (Kd.int .u8) W A l.length l ∧ ∀ i, 0 ≤ l.getD i 0 ∧ l.getD i 0 < 256 := by
  obtain ⟨fuel, hf⟩ := h
  obtain ⟨va, vn, vc, rfl⟩ := hv
  obtain ⟨l, ⟨A, c, hcs, hlc, hC⟩, hx⟩ := rd29 H enc W sp hd _ _ _ hf
  have hv : Value.slice va vn vc = .slice A l.length c := by simpa [Value.cells] using hcs
  exact ⟨A, c, l, hv, hC, getD_of (by decide) hx⟩
theorem open_u32s {H : Type} {enc : TypeId × Value → H} {W : World} {sp : Nat → Bool} {hd : Bool} {v : Value} {d : DataW H} {p : List MemPlace} (hv : ∃ a n c, v = .slice a n c) (h : DataW.Trod enc Try.prog W 0 sp hd 30 v d p) :
    ∃ (A : Option Addr) (c : Nat) (l : List Int), v = .slice A l.length c ∧ Kd.C (Kd.int .u32) W A l.length l ∧ ∀ i, 0 ≤ l.getD i 0 ∧ l.getD i 0 < 4294967296 := by
  obtain ⟨fuel, hf⟩ := h
  obtain ⟨va, vn, vc, rfl⟩ := hv
  obtain ⟨l, ⟨A, c, hcs, hlc, hC⟩, hx⟩ := rd30 H enc W sp hd _ _ _ hf
  have hv : Value.slice va vn vc = .slice A l.length c := by simpa [Value.cells] using hcs
  exact ⟨A, c, l, hv, hC, getD_of (by decide) hx⟩
end Go.Proofs.Ytehmhgpogpbjiaa.Fcc

/- FccWords (4), as its row asks for it. -/
namespace Go.Proofs.Ytehmhgpogpbjiaa.Fcc
open Go.RowKit Go.Proofs.YtehmhgpogpbjiaaW.PrintWords
theorem fccWords_row (A0 : Option Addr) (c0 : Nat) (l0 : List Int) (A1 : Option Addr) (c1 : Nat) (l1 : List Int) (w : World) (h0 : Kd.C (Kd.int .u8) w A0 l0.length l0) (b0 : ∀ i, 0 ≤ l0.getD i 0 ∧ l0.getD i 0 < 256) (h1 : Kd.C (Kd.int .u32) w A1 l1.length l1) (b1 : ∀ i, 0 ≤ l1.getD i 0 ∧ l1.getD i 0 < 4294967296) :
    Calls Try.prog 4 #[.slice A0 l0.length c0, .slice A1 l1.length c1] w fun e W' => e = .returned (.bool true) ∧ Below w.heap.size w W' := fccWords_calls A0 A1 c0 c1 l0 l1 w h0 h1 b0 b1
end Go.Proofs.Ytehmhgpogpbjiaa.Fcc
