import Derived.Test.Ytehmhgpogpbjiaafu29
set_option linter.unusedVariables false
set_option linter.unusedSimpArgs false
set_option maxRecDepth 100000
set_option maxHeartbeats 8000000
namespace Go.Proofs.Ytehmhgpogpbjiaa.Fcc
open Go.RowKit Go.Proofs.Ytehmhgpogpbjiaa Go.Proofs.YtehmhgpogpbjiaaW.PrintWords Go.Proofs.YtehmhgpogpbjiaaW.PrintLast Go.Proofs.YtehmhgpogpbjiaaW.PrintMore Go.Proofs.Ytehmhgpogpbjiaa.PFccTokens
structure TW (base : Nat) (w0 w : World) (v6 v7 : Value) (b : List Int) (l : List S37) : Prop where
 r6 : Kd.R (Kd.int .u8) 5 w base (fun _ => True) v6 b
 r7 : Kd.R k37 37 w base (fun _ => True) v7 l
 bel : Below base w0 w
 le : base ≤ w0.heap.size
section
variable {base : Nat} {w0 w w1 : World} {v6 v7 : Value} {b : List Int} {l : List S37}
theorem TW.below (h : TW base w0 w v6 v7 b l) (hb : Below w.heap.size w w1) : TW base w0 w1 v6 v7 b l :=
 ⟨Kd.R_below h.r6 hb, Kd.R_below h.r7 hb, h.bel.trans (hb.mono (Nat.le_trans h.le h.bel.size)), h.le⟩
theorem TW.alloc (h : TW base w0 w v6 v7 b l) (o : Obj) : TW base w0 (w.alloc o) v6 v7 b l := h.below (Yl (Below.refl _ _) o)
theorem TW.text {ys : List Int} {v : Value} (h : TW base w0 w v6 v7 b l) (hR : Kd.R (Kd.int .u8) 5 w1 base (fun _ => True) v ys) (hg : w.grownBy w1 v6.ownBlock) (hB : Below base w0 w1) : TW base w0 w1 v v7 ys l :=
 ⟨hR, Kd.R_over h.r7 h.r6 Z2p hg, hB, h.le⟩
theorem TW.toks {ys : List S37} {v : Value} (h : TW base w0 w v6 v7 b l) (hR : Kd.R k37 37 w1 base (fun _ => True) v ys) (hg : w.grownBy w1 v7.ownBlock) (hB : Below base w0 w1) : TW base w0 w1 v6 v b ys :=
 ⟨Kd.R_over h.r6 h.r7 Z2p hg, hR, hB, h.le⟩
structure TN (base : Nat) (w0 w w' : World) (v6 v7 : Value) (b : List Int) (l : List S37) : Prop where
 tw : TW base w0 w' v6 v7 b l
 sl6 : ∃ A n c, v6 = .slice A n c
 sl7 : ∃ A n c, v7 = .slice A n c
 keep : ∀ (k : Nat) (cells : Array Value), w.heap[k]? = some (Obj.cells cells 34 (0, 0)) → w'.heap[k]? = some (Obj.cells cells 34 (0, 0))
theorem TW.made (h : TW base w0 w v6 v7 b l) (hk : ∀ (k : Nat) (cells : Array Value), w1.heap[k]? = some (Obj.cells cells 34 (0, 0)) → w.heap[k]? = some (Obj.cells cells 34 (0, 0))) : TN base w0 w1 w v6 v7 b l := by
 obtain ⟨A, c, rfl⟩ := Kd.R_slice h.r6
 obtain ⟨A', c', rfl⟩ := Kd.R_slice h.r7
 exact ⟨h, ⟨_, _, _, rfl⟩, ⟨_, _, _, rfl⟩, hk⟩
theorem keep34 {α : Type} {d : Kd α} {e : Nat} {v : Value} {xs : List α} (hR : Kd.R d e w base (fun _ => True) v xs) (he : e ≠ 34) (hg : w.grownBy w1 v.ownBlock) : ∀ (k : Nat) (cells : Array Value), w.heap[k]? = some (Obj.cells cells 34 (0, 0)) → w1.heap[k]? = some (Obj.cells cells 34 (0, 0)) :=
 fun k cells hk => XK hk hg (Kd.R_ne hR hk he)
variable {ops : Array Oper} {rest : List Oper} {Q : Exit → Act → World → Prop} {a : Act} {q : Oper} {s x : Operand}
theorem TW.str (h : TW base w0 w v6 v7 b l) (hgd : q.guard = none) (hq : q.op = .call { callee := .builtin .append, args := #[s, x], argTypes := #[29, 9] }) (hs : a.eval s = v6) (t : ByteArray) (hx : a.eval x = .string t) (hl : b.length < 1000000) (ht : t.size < 1000000)
 (k : ∀ v w', TN base w0 w w' v v7 (b ++ Vh t) l → wpList Try.prog ops Q rest (a.put q.dst v) w') : wpList Try.prog ops Q (q :: rest) a w := by
 obtain ⟨i0, hi, hz0, hz1, hz2⟩ := info_parts UR
 have hR := (Ybu.1 h.r6).2
 have hmx : maxLen = 9223372036854775807 := rfl
 have hbb := Nat.le_trans h.le h.bel.size
 refine Lib.wpList_append_own_string w hgd _ _ 29 9 hq base 5 i0 Try.underlying29 Try.underlying9 hi hz0 hz1 hz2 _ _ _ hs hR t hx Z0 Z0 hbb ?_
 intro v3 w3 hR3 hg3 _
 have hc3 : nums .u8 b ++ Lib.strCells t = nums .u8 (b ++ Vh t) := by
  have : Lib.strCells t = nums .u8 (Vh t) := by simp [nums, Vh, Lib.strCells]
  rw [this, ← Ji]
 have hl3 : b.length + t.size = (b ++ Vh t).length := by simp [Vp]
 rw [hc3, hl3] at hR3
 exact k v3 w3 ((h.text (Ybu.2 ⟨fun _ _ => trivial, hR3⟩) hg3 (Below.grown h.bel hg3 hbb (fun k hk => Ue hR k hk))).made (keep34 h.r6 Z1 hg3))
theorem TW.byte (h : TW base w0 w v6 v7 b l) (n : Int) (hgd : q.guard = none) (hq : q.op = .call { callee := .builtin .append, args := #[s, x], argTypes := #[29, 29] }) (hs : a.eval s = v6) (hx : a.eval x = .slice (some ⟨w.heap.size, 0, none⟩) 1 1) (hl : b.length < 1000000)
 (k : ∀ v w', TN base w0 w w' v v7 (b ++ [n]) l → wpList Try.prog ops Q rest (a.put q.dst v) w') : wpList Try.prog ops Q (q :: rest) a (w.alloc (.cells #[.int .u8 n] 5)) := by
 have hbb := Nat.le_trans h.le h.bel.size
 refine Kd.R_append (Kd.int .u8) (w0 := w0) (W := w) base hgd s x 29 5 (.int .u8 0) 1 hq Try.underlying29 UR rfl Z1 Z1 v6 b n [.int .u8 n] (fun _ => True) (fun _ => False) hs hx rfl (fun _ hk => hk.elim) (fun _ _ => trivial) h.r6 h.bel hbb Z0 ?_
 intro v w' hR hB hg _
 exact Z2T
theorem TW.tokG (h : TW base w0 w v6 v7 b l) (c n : Int) (t : ByteArray) (f : Int) (hgd : Region.wanted q (yielded ops a.tmps) = true ∧ q.guard = none ∨ q.guard = none) (hq : q.op = .call { callee := .builtin .append, args := #[s, x], argTypes := #[23, 23] }) (hs : a.eval s = v7) (hx : a.eval x = .slice (some ⟨w.heap.size, 0, none⟩) 1 1) (hl : l.length < 1000000)
 (k : ∀ v w', TN base w0 w w' v6 v b (l ++ [(⟨c, n, t, f⟩ : S37)]) → w.grownBy w' v7.ownBlock → wpList Try.prog ops Q rest (a.put q.dst v) w') : wpList Try.prog ops Q (q :: rest) a (w.alloc (.cells #[.int .i64 c, .int .u32 n, .string t, .int .i64 f] 37)) := by
 have hbb := Nat.le_trans h.le h.bel.size
 refine Kd.R_append k37 (w0 := w0) (W := w) base (hgd.elim (·.2) id) s x 23 37 _ 40 hq Try.underlying23 info37 rfl Z1 Z1 v7 l (⟨c, n, t, f⟩ : S37) [.int .i64 c, .int .u32 n, .string t, .int .i64 f] (fun _ => True) (fun _ => False) hs hx (JN _ _ _ _) (fun _ hk => hk.elim) (fun _ _ => trivial) h.r7 h.bel hbb Z0 ?_
 intro v w' hR hB hg _
 exact k v w' ((h.toks hR hg hB).made (keep34 h.r7 Z1 hg)) hg
theorem TW.tok (h : TW base w0 w v6 v7 b l) (c n : Int) (t : ByteArray) (f : Int) (hgd : q.guard = none) (hq : q.op = .call { callee := .builtin .append, args := #[s, x], argTypes := #[23, 23] }) (hs : a.eval s = v7) (hx : a.eval x = .slice (some ⟨w.heap.size, 0, none⟩) 1 1) (hl : l.length < 1000000)
 (k : ∀ v w', TN base w0 w w' v6 v b (l ++ [(⟨c, n, t, f⟩ : S37)]) → wpList Try.prog ops Q rest (a.put q.dst v) w') : wpList Try.prog ops Q (q :: rest) a (w.alloc (.cells #[.int .i64 c, .int .u32 n, .string t, .int .i64 f] 37)) :=
 h.tokG c n t f (.inr hgd) hq hs hx hl (fun v w' h1 _ => k v w' h1)
theorem TW.rows (h : TW base w0 w v6 v7 b l) (ys : List Int) (A : Option Addr) (c : Nat) (hgd : q.guard = none) (hq : q.op = .call { callee := .builtin .append, args := #[s, x], argTypes := #[29, 29] }) (hs : a.eval s = v6) (hx : a.eval x = .slice A ys.length c) (hC : (Kd.int .u8).C w A ys.length ys) (hl : b.length < 1000000) (hy : ys.length < 1000000)
 (k : ∀ v w', TN base w0 w w' v v7 (b ++ ys) l → wpList Try.prog ops Q rest (a.put q.dst v) w') : wpList Try.prog ops Q (q :: rest) a w := by
 have hbb := Nat.le_trans h.le h.bel.size
 refine Kd.R_append_rows (Kd.int .u8) (Rr := (Kd.int .u8).K w) (w0 := w0) base hgd s x 29 5 (.int .u8 0) 1 hq Try.underlying29 UR rfl Z1 Z1 v6 b ys A ys.length c (fun _ => True) (fun _ => False) hs hx h.r6 hC (fun _ _ h => h) (fun _ hk => hk.elim) (fun _ _ => trivial) h.bel hbb Z0 ?_
 intro v w' hR hB hg _
 exact Z2T
end
end Go.Proofs.Ytehmhgpogpbjiaa.Fcc
namespace Go.Proofs.Ytehmhgpogpbjiaa.Fcc
open Go.RowKit Go.Proofs.YtehmhgpogpbjiaaW.PrintWords Go.Proofs.YtehmhgpogpbjiaaW.PrintLast Go.Proofs.YtehmhgpogpbjiaaW.PrintMore Go.Proofs.Ytehmhgpogpbjiaa.PFccTokens
def Vo (t : Tk) (w : World) (e : Ending) (w' : World) : Prop := ∃ A n c, e = .returned (.tuple #[.slice A n c, .bool (rightP t true)]) ∧ (rightP t true = true → Kd.R (Kd.int .u8) 5 w' w.heap.size (fun _ => True) (.slice A n c) (tokB t true)) ∧ Below w.heap.size w w'
theorem bp_no {t : Tk} {w w' : World} {A : Option Addr} {n c : Nat} (hr : rightP t true = false) (hB : Below w.heap.size w w') : Vo t w (.returned (.tuple #[.slice A n c, .bool false])) w' := by
 refine ⟨A, n, c, (by rw [hr]), fun h => ?_, hB⟩
 rw [hr] at h
 cases h
theorem YaW {t : Tk} {w w' : World} {A : Option Addr} {n c : Nat} {b : List Int} {l : List S37} {v7 : Value} {x : Obj} {g : Nat} (hr : rightP t true = true) (hg : (w.alloc x).heap.size = g) (h : TW g (w.alloc x) w' (.slice A n c) v7 b l) (hb : b = tokB t true) : Vo t w (.returned (.tuple #[.slice A n c, .bool true])) w' := by
 subst hb hg
 have hB := Yl (Below.refl w.heap.size w) x
 exact ⟨_, _, _, (by rw [hr]), fun _ => Kd.R_lower h.r6 hB.size, hB.trans (h.bel.mono hB.size)⟩
theorem tw_start {w w1 : World} {b : List Int} {v : Value} (hR : Kd.R (Kd.int .u8) 5 w1 w.heap.size (fun _ => True) v b) (hB : Below w.heap.size w w1) : TW w.heap.size w w1 v (.slice none 0 0) b [] := ⟨hR, Kd.R_nil _ _ _ _ _, hB, Nat.le_refl _⟩
structure BxC (t : Tk) (g : Nat) (w : World) : Prop where
 c0 : w.cell? ⟨g, 0, none⟩ = some (.int .i64 t.f0)
 c1 : w.cell? ⟨g, 1, none⟩ = some (.int .u32 t.f1)
 c2 : w.cell? ⟨g, 2, none⟩ = some (.string t.f2)
 c3 : w.cell? ⟨g, 3, none⟩ = some (.int .i64 t.f3)
theorem XU (t : Tk) (w : World) (hc0 : 0 ≤ t.f0 ∧ t.f0 ≤ 4095) : Calls Try.prog 55 #[.int .i64 t.f0] (w.alloc (.cells #[.int .i64 t.f0, .int .u32 t.f1, .string t.f2, .int .i64 t.f3] 37)) fun e w2 => ∃ A c n g, e = .returned (.slice A n c) ∧
 Aside0 (TW g (w.alloc (.cells #[.int .i64 t.f0, .int .u32 t.f1, .string t.f2, .int .i64 t.f3] 37)) w2 (.slice A n c) (.slice none 0 0) (Vq t.f0) []) ∧ Aside0 ((w.alloc (.cells #[.int .i64 t.f0, .int .u32 t.f1, .string t.f2, .int .i64 t.f3] 37)).heap.size = g) ∧ Aside0 ((Vq t.f0).length = n) ∧ n ≤ 2 ∧
 Aside0 (∀ w1, Below g (w.alloc (.cells #[.int .i64 t.f0, .int .u32 t.f1, .string t.f2, .int .i64 t.f3] 37)) w1 → BxC t w.heap.size w1) := by
 have hnew := XN w (.cells #[.int .i64 t.f0, .int .u32 t.f1, .string t.f2, .int .i64 t.f3] 37)
 refine (YaE t.f0 ⟨hc0.1, Z0⟩ _).mono ?_
 rintro e w2 ⟨v, rfl, hR, hB⟩
 obtain ⟨A, c, rfl⟩ := Kd.R_slice hR
 refine ⟨A, c, _, _, rfl, ⟨tw_start hR hB⟩, ⟨rfl⟩, ⟨rfl⟩, Vn _, ⟨fun w1 h => ?_⟩⟩
 have hb := XP hnew h
 exact ⟨(Yc hb 0).trans rfl, (Yc hb 1).trans rfl, (Yc hb 2).trans rfl, (Yc hb 3).trans rfl⟩
theorem VA {c : Int} (h : XA c = true) : 0 ≤ c ∧ c ≤ 4095 := by
 unfold XA at h
 simp only [Bool.or_eq_true, Bool.and_eq_true, decide_eq_true_eq] at h
 omega
def badT (k : Int) (n b o : Bool) : Bool := (decide (k = 0 ∨ k = 3 ∨ k = 4) && !n) || (decide (k ≠ 3 ∧ k ≠ 6) && !b) || (decide (k ≠ 4) && !o)
set_option maxHeartbeats 40000000 in
theorem YaF (t : Tk) (w : World) (hc : XA t.f0 = true) {k : Int} (hk0 : YO t.f0 = k) {n b o : Bool} (hn : (t.f1 == 0) = n) (hb : (t.f2.toList == ([] : List UInt8)) = b) (ho : (t.f3 == 0) = o) (hbad : badT k n b o = true) (hr0 : rightP t true = false) : Calls Try.prog 29 #[tv t, .bool true] w (Vo t w) := by
 have hk := Aside0.mk hk0
 have hcd := Aside0.mk hc
 have hcn := hcd
 have hr := Aside0.mk hr0
 have hB0 := Aside0.mk (Yl (Below.refl w.heap.size w) (.cells #[.int .i64 t.f0, .int .u32 t.f1, .string t.f2, .int .i64 t.f3] 37))
 have hn2 : (t.f1 != 0) = !n := by rw [← hn]; rfl
 have hb2 : (t.f2.toList != ([] : List UInt8)) = !b := by rw [← hb]; rfl
 have ho2 : (t.f3 != 0) = !o := by rw [← ho]; rfl
 have hb3 : t.f2.toList.isEmpty = b := by rw [← hb]; cases t.f2.toList <;> rfl
 have h7 := behindP_all t.f0
 rw [hk0] at h7
 clear hc hk0 hr0
 rcases h7 with rfl | rfl | rfl | rfl | rfl | rfl | rfl <;> cases n <;> cases b <;> cases o <;> first
  | (exfalso; revert hbad; decide)
  | (clear hbad
     go_enter Try.func29, Try.ntmps29
     go_wp2_with (first | ((with_reducible refine (Yz _ _).mono ?_); rintro e w1 ⟨rfl, rfl⟩; rw [hk.out]) | ((with_reducible refine (YE _ _).mono ?_); rintro e w1 ⟨rfl, rfl⟩; first | rw [hcd.out] | rw [hcn.out]))
     exact bodyPost_ret (v := .tuple #[.slice none 0 0, .bool false]) Zv rfl (bp_no hr.out hB0.out))
theorem rbytes_0 (t : Tk) (w : World) (hf : Fits t) (hc : XA t.f0 = true) (hk0 : YO t.f0 = 0) : Calls Try.prog 29 #[tv t, .bool true] w (Vo t w) := by
 by_cases hn0 : t.f1 = 0
 rotate_left
 ·exact Z2h
 by_cases ht : t.f2.toList = ([] : List UInt8)
 rotate_left
 ·exact Z1m
 by_cases h3 : t.f3 = 0
 rotate_left
 ·exact Z1b
 have hk := Aside0.mk hk0
 have hcd := Aside0.mk hc
 have hcn := hcd
 have hc0 := VA hc
 obtain ⟨-, hn, hsz, ho⟩ := hf
 clear hc hk0
 have hr := Aside0.mk (show rightP t true = true by unfold rightP; rw [hk.out, hcd.out]; first | (simp [hn0, ht, h3]; done) | (simp [hn0, ht, h3]; omega) | (have hq := VA hcc; simp [hn0, ht, h3]; omega))
 have hn01 : (t.f1 == 0) = true := beq_iff_eq.mpr hn0
 have hn02 : (t.f1 != 0) = false := by simp [hn0]
 have ht1 : (t.f2.toList == ([] : List UInt8)) = true := beq_iff_eq.mpr ht
 have ht2 : (t.f2.toList != ([] : List UInt8)) = false := by simp [ht]
 have ht3 : t.f2.toList.isEmpty = true := by simp [ht]
 have ht4 : (!t.f2.toList.isEmpty) = false := by simp [ht]
 have h31 : (t.f3 == 0) = true := beq_iff_eq.mpr h3
 have h32 : (t.f3 != 0) = false := by simp [h3]
 clear hn0 ht h3
 have hB0 := Aside0.mk (Yl (Below.refl w.heap.size w) (.cells #[.int .i64 t.f0, .int .u32 t.f1, .string t.f2, .int .i64 t.f3] 37))
 go_enter Try.func29, Try.ntmps29
 go_wp2_with (first | ((with_reducible refine (Yz _ _).mono ?_); rintro e w1 ⟨rfl, rfl⟩; rw [hk.out]) | ((with_reducible refine (YE _ _).mono ?_); rintro e w1 ⟨rfl, rfl⟩; first | rw [hcd.out] | rw [hcn.out]))
 refine (XU t w hc0).mono ?_
 rintro e w2 ⟨A1, c1, n1, g, rfl, T1, hg', hn1', hcl, hnb⟩
 obtain ⟨q0, q1, q2, q3⟩ := hnb.out _ T1.out.bel
 go_wp2_with (first | ((with_reducible refine (Yz _ _).mono ?_); rintro e w1 ⟨rfl, rfl⟩; rw [hk.out]) | ((with_reducible refine (YE _ _).mono ?_); rintro e w1 ⟨rfl, rfl⟩; first | rw [hcd.out] | rw [hcn.out]))
 exact bodyPost_ret (v := .tuple #[.slice A1 n1 c1, .bool true]) Zv rfl (YaW hr.out hg'.out T1.out (by
  unfold tokB; rw [hk.out]; first | (simp [textB, List.append_assoc]; done) | (have e9 : (t.f2.size : Int) % 256 = t.f2.size := Z0; simp [textB, e9, List.append_assoc])))
theorem rbytes_1 (t : Tk) (w : World) (hf : Fits t) (hc : XA t.f0 = true) (hk0 : YO t.f0 = 1) : Calls Try.prog 29 #[tv t, .bool true] w (Vo t w) := by
 by_cases ht : t.f2.toList = ([] : List UInt8)
 rotate_left
 ·exact Z1m
 by_cases h3 : t.f3 = 0
 rotate_left
 ·exact Z1b
 have hk := Aside0.mk hk0
 have hcd := Aside0.mk hc
 have hcn := hcd
 have hc0 := VA hc
 obtain ⟨-, hn, hsz, ho⟩ := hf
 clear hc hk0
 have hr := Aside0.mk (show rightP t true = true by unfold rightP; rw [hk.out, hcd.out]; first | (simp [ht, h3]; done) | (simp [ht, h3]; omega) | (have hq := VA hcc; simp [ht, h3]; omega))
 have ht1 : (t.f2.toList == ([] : List UInt8)) = true := beq_iff_eq.mpr ht
 have ht2 : (t.f2.toList != ([] : List UInt8)) = false := by simp [ht]
 have ht3 : t.f2.toList.isEmpty = true := by simp [ht]
 have ht4 : (!t.f2.toList.isEmpty) = false := by simp [ht]
 have h31 : (t.f3 == 0) = true := beq_iff_eq.mpr h3
 have h32 : (t.f3 != 0) = false := by simp [h3]
 clear ht h3
 have hB0 := Aside0.mk (Yl (Below.refl w.heap.size w) (.cells #[.int .i64 t.f0, .int .u32 t.f1, .string t.f2, .int .i64 t.f3] 37))
 go_enter Try.func29, Try.ntmps29
 go_wp2_with (first | ((with_reducible refine (Yz _ _).mono ?_); rintro e w1 ⟨rfl, rfl⟩; rw [hk.out]) | ((with_reducible refine (YE _ _).mono ?_); rintro e w1 ⟨rfl, rfl⟩; first | rw [hcd.out] | rw [hcn.out]))
 refine (XU t w hc0).mono ?_
 rintro e w2 ⟨A1, c1, n1, g, rfl, T1, hg', hn1', hcl, hnb⟩
 obtain ⟨q0, q1, q2, q3⟩ := hnb.out _ T1.out.bel
 go_wp2_with (first | ((with_reducible refine (Yz _ _).mono ?_); rintro e w1 ⟨rfl, rfl⟩; rw [hk.out]) | ((with_reducible refine (YE _ _).mono ?_); rintro e w1 ⟨rfl, rfl⟩; first | rw [hcd.out] | rw [hcn.out]))
 refine (Us (t.f1 / 65536) Z0 _).mono ?_
 rintro e wq2 ⟨v, rfl, hR, hB⟩
 have Tq := (T1.out.below hB)
 replace Tq := Aside0.mk Tq
 obtain ⟨Aq, cq, rfl, -, hCq⟩ := Kd.R_reads hR
 obtain ⟨q0, q1, q2, q3⟩ := hnb.out _ Tq.out.bel
 replace hCq := Aside0.mk hCq
 clear hR hB
 go_wp2_with (at_builtin; refine Tq.out.rows _ Aq cq rfl rfl rfl rfl hCq.out ZI Z1c ?_)
 intro v2 w12 HN
 obtain ⟨T2, ⟨A2, n2, c2, rfl⟩, -, -⟩ := HN
 replace T2 := Aside0.mk T2
 obtain ⟨q0, q1, q2, q3⟩ := hnb.out _ T2.out.bel
 go_wp2_with (first | ((with_reducible refine (Yz _ _).mono ?_); rintro e w1 ⟨rfl, rfl⟩; rw [hk.out]) | ((with_reducible refine (YE _ _).mono ?_); rintro e w1 ⟨rfl, rfl⟩; first | rw [hcd.out] | rw [hcn.out]))
 refine (Us (t.f1 % 65536) Z0 _).mono ?_
 rintro e wq3 ⟨v, rfl, hR, hB⟩
 have Tq := (T2.out.below hB)
 replace Tq := Aside0.mk Tq
 obtain ⟨Aq, cq, rfl, -, hCq⟩ := Kd.R_reads hR
 obtain ⟨q0, q1, q2, q3⟩ := hnb.out _ Tq.out.bel
 replace hCq := Aside0.mk hCq
 clear hR hB
 go_wp2_with (at_builtin; refine Tq.out.rows _ Aq cq rfl rfl rfl rfl hCq.out ZI Z1c ?_)
 intro v3 w13 HN
 obtain ⟨T3, ⟨A3, n3, c3, rfl⟩, -, -⟩ := HN
 replace T3 := Aside0.mk T3
 obtain ⟨q0, q1, q2, q3⟩ := hnb.out _ T3.out.bel
 go_wp2_with (first | ((with_reducible refine (Yz _ _).mono ?_); rintro e w1 ⟨rfl, rfl⟩; rw [hk.out]) | ((with_reducible refine (YE _ _).mono ?_); rintro e w1 ⟨rfl, rfl⟩; first | rw [hcd.out] | rw [hcn.out]))
 exact bodyPost_ret (v := .tuple #[.slice A3 n3 c3, .bool true]) Zv rfl (YaW hr.out hg'.out T3.out (by
  unfold tokB; rw [hk.out]; first | (simp [textB, List.append_assoc]; done) | (have e9 : (t.f2.size : Int) % 256 = t.f2.size := Z0; simp [textB, e9, List.append_assoc])))
theorem rbytes_2 (t : Tk) (w : World) (hf : Fits t) (hc : XA t.f0 = true) (hk0 : YO t.f0 = 2) : Calls Try.prog 29 #[tv t, .bool true] w (Vo t w) := by
 by_cases ht : t.f2.toList = ([] : List UInt8)
 rotate_left
 ·exact Z1m
 by_cases h3 : t.f3 = 0
 rotate_left
 ·exact Z1b
 have hk := Aside0.mk hk0
 have hcd := Aside0.mk hc
 have hcn := hcd
 have hc0 := VA hc
 obtain ⟨-, hn, hsz, ho⟩ := hf
 clear hc hk0
 by_cases hcond : XA t.f1 = true
 rotate_left
 ·have hr := Aside0.mk (show rightP t true = false by unfold rightP; rw [hk.out, hcd.out]; first | (simp [ht, h3, hcond]; done) | (simp [ht, h3, hcond]; omega))
  have hcc := hcond
  have ht1 : (t.f2.toList == ([] : List UInt8)) = true := beq_iff_eq.mpr ht
  have ht2 : (t.f2.toList != ([] : List UInt8)) = false := by simp [ht]
  have ht3 : t.f2.toList.isEmpty = true := by simp [ht]
  have ht4 : (!t.f2.toList.isEmpty) = false := by simp [ht]
  have h31 : (t.f3 == 0) = true := beq_iff_eq.mpr h3
  have h32 : (t.f3 != 0) = false := by simp [h3]
  have hcx : XA t.f1 = false := by simpa using hcc
  have hcn := Aside0.mk hcx
  clear hcond ht h3 hcc
  have hB0 := Aside0.mk (Yl (Below.refl w.heap.size w) (.cells #[.int .i64 t.f0, .int .u32 t.f1, .string t.f2, .int .i64 t.f3] 37))
  go_enter Try.func29, Try.ntmps29
  go_wp2_with (first | ((with_reducible refine (Yz _ _).mono ?_); rintro e w1 ⟨rfl, rfl⟩; rw [hk.out]) | ((with_reducible refine (YE _ _).mono ?_); rintro e w1 ⟨rfl, rfl⟩; first | rw [hcd.out] | rw [hcn.out]))
  refine (XU t w hc0).mono ?_
  rintro e w2 ⟨A1, c1, n1, g, rfl, T1, hg', hn1', hcl, hnb⟩
  obtain ⟨q0, q1, q2, q3⟩ := hnb.out _ T1.out.bel
  go_wp2_with (first | ((with_reducible refine (Yz _ _).mono ?_); rintro e w1 ⟨rfl, rfl⟩; rw [hk.out]) | ((with_reducible refine (YE _ _).mono ?_); rintro e w1 ⟨rfl, rfl⟩; first | rw [hcd.out] | rw [hcn.out]))
  exact Z1J
 have hcc := hcond
 have hr := Aside0.mk (show rightP t true = true by unfold rightP; rw [hk.out, hcd.out]; first | (simp [ht, h3, hcc]; done) | (simp [ht, h3, hcc]; omega) | (have hq := VA hcc; simp [ht, h3, hcc]; omega))
 have ht1 : (t.f2.toList == ([] : List UInt8)) = true := beq_iff_eq.mpr ht
 have ht2 : (t.f2.toList != ([] : List UInt8)) = false := by simp [ht]
 have ht3 : t.f2.toList.isEmpty = true := by simp [ht]
 have ht4 : (!t.f2.toList.isEmpty) = false := by simp [ht]
 have h31 : (t.f3 == 0) = true := beq_iff_eq.mpr h3
 have h32 : (t.f3 != 0) = false := by simp [h3]
 replace hcn := Aside0.mk hcc
 clear ht h3 hcc
 have hB0 := Aside0.mk (Yl (Below.refl w.heap.size w) (.cells #[.int .i64 t.f0, .int .u32 t.f1, .string t.f2, .int .i64 t.f3] 37))
 go_enter Try.func29, Try.ntmps29
 go_wp2_with (first | ((with_reducible refine (Yz _ _).mono ?_); rintro e w1 ⟨rfl, rfl⟩; rw [hk.out]) | ((with_reducible refine (YE _ _).mono ?_); rintro e w1 ⟨rfl, rfl⟩; first | rw [hcd.out] | rw [hcn.out]))
 refine (XU t w hc0).mono ?_
 rintro e w2 ⟨A1, c1, n1, g, rfl, T1, hg', hn1', hcl, hnb⟩
 obtain ⟨q0, q1, q2, q3⟩ := hnb.out _ T1.out.bel
 go_wp2_with (first | ((with_reducible refine (Yz _ _).mono ?_); rintro e w1 ⟨rfl, rfl⟩; rw [hk.out]) | ((with_reducible refine (YE _ _).mono ?_); rintro e w1 ⟨rfl, rfl⟩; first | rw [hcd.out] | rw [hcn.out]))
 refine (YaE t.f1 hn _).mono ?_
 rintro e wq2 ⟨v, rfl, hR, hB⟩
 have Tq := (T1.out.below hB)
 replace Tq := Aside0.mk Tq
 obtain ⟨Aq, cq, rfl, -, hCq⟩ := Kd.R_reads hR
 obtain ⟨q0, q1, q2, q3⟩ := hnb.out _ Tq.out.bel
 replace hCq := Aside0.mk hCq
 clear hR hB
 go_wp2_with (at_builtin; refine Tq.out.rows _ Aq cq rfl rfl rfl rfl hCq.out ZI Z1c ?_)
 intro v2 w12 HN
 obtain ⟨T2, ⟨A2, n2, c2, rfl⟩, -, -⟩ := HN
 replace T2 := Aside0.mk T2
 obtain ⟨q0, q1, q2, q3⟩ := hnb.out _ T2.out.bel
 go_wp2_with (first | ((with_reducible refine (Yz _ _).mono ?_); rintro e w1 ⟨rfl, rfl⟩; rw [hk.out]) | ((with_reducible refine (YE _ _).mono ?_); rintro e w1 ⟨rfl, rfl⟩; first | rw [hcd.out] | rw [hcn.out]))
 exact bodyPost_ret (v := .tuple #[.slice A2 n2 c2, .bool true]) Zv rfl (YaW hr.out hg'.out T2.out (by
  unfold tokB; rw [hk.out]; first | (simp [textB, List.append_assoc]; done) | (have e9 : (t.f2.size : Int) % 256 = t.f2.size := Z0; simp [textB, e9, List.append_assoc])))
theorem rbytes_3 (t : Tk) (w : World) (hf : Fits t) (hc : XA t.f0 = true) (hk0 : YO t.f0 = 3) : Calls Try.prog 29 #[tv t, .bool true] w (Vo t w) := by
 by_cases hn0 : t.f1 = 0
 rotate_left
 ·exact Z2h
 by_cases h3 : t.f3 = 0
 rotate_left
 ·exact Z1b
 have hk := Aside0.mk hk0
 have hcd := Aside0.mk hc
 have hcn := hcd
 have hc0 := VA hc
 obtain ⟨-, hn, hsz, ho⟩ := hf
 clear hc hk0
 by_cases hcond : t.f2.size ≤ 255
 rotate_left
 ·have hr := Aside0.mk (show rightP t true = false by unfold rightP; rw [hk.out, hcd.out]; first | (simp [hn0, h3, hcond]; done) | (simp [hn0, h3, hcond]; omega))
  have hl := hcond
  have hn01 : (t.f1 == 0) = true := beq_iff_eq.mpr hn0
  have hn02 : (t.f1 != 0) = false := by simp [hn0]
  have h31 : (t.f3 == 0) = true := beq_iff_eq.mpr h3
  have h32 : (t.f3 != 0) = false := by simp [h3]
  have hl1 : decide (255 < t.f2.size) = true := by simp; omega
  have hl2 : ((255 : Int) < (t.f2.size : Int)) = True := eq_true Z0
  clear hcond hn0 h3
  have hB0 := Aside0.mk (Yl (Below.refl w.heap.size w) (.cells #[.int .i64 t.f0, .int .u32 t.f1, .string t.f2, .int .i64 t.f3] 37))
  go_enter Try.func29, Try.ntmps29
  go_wp2_with (first | ((with_reducible refine (Yz _ _).mono ?_); rintro e w1 ⟨rfl, rfl⟩; rw [hk.out]) | ((with_reducible refine (YE _ _).mono ?_); rintro e w1 ⟨rfl, rfl⟩; first | rw [hcd.out] | rw [hcn.out]))
  refine (XU t w hc0).mono ?_
  rintro e w2 ⟨A1, c1, n1, g, rfl, T1, hg', hn1', hcl, hnb⟩
  obtain ⟨q0, q1, q2, q3⟩ := hnb.out _ T1.out.bel
  go_wp2_with (first | ((with_reducible refine (Yz _ _).mono ?_); rintro e w1 ⟨rfl, rfl⟩; rw [hk.out]) | ((with_reducible refine (YE _ _).mono ?_); rintro e w1 ⟨rfl, rfl⟩; first | rw [hcd.out] | rw [hcn.out]))
  exact Z1J
 have hl := hcond
 have hr := Aside0.mk (show rightP t true = true by unfold rightP; rw [hk.out, hcd.out]; first | (simp [hn0, h3, hl]; done) | (simp [hn0, h3, hl]; omega) | (have hq := VA hcc; simp [hn0, h3, hl]; omega))
 have hn01 : (t.f1 == 0) = true := beq_iff_eq.mpr hn0
 have hn02 : (t.f1 != 0) = false := by simp [hn0]
 have h31 : (t.f3 == 0) = true := beq_iff_eq.mpr h3
 have h32 : (t.f3 != 0) = false := by simp [h3]
 have hl1 : decide (255 < t.f2.size) = false := by simp; omega
 have hl2 : ((255 : Int) < (t.f2.size : Int)) = False := eq_false Z0
 clear hn0 h3
 have hB0 := Aside0.mk (Yl (Below.refl w.heap.size w) (.cells #[.int .i64 t.f0, .int .u32 t.f1, .string t.f2, .int .i64 t.f3] 37))
 go_enter Try.func29, Try.ntmps29
 go_wp2_with (first | ((with_reducible refine (Yz _ _).mono ?_); rintro e w1 ⟨rfl, rfl⟩; rw [hk.out]) | ((with_reducible refine (YE _ _).mono ?_); rintro e w1 ⟨rfl, rfl⟩; first | rw [hcd.out] | rw [hcn.out]))
 refine (XU t w hc0).mono ?_
 rintro e w2 ⟨A1, c1, n1, g, rfl, T1, hg', hn1', hcl, hnb⟩
 obtain ⟨q0, q1, q2, q3⟩ := hnb.out _ T1.out.bel
 go_wp2_with (at_builtin; refine T1.out.byte _ rfl rfl rfl rfl ZI ?_)
 intro v2 w12 HN
 obtain ⟨T2, ⟨A2, n2, c2, rfl⟩, -, -⟩ := HN
 replace T2 := Aside0.mk T2
 obtain ⟨q0, q1, q2, q3⟩ := hnb.out _ T2.out.bel
 go_wp2_with (at_builtin; refine T2.out.str rfl rfl rfl t.f2 rfl ZI Z0 ?_)
 intro v3 w13 HN
 obtain ⟨T3, ⟨A3, n3, c3, rfl⟩, -, -⟩ := HN
 replace T3 := Aside0.mk T3
 obtain ⟨q0, q1, q2, q3⟩ := hnb.out _ T3.out.bel
 go_wp2_with (first | ((with_reducible refine (Yz _ _).mono ?_); rintro e w1 ⟨rfl, rfl⟩; rw [hk.out]) | ((with_reducible refine (YE _ _).mono ?_); rintro e w1 ⟨rfl, rfl⟩; first | rw [hcd.out] | rw [hcn.out]))
 exact bodyPost_ret (v := .tuple #[.slice A3 n3 c3, .bool true]) Zv rfl (YaW hr.out hg'.out T3.out (by
  unfold tokB; rw [hk.out]; first | (simp [textB, List.append_assoc]; done) | (have e9 : (t.f2.size : Int) % 256 = t.f2.size := Z0; simp [textB, e9, List.append_assoc])))
theorem rbytes_4 (t : Tk) (w : World) (hf : Fits t) (hc : XA t.f0 = true) (hk0 : YO t.f0 = 4) : Calls Try.prog 29 #[tv t, .bool true] w (Vo t w) := by
 by_cases hn0 : t.f1 = 0
 rotate_left
 ·exact Z2h
 by_cases ht : t.f2.toList = ([] : List UInt8)
 rotate_left
 ·exact Z1m
 have hk := Aside0.mk hk0
 have hcd := Aside0.mk hc
 have hcn := hcd
 have hc0 := VA hc
 obtain ⟨-, hn, hsz, ho⟩ := hf
 clear hc hk0
 have hr : rightP t true = (decide (-32768 ≤ t.f3) && decide (t.f3 ≤ 32767)) := by
  unfold rightP; rw [hk.out, hcd.out]; simp [hn0, ht]
  by_cases h1 : -32768 ≤ t.f3 <;> by_cases h2 : t.f3 ≤ 32767 <;> simp [h1, h2] <;> omega
 replace hr := Aside0.mk hr
 have e1 : IntKind.i64.wrap (t.f3 + 65536) = t.f3 + 65536 := IntWalk.i64_in _ Z0
 have e2 : wrap64 (t.f3 + 65536) = t.f3 + 65536 := IntWalk.wrap64_in _ ⟨Z0, Z0⟩
 have hn01 : (t.f1 == 0) = true := beq_iff_eq.mpr hn0
 have hn02 : (t.f1 != 0) = false := by simp [hn0]
 have ht1 : (t.f2.toList == ([] : List UInt8)) = true := beq_iff_eq.mpr ht
 have ht2 : (t.f2.toList != ([] : List UInt8)) = false := by simp [ht]
 have ht3 : t.f2.toList.isEmpty = true := by simp [ht]
 have ht4 : (!t.f2.toList.isEmpty) = false := by simp [ht]
 clear hn0 ht
 rcases (by omega : (-32768 ≤ t.f3 ∧ t.f3 ≤ 32767) ∨ (-32768 ≤ t.f3 ∧ ¬ t.f3 ≤ 32767) ∨ ¬ -32768 ≤ t.f3) with ⟨ha, hb⟩ | ⟨ha, hb⟩ | ha
 ·have d1 : decide (-32768 ≤ t.f3) = true := by simp; omega
  have d3 : (-32768 ≤ t.f3) = True := eq_true Z0
  have d2 : decide (t.f3 ≤ 32767) = true := by simp; omega
  have d4 : (t.f3 ≤ 32767) = True := eq_true Z0
  have hrr := Aside0.mk (show rightP t true = true by rw [hr.out]; simp [d3, d4])
  have hrg := Aside0.mk (show 0 ≤ t.f3 + 65536 ∧ t.f3 + 65536 < 4294967296 by clear e1 e2; omega)
  have htw := Aside0.mk (show twoB (t.f3 + 65536) = twoB t.f3 by unfold twoB; congr 1; omega; congr 1; omega)
  clear ha hb
  have hB0 := Aside0.mk (Yl (Below.refl w.heap.size w) (.cells #[.int .i64 t.f0, .int .u32 t.f1, .string t.f2, .int .i64 t.f3] 37))
  go_enter Try.func29, Try.ntmps29
  go_wp2_with (first | ((with_reducible refine (Yz _ _).mono ?_); rintro e w1 ⟨rfl, rfl⟩; rw [hk.out]) | ((with_reducible refine (YE _ _).mono ?_); rintro e w1 ⟨rfl, rfl⟩; first | rw [hcd.out] | rw [hcn.out]))
  refine (XU t w hc0).mono ?_
  rintro e w2 ⟨A1, c1, n1, g, rfl, T1, hg', hn1', hcl, hnb⟩
  obtain ⟨q0, q1, q2, q3⟩ := hnb.out _ T1.out.bel
  go_wp2_with (first | ((with_reducible refine (Yz _ _).mono ?_); rintro e w1 ⟨rfl, rfl⟩; rw [hk.out]) | ((with_reducible refine (YE _ _).mono ?_); rintro e w1 ⟨rfl, rfl⟩; first | rw [hcd.out] | rw [hcn.out]))
  have q3' : w2.cell? ⟨w.heap.size, 3, none⟩ = some (.int .i64 t.f3) := q3
  have hBd : Below w2.heap.size w2 w2.drew := YM (Below.refl _ _)
  have T2 := T1.out.below hBd
  generalize hgb : w.heap.size = gb at *
  refine VS (ds := []) (S := fun w' => w'.cell? ⟨gb, 3, none⟩ = some (.int .i64 t.f3)) Z2 rfl rfl q3' (fun tb hS => ?_)
  generalize w2.drew = wd at T2 hS ⊢
  replace T2 := Aside0.mk T2
  clear q0 q1 q2 q3 q3' hBd T1
  refine seg_ [(0, 105), (1, 106), (2, 107), (3, 108), (6, 111), (7, 112), (8, 113)] tb hS Z2 (fun _ _ _ _ h => h) (a' := ?_) ?_ ?_
  rotate_left
  ·repeat (first | exact Seg.nil | (refine Seg.on (v := ?_) (a1 := ?_) rfl rfl Z4 ?_ ?_ ?_; rotate_left 2; (rintro w' hS; go_simp; with_reducible rfl); (simp only [Act.put, List.setIfInBounds_toArray, List.set_cons_zero, List.set_cons_succ, Yy, YA]; rfl)) | (refine Seg.off (a1 := ?_) rfl rfl Z4 ?_ ?_; rotate_left; (simp only [Act.put, List.setIfInBounds_toArray, List.set_cons_zero, List.set_cons_succ, Yy, YA]; rfl)))
  refine eff_ 4 tb rfl Z2 ?_
  go_wp2_with fail
  refine (Us (t.f3 + 65536) hrg.out _).mono ?_
  rintro e w3 ⟨v, rfl, hR, hB⟩
  have hl2 := Aside0.mk (show (twoB (t.f3 + 65536)).length = 2 from rfl)
  obtain ⟨Aq, cq, rfl, -, hCq⟩ := Kd.R_reads hR
  have T3 := Aside0.mk (T2.out.below hB)
  replace hCq := Aside0.mk hCq
  have q3 := (hnb.out _ T3.out.bel).c3
  clear hR hB T2
  go_wp2_with fail
  refine ql_ ⟨q3, fun hS => ?_⟩
  refine eff_ 5 tb rfl Z2 ?_
  refine T3.out.rows _ Aq cq rfl rfl rfl rfl hCq.out (by rw [hn1'.out]; omega) (by rw [hl2.out]; decide) ?_
  intro v4 w4 HN
  obtain ⟨T4, ⟨A4, n4, c4, rfl⟩, -, -⟩ := HN
  replace T4 := Aside0.mk T4
  have q4 := (hnb.out _ T4.out.bel).c3
  refine ql_ ⟨q4, fun hS => ?_⟩
  refine seg_ [(9, 114), (10, 115), (11, 116), (12, 117), (13, 118), (14, 4), (15, 5)] tb hS Z2 (fun _ _ _ _ h => h) (a' := ?_) ?_ ?_
  rotate_left
  ·repeat (first | exact Seg.nil | (refine Seg.on (v := ?_) (a1 := ?_) rfl rfl Z4 ?_ ?_ ?_; rotate_left 2; (rintro w' hS; go_simp; with_reducible rfl); (simp only [Act.put, List.setIfInBounds_toArray, List.set_cons_zero, List.set_cons_succ, Yy, YA]; rfl)) | (refine Seg.off (a1 := ?_) rfl rfl Z4 ?_ ?_; rotate_left; (simp only [Act.put, List.setIfInBounds_toArray, List.set_cons_zero, List.set_cons_succ, Yy, YA]; rfl)))
  refine end_ tb Z2 ?_
  go_wp2_with fail
  exact bodyPost_ret (v := .tuple #[.slice A4 n4 c4, .bool true]) Zv rfl (by subst hgb; exact YaW hrr.out hg'.out T4.out (by unfold tokB; rw [hk.out, htw.out]; simp))
 ·have d1 : decide (-32768 ≤ t.f3) = true := by simp; omega
  have d3 : (-32768 ≤ t.f3) = True := eq_true Z0
  have d2 : decide (t.f3 ≤ 32767) = false := by simp; omega
  have d4 : (t.f3 ≤ 32767) = False := eq_false Z0
  have hrr := Aside0.mk (show rightP t true = false by rw [hr.out]; simp [d3, d4])
  clear ha hb
  have hB0 := Aside0.mk (Yl (Below.refl w.heap.size w) (.cells #[.int .i64 t.f0, .int .u32 t.f1, .string t.f2, .int .i64 t.f3] 37))
  go_enter Try.func29, Try.ntmps29
  go_wp2_with (first | ((with_reducible refine (Yz _ _).mono ?_); rintro e w1 ⟨rfl, rfl⟩; rw [hk.out]) | ((with_reducible refine (YE _ _).mono ?_); rintro e w1 ⟨rfl, rfl⟩; first | rw [hcd.out] | rw [hcn.out]))
  refine (XU t w hc0).mono ?_
  rintro e w2 ⟨A1, c1, n1, g, rfl, T1, hg', hn1', hcl, hnb⟩
  obtain ⟨q0, q1, q2, q3⟩ := hnb.out _ T1.out.bel
  go_wp2_with (first | ((with_reducible refine (Yz _ _).mono ?_); rintro e w1 ⟨rfl, rfl⟩; rw [hk.out]) | ((with_reducible refine (YE _ _).mono ?_); rintro e w1 ⟨rfl, rfl⟩; first | rw [hcd.out] | rw [hcn.out]))
  have q3' : w2.cell? ⟨w.heap.size, 3, none⟩ = some (.int .i64 t.f3) := q3
  have hBd : Below w2.heap.size w2 w2.drew := YM (Below.refl _ _)
  have T2 := T1.out.below hBd
  generalize hgb : w.heap.size = gb at *
  refine VS (ds := []) (S := fun w' => w'.cell? ⟨gb, 3, none⟩ = some (.int .i64 t.f3)) Z2 rfl rfl q3' (fun tb hS => ?_)
  generalize w2.drew = wd at T2 hS ⊢
  replace T2 := Aside0.mk T2
  clear q0 q1 q2 q3 q3' hBd T1
  refine seg_ [(0, 105), (1, 106), (2, 107), (3, 108), (6, 111), (7, 112), (8, 113)] tb hS Z2 (fun _ _ _ _ h => h) (a' := ?_) ?_ ?_
  rotate_left
  ·repeat (first | exact Seg.nil | (refine Seg.on (v := ?_) (a1 := ?_) rfl rfl Z4 ?_ ?_ ?_; rotate_left 2; (rintro w' hS; go_simp; with_reducible rfl); (simp only [Act.put, List.setIfInBounds_toArray, List.set_cons_zero, List.set_cons_succ, Yy, YA]; rfl)) | (refine Seg.off (a1 := ?_) rfl rfl Z4 ?_ ?_; rotate_left; (simp only [Act.put, List.setIfInBounds_toArray, List.set_cons_zero, List.set_cons_succ, Yy, YA]; rfl)))
  refine eff_ 4 tb rfl Z2 ?_
  go_wp2_with fail
  refine (YdU (t.f3 + 65536) _).mono ?_
  rintro e w3 ⟨l2, hl2, v, rfl, hR, hB⟩
  replace hl2 := Aside0.mk hl2
  obtain ⟨Aq, cq, rfl, -, hCq⟩ := Kd.R_reads hR
  have T3 := Aside0.mk (T2.out.below hB)
  replace hCq := Aside0.mk hCq
  have q3 := (hnb.out _ T3.out.bel).c3
  clear hR hB T2
  go_wp2_with fail
  refine ql_ ⟨q3, fun hS => ?_⟩
  refine eff_ 5 tb rfl Z2 ?_
  refine T3.out.rows _ Aq cq rfl rfl rfl rfl hCq.out (by rw [hn1'.out]; omega) (by rw [hl2.out]; decide) ?_
  intro v4 w4 HN
  obtain ⟨T4, ⟨A4, n4, c4, rfl⟩, -, -⟩ := HN
  replace T4 := Aside0.mk T4
  have q4 := (hnb.out _ T4.out.bel).c3
  refine ql_ ⟨q4, fun hS => ?_⟩
  refine seg_ [(9, 114), (10, 115), (11, 116), (12, 117), (13, 118), (14, 4), (15, 5)] tb hS Z2 (fun _ _ _ _ h => h) (a' := ?_) ?_ ?_
  rotate_left
  ·repeat (first | exact Seg.nil | (refine Seg.on (v := ?_) (a1 := ?_) rfl rfl Z4 ?_ ?_ ?_; rotate_left 2; (rintro w' hS; go_simp; with_reducible rfl); (simp only [Act.put, List.setIfInBounds_toArray, List.set_cons_zero, List.set_cons_succ, Yy, YA]; rfl)) | (refine Seg.off (a1 := ?_) rfl rfl Z4 ?_ ?_; rotate_left; (simp only [Act.put, List.setIfInBounds_toArray, List.set_cons_zero, List.set_cons_succ, Yy, YA]; rfl)))
  refine end_ tb Z2 ?_
  go_wp2_with fail
  exact Z2U
 ·have d1 : decide (-32768 ≤ t.f3) = false := by simp; omega
  have d3 : (-32768 ≤ t.f3) = False := eq_false Z0
  have hrr := Aside0.mk (show rightP t true = false by rw [hr.out]; simp [d3])
  clear ha
  have hB0 := Aside0.mk (Yl (Below.refl w.heap.size w) (.cells #[.int .i64 t.f0, .int .u32 t.f1, .string t.f2, .int .i64 t.f3] 37))
  go_enter Try.func29, Try.ntmps29
  go_wp2_with (first | ((with_reducible refine (Yz _ _).mono ?_); rintro e w1 ⟨rfl, rfl⟩; rw [hk.out]) | ((with_reducible refine (YE _ _).mono ?_); rintro e w1 ⟨rfl, rfl⟩; first | rw [hcd.out] | rw [hcn.out]))
  refine (XU t w hc0).mono ?_
  rintro e w2 ⟨A1, c1, n1, g, rfl, T1, hg', hn1', hcl, hnb⟩
  obtain ⟨q0, q1, q2, q3⟩ := hnb.out _ T1.out.bel
  go_wp2_with (first | ((with_reducible refine (Yz _ _).mono ?_); rintro e w1 ⟨rfl, rfl⟩; rw [hk.out]) | ((with_reducible refine (YE _ _).mono ?_); rintro e w1 ⟨rfl, rfl⟩; first | rw [hcd.out] | rw [hcn.out]))
  have q3' : w2.cell? ⟨w.heap.size, 3, none⟩ = some (.int .i64 t.f3) := q3
  have hBd : Below w2.heap.size w2 w2.drew := YM (Below.refl _ _)
  have T2 := T1.out.below hBd
  generalize hgb : w.heap.size = gb at *
  refine VS (ds := []) (S := fun w' => w'.cell? ⟨gb, 3, none⟩ = some (.int .i64 t.f3)) Z2 rfl rfl q3' (fun tb hS => ?_)
  generalize w2.drew = wd at T2 hS ⊢
  replace T2 := Aside0.mk T2
  clear q0 q1 q2 q3 q3' hBd T1
  refine seg_ [(0, 105), (1, 106), (2, 107), (3, 108), (6, 111), (7, 112), (8, 113)] tb hS Z2 (fun _ _ _ _ h => h) (a' := ?_) ?_ ?_
  rotate_left
  ·repeat (first | exact Seg.nil | (refine Seg.on (v := ?_) (a1 := ?_) rfl rfl Z4 ?_ ?_ ?_; rotate_left 2; (rintro w' hS; go_simp; with_reducible rfl); (simp only [Act.put, List.setIfInBounds_toArray, List.set_cons_zero, List.set_cons_succ, Yy, YA]; rfl)) | (refine Seg.off (a1 := ?_) rfl rfl Z4 ?_ ?_; rotate_left; (simp only [Act.put, List.setIfInBounds_toArray, List.set_cons_zero, List.set_cons_succ, Yy, YA]; rfl)))
  refine eff_ 4 tb rfl Z2 ?_
  go_wp2_with fail
  refine (YdU (t.f3 + 65536) _).mono ?_
  rintro e w3 ⟨l2, hl2, v, rfl, hR, hB⟩
  replace hl2 := Aside0.mk hl2
  obtain ⟨Aq, cq, rfl, -, hCq⟩ := Kd.R_reads hR
  have T3 := Aside0.mk (T2.out.below hB)
  replace hCq := Aside0.mk hCq
  have q3 := (hnb.out _ T3.out.bel).c3
  clear hR hB T2
  go_wp2_with fail
  refine ql_ ⟨q3, fun hS => ?_⟩
  refine eff_ 5 tb rfl Z2 ?_
  refine T3.out.rows _ Aq cq rfl rfl rfl rfl hCq.out (by rw [hn1'.out]; omega) (by rw [hl2.out]; decide) ?_
  intro v4 w4 HN
  obtain ⟨T4, ⟨A4, n4, c4, rfl⟩, -, -⟩ := HN
  replace T4 := Aside0.mk T4
  have q4 := (hnb.out _ T4.out.bel).c3
  refine ql_ ⟨q4, fun hS => ?_⟩
  refine seg_ [(9, 114), (10, 115), (11, 116), (12, 117), (13, 118), (14, 4), (15, 5)] tb hS Z2 (fun _ _ _ _ h => h) (a' := ?_) ?_ ?_
  rotate_left
  ·repeat (first | exact Seg.nil | (refine Seg.on (v := ?_) (a1 := ?_) rfl rfl Z4 ?_ ?_ ?_; rotate_left 2; (rintro w' hS; go_simp; with_reducible rfl); (simp only [Act.put, List.setIfInBounds_toArray, List.set_cons_zero, List.set_cons_succ, Yy, YA]; rfl)) | (refine Seg.off (a1 := ?_) rfl rfl Z4 ?_ ?_; rotate_left; (simp only [Act.put, List.setIfInBounds_toArray, List.set_cons_zero, List.set_cons_succ, Yy, YA]; rfl)))
  refine end_ tb Z2 ?_
  go_wp2_with fail
  exact Z2U
theorem rbytes_5 (t : Tk) (w : World) (hf : Fits t) (hc : XA t.f0 = true) (hk0 : YO t.f0 = 5) : Calls Try.prog 29 #[tv t, .bool true] w (Vo t w) := by
 by_cases ht : t.f2.toList = ([] : List UInt8)
 rotate_left
 ·exact Z1m
 by_cases h3 : t.f3 = 0
 rotate_left
 ·exact Z1b
 have hk := Aside0.mk hk0
 have hcd := Aside0.mk hc
 have hcn := hcd
 have hc0 := VA hc
 obtain ⟨-, hn, hsz, ho⟩ := hf
 clear hc hk0
 by_cases hcond : 2048 ≤ t.f1 ∧ t.f1 ≤ 4095 ∧ t.f2.size ≤ 31
 rotate_left
 ·have hr := Aside0.mk (show rightP t true = false by unfold rightP; rw [hk.out, hcd.out]; simp [ht, h3]; omega)
  have ht1 : (t.f2.toList == ([] : List UInt8)) = true := beq_iff_eq.mpr ht
  have ht2 : (t.f2.toList != ([] : List UInt8)) = false := by simp [ht]
  have ht3 : t.f2.toList.isEmpty = true := by simp [ht]
  have ht4 : (!t.f2.toList.isEmpty) = false := by simp [ht]
  have h31 : (t.f3 == 0) = true := beq_iff_eq.mpr h3
  have h32 : (t.f3 != 0) = false := by simp [h3]
  clear ht h3
  rcases (by omega : t.f1 < 2048 ∨ (2048 ≤ t.f1 ∧ 4095 < t.f1) ∨ (2048 ≤ t.f1 ∧ t.f1 ≤ 4095 ∧ 31 < t.f2.size)) with h1 | ⟨h1, h2⟩ | ⟨h1, h2, h3⟩
  all_goals
   have hs1 : ((31 : Int) < (t.f2.size : Int)) = (31 < t.f2.size) := propext Z0
   clear hcond
   have hB0 := Aside0.mk (Yl (Below.refl w.heap.size w) (.cells #[.int .i64 t.f0, .int .u32 t.f1, .string t.f2, .int .i64 t.f3] 37))
   go_enter Try.func29, Try.ntmps29
   go_wp2_with (first | ((with_reducible refine (Yz _ _).mono ?_); rintro e w1 ⟨rfl, rfl⟩; rw [hk.out]) | ((with_reducible refine (YE _ _).mono ?_); rintro e w1 ⟨rfl, rfl⟩; first | rw [hcd.out] | rw [hcn.out]))
   refine (XU t w hc0).mono ?_
   rintro e w2 ⟨A1, c1, n1, g, rfl, T1, hg', hn1', hcl, hnb⟩
   obtain ⟨q0, q1, q2, q3⟩ := hnb.out _ T1.out.bel
   go_wp2_with (first | ((with_reducible refine (Yz _ _).mono ?_); rintro e w1 ⟨rfl, rfl⟩; rw [hk.out]) | ((with_reducible refine (YE _ _).mono ?_); rintro e w1 ⟨rfl, rfl⟩; first | rw [hcd.out] | rw [hcn.out]))
   exact Z1J
 obtain ⟨hlo, hhi, hs⟩ := hcond
 have hr := Aside0.mk (show rightP t true = true by unfold rightP; rw [hk.out, hcd.out]; first | (simp [ht, h3, hlo, hhi, hs]; done) | (simp [ht, h3, hlo, hhi, hs]; omega) | (have hq := VA hcc; simp [ht, h3, hlo, hhi, hs]; omega))
 have ht1 : (t.f2.toList == ([] : List UInt8)) = true := beq_iff_eq.mpr ht
 have ht2 : (t.f2.toList != ([] : List UInt8)) = false := by simp [ht]
 have ht3 : t.f2.toList.isEmpty = true := by simp [ht]
 have ht4 : (!t.f2.toList.isEmpty) = false := by simp [ht]
 have h31 : (t.f3 == 0) = true := beq_iff_eq.mpr h3
 have h32 : (t.f3 != 0) = false := by simp [h3]
 have hlo1 : (t.f1 < 2048) = False := eq_false Z0
 have hlo2 : decide (t.f1 < 2048) = false := by simp; omega
 have hhi1 : (4095 < t.f1) = False := eq_false Z0
 have hhi2 : decide (4095 < t.f1) = false := by simp; omega
 have hs1 : decide (31 < t.f2.size) = false := by simp; omega
 have hs2 : ((31 : Int) < (t.f2.size : Int)) = False := eq_false Z0
 clear ht h3
 have hB0 := Aside0.mk (Yl (Below.refl w.heap.size w) (.cells #[.int .i64 t.f0, .int .u32 t.f1, .string t.f2, .int .i64 t.f3] 37))
 go_enter Try.func29, Try.ntmps29
 go_wp2_with (first | ((with_reducible refine (Yz _ _).mono ?_); rintro e w1 ⟨rfl, rfl⟩; rw [hk.out]) | ((with_reducible refine (YE _ _).mono ?_); rintro e w1 ⟨rfl, rfl⟩; first | rw [hcd.out] | rw [hcn.out]))
 refine (XU t w hc0).mono ?_
 rintro e w2 ⟨A1, c1, n1, g, rfl, T1, hg', hn1', hcl, hnb⟩
 obtain ⟨q0, q1, q2, q3⟩ := hnb.out _ T1.out.bel
 go_wp2_with (first | ((with_reducible refine (Yz _ _).mono ?_); rintro e w1 ⟨rfl, rfl⟩; rw [hk.out]) | ((with_reducible refine (YE _ _).mono ?_); rintro e w1 ⟨rfl, rfl⟩; first | rw [hcd.out] | rw [hcn.out]))
 refine (Us t.f1 hn _).mono ?_
 rintro e wq2 ⟨v, rfl, hR, hB⟩
 have Tq := (T1.out.below hB)
 replace Tq := Aside0.mk Tq
 obtain ⟨Aq, cq, rfl, -, hCq⟩ := Kd.R_reads hR
 obtain ⟨q0, q1, q2, q3⟩ := hnb.out _ Tq.out.bel
 replace hCq := Aside0.mk hCq
 clear hR hB
 go_wp2_with (at_builtin; refine Tq.out.rows _ Aq cq rfl rfl rfl rfl hCq.out ZI Z1c ?_)
 intro v2 w12 HN
 obtain ⟨T2, ⟨A2, n2, c2, rfl⟩, -, -⟩ := HN
 replace T2 := Aside0.mk T2
 obtain ⟨q0, q1, q2, q3⟩ := hnb.out _ T2.out.bel
 go_wp2_with (first | ((with_reducible refine (Yz _ _).mono ?_); rintro e w1 ⟨rfl, rfl⟩; rw [hk.out]) | ((with_reducible refine (YE _ _).mono ?_); rintro e w1 ⟨rfl, rfl⟩; first | rw [hcd.out] | rw [hcn.out]))
 exact bodyPost_ret (v := .tuple #[.slice A2 n2 c2, .bool true]) Zv rfl (YaW hr.out hg'.out T2.out (by
  unfold tokB; rw [hk.out]; first | (simp [textB, List.append_assoc]; done) | (have e9 : (t.f2.size : Int) % 256 = t.f2.size := Z0; simp [textB, e9, List.append_assoc])))
theorem rbytes_6 (t : Tk) (w : World) (hf : Fits t) (hc : XA t.f0 = true) (hk0 : YO t.f0 = 6) : Calls Try.prog 29 #[tv t, .bool true] w (Vo t w) := by
 by_cases h3 : t.f3 = 0
 rotate_left
 ·exact Z1b
 have hk := Aside0.mk hk0
 have hcd := Aside0.mk hc
 have hcn := hcd
 have hc0 := VA hc
 obtain ⟨-, hn, hsz, ho⟩ := hf
 clear hc hk0
 by_cases hcond : 2048 ≤ t.f1 ∧ t.f1 ≤ 4095 ∧ t.f2.size ≤ 31
 rotate_left
 ·have hr := Aside0.mk (show rightP t true = false by unfold rightP; rw [hk.out, hcd.out]; simp [h3]; omega)
  have h31 : (t.f3 == 0) = true := beq_iff_eq.mpr h3
  have h32 : (t.f3 != 0) = false := by simp [h3]
  clear h3
  rcases (by omega : t.f1 < 2048 ∨ (2048 ≤ t.f1 ∧ 4095 < t.f1) ∨ (2048 ≤ t.f1 ∧ t.f1 ≤ 4095 ∧ 31 < t.f2.size)) with h1 | ⟨h1, h2⟩ | ⟨h1, h2, h3⟩
  all_goals
   have hs1 : ((31 : Int) < (t.f2.size : Int)) = (31 < t.f2.size) := propext Z0
   clear hcond
   have hB0 := Aside0.mk (Yl (Below.refl w.heap.size w) (.cells #[.int .i64 t.f0, .int .u32 t.f1, .string t.f2, .int .i64 t.f3] 37))
   go_enter Try.func29, Try.ntmps29
   go_wp2_with (first | ((with_reducible refine (Yz _ _).mono ?_); rintro e w1 ⟨rfl, rfl⟩; rw [hk.out]) | ((with_reducible refine (YE _ _).mono ?_); rintro e w1 ⟨rfl, rfl⟩; first | rw [hcd.out] | rw [hcn.out]))
   refine (XU t w hc0).mono ?_
   rintro e w2 ⟨A1, c1, n1, g, rfl, T1, hg', hn1', hcl, hnb⟩
   obtain ⟨q0, q1, q2, q3⟩ := hnb.out _ T1.out.bel
   go_wp2_with (first | ((with_reducible refine (Yz _ _).mono ?_); rintro e w1 ⟨rfl, rfl⟩; rw [hk.out]) | ((with_reducible refine (YE _ _).mono ?_); rintro e w1 ⟨rfl, rfl⟩; first | rw [hcd.out] | rw [hcn.out]))
   exact Z1J
 obtain ⟨hlo, hhi, hs⟩ := hcond
 have hr := Aside0.mk (show rightP t true = true by unfold rightP; rw [hk.out, hcd.out]; first | (simp [h3, hlo, hhi, hs]; done) | (simp [h3, hlo, hhi, hs]; omega) | (have hq := VA hcc; simp [h3, hlo, hhi, hs]; omega))
 have h31 : (t.f3 == 0) = true := beq_iff_eq.mpr h3
 have h32 : (t.f3 != 0) = false := by simp [h3]
 have hlo1 : (t.f1 < 2048) = False := eq_false Z0
 have hlo2 : decide (t.f1 < 2048) = false := by simp; omega
 have hhi1 : (4095 < t.f1) = False := eq_false Z0
 have hhi2 : decide (4095 < t.f1) = false := by simp; omega
 have hs1 : decide (31 < t.f2.size) = false := by simp; omega
 have hs2 : ((31 : Int) < (t.f2.size : Int)) = False := eq_false Z0
 clear h3
 have hB0 := Aside0.mk (Yl (Below.refl w.heap.size w) (.cells #[.int .i64 t.f0, .int .u32 t.f1, .string t.f2, .int .i64 t.f3] 37))
 go_enter Try.func29, Try.ntmps29
 go_wp2_with (first | ((with_reducible refine (Yz _ _).mono ?_); rintro e w1 ⟨rfl, rfl⟩; rw [hk.out]) | ((with_reducible refine (YE _ _).mono ?_); rintro e w1 ⟨rfl, rfl⟩; first | rw [hcd.out] | rw [hcn.out]))
 refine (XU t w hc0).mono ?_
 rintro e w2 ⟨A1, c1, n1, g, rfl, T1, hg', hn1', hcl, hnb⟩
 obtain ⟨q0, q1, q2, q3⟩ := hnb.out _ T1.out.bel
 go_wp2_with (at_builtin; refine T1.out.byte _ rfl rfl rfl rfl ZI ?_)
 intro v2 w12 HN
 obtain ⟨T2, ⟨A2, n2, c2, rfl⟩, -, -⟩ := HN
 replace T2 := Aside0.mk T2
 obtain ⟨q0, q1, q2, q3⟩ := hnb.out _ T2.out.bel
 go_wp2_with (at_builtin; refine T2.out.str rfl rfl rfl t.f2 rfl ZI Z0 ?_)
 intro v3 w13 HN
 obtain ⟨T3, ⟨A3, n3, c3, rfl⟩, -, -⟩ := HN
 replace T3 := Aside0.mk T3
 obtain ⟨q0, q1, q2, q3⟩ := hnb.out _ T3.out.bel
 go_wp2_with (first | ((with_reducible refine (Yz _ _).mono ?_); rintro e w1 ⟨rfl, rfl⟩; rw [hk.out]) | ((with_reducible refine (YE _ _).mono ?_); rintro e w1 ⟨rfl, rfl⟩; first | rw [hcd.out] | rw [hcn.out]))
 refine (Us t.f1 hn _).mono ?_
 rintro e wq4 ⟨v, rfl, hR, hB⟩
 have Tq := (T3.out.below hB)
 replace Tq := Aside0.mk Tq
 obtain ⟨Aq, cq, rfl, -, hCq⟩ := Kd.R_reads hR
 obtain ⟨q0, q1, q2, q3⟩ := hnb.out _ Tq.out.bel
 replace hCq := Aside0.mk hCq
 clear hR hB
 go_wp2_with (at_builtin; refine Tq.out.rows _ Aq cq rfl rfl rfl rfl hCq.out ZI Z1c ?_)
 intro v4 w14 HN
 obtain ⟨T4, ⟨A4, n4, c4, rfl⟩, -, -⟩ := HN
 replace T4 := Aside0.mk T4
 obtain ⟨q0, q1, q2, q3⟩ := hnb.out _ T4.out.bel
 go_wp2_with (first | ((with_reducible refine (Yz _ _).mono ?_); rintro e w1 ⟨rfl, rfl⟩; rw [hk.out]) | ((with_reducible refine (YE _ _).mono ?_); rintro e w1 ⟨rfl, rfl⟩; first | rw [hcd.out] | rw [hcn.out]))
 exact bodyPost_ret (v := .tuple #[.slice A4 n4 c4, .bool true]) Zv rfl (YaW hr.out hg'.out T4.out (by
  unfold tokB; rw [hk.out]; first | (simp [textB, List.append_assoc]; done) | (have e9 : (t.f2.size : Int) % 256 = t.f2.size := Z0; simp [textB, e9, List.append_assoc])))
theorem rbytes_u (t : Tk) (w : World) (hc : XA t.f0 = false) : Calls Try.prog 29 #[tv t, .bool true] w (Vo t w) := by
 have hr := Aside0.mk (show rightP t true = false by unfold rightP; rw [hc]; rfl)
 have hcd := Aside0.mk hc
 have hB0 := Aside0.mk (Yl (Below.refl w.heap.size w) (.cells #[.int .i64 t.f0, .int .u32 t.f1, .string t.f2, .int .i64 t.f3] 37))
 clear hc
 go_enter Try.func29, Try.ntmps29
 go_wp2_with ((with_reducible refine (YE _ _).mono ?_); rintro e w1 ⟨rfl, rfl⟩; rw [hcd.out])
 exact bodyPost_ret (v := .tuple #[.slice none 0 0, .bool false]) Zv rfl (bp_no hr.out hB0.out)
theorem YeK (t : Tk) (hf : Fits t) (w : World) : Calls Try.prog 29 #[tv t, .bool true] w (Vo t w) := by
 cases hc : XA t.f0 with
 | false => exact rbytes_u t w hc
 | true =>
   rcases behindP_all t.f0 with hk | hk | hk | hk | hk | hk | hk
   ·exact rbytes_0 t w hf hc hk
   ·exact rbytes_1 t w hf hc hk
   ·exact rbytes_2 t w hf hc hk
   ·exact rbytes_3 t w hf hc hk
   ·exact rbytes_4 t w hf hc hk
   ·exact rbytes_5 t w hf hc hk
   ·exact rbytes_6 t w hf hc hk
theorem Ydg (t : Tk) (hf : Fits t) (w : World) : Calls Try.prog 14 #[tv t, .bool true] w fun e w' => e = .returned (.int .i64 (VB t)) ∧ Below w.heap.size w w' := by
 have hB0 := Yl (Below.refl w.heap.size w) (.cells #[.int .i64 t.f0, .int .u32 t.f1, .string t.f2, .int .i64 t.f3] 37)
 have hnew := XN w (.cells #[.int .i64 t.f0, .int .u32 t.f1, .string t.f2, .int .i64 t.f3] 37)
 have hC := Aside0.mk (fun W => YeK t hf W)
 have hu : VB t = if rightP t true then ((tokB t true).length : Int) else 0 := rfl
 rw [hu]
 clear hu
 cases hr : rightP t true with
 | false =>
   replace hr := Aside0.mk hr
   rw [if_neg Z1]
   go_enter Try.func14, Try.ntmps14
   go_wp2_with fail
   refine (hC.out _).mono ?_
   rintro e w1 ⟨A, n, c, rfl, -, hB⟩
   rw [hr.out]
   have hBB := Aside0.mk (hB0.trans (hB.mono hB0.size))
   clear hB hB0 hnew
   go_wp2_with fail
   exact bodyPost_ret (v := .int .i64 0) (by simp [results, Try.results14, go_sem]) rfl ⟨rfl, hBB.out⟩
 | true =>
   replace hr := Aside0.mk hr
   rw [if_pos rfl]
   go_enter Try.func14, Try.ntmps14
   go_wp2_with fail
   refine (hC.out _).mono ?_
   rintro e w1 ⟨A, n, c, rfl, hR, hB⟩
   have hn := (Kd.R_reads' (hR hr.out)).1
   rw [hr.out]
   have hBB := Aside0.mk (hB0.trans (hB.mono hB0.size))
   clear hB hB0 hnew hR
   subst hn
   go_wp2_with fail
   exact bodyPost_ret (v := .int .i64 ((tokB t true).length : Int)) (by simp [results, Try.results14, go_sem]) rfl ⟨rfl, hBB.out⟩
end Go.Proofs.Ytehmhgpogpbjiaa.Fcc
