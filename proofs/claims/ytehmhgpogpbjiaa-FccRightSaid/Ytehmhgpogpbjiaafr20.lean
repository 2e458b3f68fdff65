import Derived.Test.Ytehmhgpogpbjiaafr19
set_option linter.unusedVariables false
set_option linter.unusedSimpArgs false
set_option maxRecDepth 100000
set_option maxHeartbeats 8000000
namespace Go.Proofs.Ytehmhgpogpbjiaa.Fcc
open Go.RowKit Go.Proofs.YtehmhgpogpbjiaaW.PrintWords Go.Proofs.YtehmhgpogpbjiaaW.PrintLast Go.Proofs.YtehmhgpogpbjiaaW.PrintMore Go.Proofs.Ytehmhgpogpbjiaa.PFccTokens
theorem nums_reps {q : IntKind} {R : Int → List Value → Prop} (hR : ∀ x, R x [.int q x]) (xs : List Int) : Reps R 1 xs (nums q xs) := by
 refine ⟨(by simp [nums]), fun j p hj => ?_⟩
 obtain ⟨hl, he⟩ := List.getElem?_eq_some_iff.1 hj
 have : ((nums q xs).drop (j * 1)).take 1 = [.int q p] := by
  rw [Nat.mul_one, List.drop_eq_getElem_cons (by simpa [nums] using hl)]
  simp [nums, he]
 rw [this]
 exact hR p
theorem reps_nums {q : IntKind} {R : Int → List Value → Prop} (hR : ∀ x cs, R x cs → cs = [.int q x]) {xs : List Int} {cs : List Value} (h : Reps R 1 xs cs) : cs = nums q xs := by
 refine List.ext_getElem? fun j => ?_
 have hl : cs.length = xs.length := by simpa using h.1
 rcases Nat.lt_or_ge j xs.length with hj | hj
 ·have h1 := hR _ _ (h.2 j _ (List.getElem?_eq_getElem hj))
  rw [Nat.mul_one, List.drop_eq_getElem_cons Z0] at h1
  simp only [List.take_succ_cons, List.take_zero] at h1
  injection h1 with h1 _
  rw [List.getElem?_eq_getElem Z0, h1]
  simp [nums, hj]
 ·rw [List.getElem?_eq_none Z0, List.getElem?_eq_none (by simpa [nums] using hj)]
theorem YaP {q : IntKind} {e base : Nat} {W : World} {ok : Nat → Prop} {v : Value} {xs : List Int} : Kd.R (Kd.int q) e W base ok v xs ↔ (∀ k, v.ownBlock = some k → ok k) ∧ W.ownsRow base e 1 v xs.length (nums q xs) := by
 constructor
 ·rintro ⟨h0, inner, ho, hr⟩
  have := reps_nums (q := q) (fun x cs h => h) hr
  subst this
  exact ⟨h0, ho⟩
 ·rintro ⟨h0, ho⟩
  exact ⟨h0, nums q xs, ho, nums_reps (R := (Kd.int q).M W base fun k => ok k ∧ some k ≠ v.ownBlock) (fun x => rfl) xs⟩
def codeB (c : Int) : List Int := if 255 < c then [c / 256 % 256, c % 256] else [c % 256]
def twoB (n : Int) : List Int := [n / 256 % 256, n % 256]
def textB (s : ByteArray) : List Int := ((s.size : Int) % 256) :: Xl s
def tokB (t : Tk) (wide : Bool) : List Int := codeB t.f0 ++ (if Yr t.f0 = 1 then twoB (t.f1 / 65536) ++ twoB (t.f1 % 65536) else if Yr t.f0 = 2 then codeB t.f1 else if Yr t.f0 = 3 then textB t.f2
 else if Yr t.f0 = 4 then (if wide then twoB t.f3 else [t.f3 % 256]) else if Yr t.f0 = 6 then textB t.f2 ++ twoB t.f1 else if Yr t.f0 = 5 then twoB t.f1 else [])
abbrev Wr (w : World) (base g : Nat) (vs : List Value) (o : Nat → Nat) (b : List Int) : Prop := St w base g 111 0 vs o [rowF (Kd.int .u8) 5 base b]
theorem Wr.cells {w : World} {base g : Nat} {vs : List Value} {o : Nat → Nat} {b : List Int} (h : Wr w base g vs o b) (hl : vs.length = 1) : ∃ A c, vs = [.slice A b.length c] := by
 match vs, hl with
 | [v], _ =>
   obtain ⟨A, c, rfl⟩ := Kd.R_slice (h.row 0 v _ rfl rfl)
   exact ⟨_, _, rfl⟩
def Typ (w w' : World) : Prop := ∀ (k : Nat) (cells : Array Value) (q : Nat), w.heap[k]? = some (.cells cells q (0, 0)) → q ≠ 5 → q ≠ 111 → w'.heap[k]? = some (.cells cells q (0, 0))
theorem Typ.trans {w w1 w2 : World} (h : Typ w w1) (h2 : Typ w1 w2) : Typ w w2 := fun k cells q hk h5 h1 => h2 k cells q (h k cells q hk h5 h1) h5 h1
theorem Typ.below {w w1 : World} (h : Below w.heap.size w w1) : Typ w w1 := fun k cells q hk _ _ => YQ hk h
theorem Typ.grown {w w1 : World} {base n : Nat} {v : Value} {xs : List Value} (hg : w.grownBy w1 v.ownBlock) (hR : w.ownsRow base 5 1 v n xs) : Typ w w1 := fun k cells q hk h5 _ => XU hk hg (fun e => by
 obtain ⟨cells', hc⟩ := Vq hR k e.symm
 rw [hk] at hc
 cases hc
 exact h5 rfl)
theorem Typ.set {w : World} {g : Nat} {cs : Array Value} (hb : w.heap[g]? = some (.cells cs 111 (0, 0))) (u : Value) : Typ w (w.setCell ⟨g, 0, none⟩ u) := fun k cells q hk _ h1 => Yc1 hk (p := ⟨g, 0, none⟩) (fun e => by
 have e' : k = g := e
 subst e'
 rw [hk] at hb
 cases hb
 exact h1 rfl) u
theorem Ya3 {w : World} {base g : Nat} {vs : List Value} {v : Value} {o : Nat → Nat} {b : List Int} (h : Wr w base g vs o b) (hv : vs[0]? = some v) : w.ownsRow base 5 1 v b.length (nums .u8 b) := (YaP.1 (h.row 0 v _ hv rfl)).2
def Yab (base g : Nat) (b : List Int) (w : World) (e : Ending) (w' : World) : Prop := e = .returned (.tuple #[]) ∧ Below base w w' ∧ Typ w w' ∧ ∃ A c o, Wr w' base g [.slice A b.length c] o b
theorem wpost {w w' : World} {base g n c : Nat} {A : Option Addr} {o : Nat → Nat} {b : List Int} (hB : Below base w w') (hT : Typ w w') (hn : b.length = n) (h : Wr w' base g [.slice A n c] o b) : Yab base g b w (.returned (.tuple #[])) w' := by
 subst hn
 exact ⟨rfl, hB, hT, _, _, _, h⟩
theorem Wr.make {w : World} {base g : Nat} {v : Value} {b : List Int} (hbx : w.heap[g]? = some (.cells #[v] 111 (0, 0))) (hb : base ≤ g) (hR : w.ownsRow base 5 1 v b.length (nums .u8 b)) : Wr w base g [v] (fun k => if k = g then 0 else 1) b := by
 refine ⟨hbx, hb, if_pos rfl, fun i u P hu hP => ?_, fun i P hP => ?_⟩
 ·match i, hu, hP with
  | 0, hu, hP =>
    cases hu
    cases hP
    refine YaP.2 ⟨fun k hk => ?_, hR⟩
    have hne : k ≠ g := fun e => by
     subst e
     obtain ⟨cells, hc⟩ := Vq hR k hk
     rw [hbx] at hc
     cases hc
    show (if k = g then 0 else 1) = 1
    rw [if_neg hne]
  | i + 1, hu, hP => cases hu
 ·match i, hP with
  | 0, hP => cases hP; exact loc_row _ _ _ _
  | i + 1, hP => cases hP
theorem bytes2 (W : World) (x y : Int) : Reps ((Kd.int .u8).K W) 1 [x, y] [.int .u8 x, .int .u8 y] :=
 ⟨rfl, fun j p hj => match j, hj with
  | 0, hj => by cases hj; rfl
  | 1, hj => by cases hj; rfl
  | j + 2, hj => by simp at hj⟩
section
variable {w : World} {base g c : Nat} {A : Option Addr} {o : Nat → Nat} {b : List Int}
theorem UF (h : Wr w base g [.slice A b.length c] o b) (hl : b.length < 1099511627770) (n : Int) (hn : -4294967296 ≤ n ∧ n < 4294967296) : Calls Try.prog 82 #[.pointer (some ⟨g, 0, none⟩), .int .i64 n] w (Yab base g (b ++ twoB n) w) := by
 have k0 := h.cell 0 rfl
 have hX := Aside0.mk h
 have hBn := Yc (Below.refl w.heap.size w) (.cells #[.int .u8 (n / 256 % 256), .int .u8 (n % 256)] 5)
 have hLC := Aside0.mk (lit_C (Kd.int .u8) 5 w [n / 256 % 256, n % 256] [.int .u8 (n / 256 % 256), .int .u8 (n % 256)] Z3 (bytes2 _ _ _))
 clear h
 go_enter Try.func82, Try.ntmps82
 go_wp2_with (at_builtin; refine St.pushN (d := Kd.int .u8) (e := 5) (i := 0) (hX.out.below hBn) rfl rfl [n / 256 % 256, n % 256] (some ⟨w.heap.size, 0, none⟩) 2 2 Try.underlying29 VL rfl Z1 Z1 rfl rfl rfl rfl hLC.out (fun _ _ h => h) Z0 ?_)
 rintro v2 w2 ⟨hst, hB2, ⟨A2, c2, rfl⟩, hb2, hg2⟩
 have hf := Yf hb2 0
 have k0' : w2.cell? ⟨g, 0, none⟩ = some (.slice A b.length c) := (Ya hb2 0).trans rfl
 have hz : (b ++ [n / 256 % 256, n % 256]).length = b.length + 2 := by simp
 rw [hz] at hst ⊢
 have hB3 := ((Below.mono hBn hX.out.base_le).trans hB2).setCell (p := ⟨g, 0, none⟩) hX.out.hb (.slice A2 (b.length + 2) c2)
 replace hst := Aside0.mk hst
 have hz' := Aside0.mk hz
 have hT := (Typ.below hBn).trans ((Typ.grown hg2 (Ya3 (hX.out.below hBn) rfl)).trans (Typ.set hb2 (.slice A2 (b.length + 2) c2)))
 replace hT := Aside0.mk hT
 clear hBn hg2 hb2 k0 hz
 go_wp2_with fail
 exact bodyPost_end (results_none rfl _ _ _) rfl (wpost (b := b ++ twoB n) hB3 hT.out (by simp [twoB]) hst.out)
theorem VE (h : Wr w base g [.slice A b.length c] o b) (hl : b.length < 1099511627770) (n : Int) (hn : 0 ≤ n ∧ n < 4294967296) : Calls Try.prog 81 #[.pointer (some ⟨g, 0, none⟩), .int .i64 n] w (Yab base g (b ++ codeB n) w) := by
 have k0 := h.cell 0 rfl
 have hX := Aside0.mk h
 by_cases hc : 255 < n
 ·have hr : codeB n = [n / 256 % 256, n % 256] := by unfold codeB; rw [if_pos hc]
  rw [hr]
  clear h hr
  go_enter Try.func81, Try.ntmps81
  go_wp2_with (at_builtin; refine St.push (d := Kd.int .u8) (e := 5) (i := 0) hX.out rfl rfl (n / 256 % 256) [.int .u8 (n / 256 % 256)] (fun _ => False) rfl Try.underlying29 VL rfl Z1 Z1 rfl rfl rfl rfl rfl Z0 ?_)
  rintro v2 w2 ⟨hst, hB2, ⟨A2, c2, rfl⟩, hb2, hg2⟩
  have hf := Yf hb2 0
  have k0' : w2.cell? ⟨g, 0, none⟩ = some (.slice A b.length c) := (Ya hb2 0).trans rfl
  have hz : (b ++ [n / 256 % 256]).length = b.length + 1 := by simp
  rw [hz] at hst ⊢
  have hB3 := hB2.setCell (p := ⟨g, 0, none⟩) hX.out.hb (.slice A2 (b.length + 1) c2)
  have k1 := hst.cell 0 rfl
  have hst' := Aside0.mk hst
  have hzz := Aside0.mk hz
  have hT := Aside0.mk ((Typ.grown hg2 (Ya3 hX.out rfl)).trans (Typ.set hb2 (.slice A2 (b.length + 1) c2)))
  clear hg2 hb2 k0 hst hz
  go_upto_region 2 with (fail)
  generalize w2.setCell ⟨g, 0, none⟩ (.slice A2 (b.length + 1) c2) = w3 at hst' hB3 k1 hT ⊢
  go_wp2_with (at_builtin; refine St.push (d := Kd.int .u8) (e := 5) (i := 0) hst'.out rfl rfl (n % 256) [.int .u8 (n % 256)] (fun _ => False) rfl Try.underlying29 VL rfl Z1 Z1 rfl rfl rfl rfl rfl (by rw [hzz.out]; omega) ?_)
  rintro v4 w4 ⟨hst4, hB4, ⟨A4, c4, rfl⟩, hb4, hg4⟩
  have hz4 : (b ++ [n / 256 % 256, n % 256]).length = b.length + 2 := by simp
  rw [hz4] at hst4 ⊢
  have hf := Yf hb4 0
  have k4 : w4.cell? ⟨g, 0, none⟩ = some (.slice A2 (b.length + 1) c2) := (Ya hb4 0).trans rfl
  have hB5 := (hB3.trans hB4).setCell (p := ⟨g, 0, none⟩) hX.out.hb (.slice A4 (b.length + 2) c4)
  replace hst4 := Aside0.mk hst4
  have hT4 := Aside0.mk (hT.out.trans ((Typ.grown hg4 (Ya3 hst'.out rfl)).trans (Typ.set hb4 (.slice A4 (b.length + 2) c4))))
  clear hg4 hb4 k1 hz4
  go_wp2_with fail
  exact bodyPost_end (results_none rfl _ _ _) rfl (wpost (b := b ++ [n / 256 % 256, n % 256]) (n := b.length + 2) hB5 hT4.out Z3 hst4.out)
 ·have hr : codeB n = [n] := by unfold codeB; rw [if_neg hc, Int.emod_eq_of_lt hn.1 Z0]
  rw [hr]
  clear h hr
  go_enter Try.func81, Try.ntmps81
  go_wp2_with (at_builtin; refine St.push (d := Kd.int .u8) (e := 5) (i := 0) hX.out rfl rfl n [.int .u8 n] (fun _ => False) rfl Try.underlying29 VL rfl Z1 Z1 rfl rfl rfl rfl rfl Z0 ?_)
  rintro v2 w2 ⟨hst, hB2, ⟨A2, c2, rfl⟩, hb2, hg2⟩
  have hf := Yf hb2 0
  have k0' : w2.cell? ⟨g, 0, none⟩ = some (.slice A b.length c) := (Ya hb2 0).trans rfl
  have hz : (b ++ [n]).length = b.length + 1 := by simp
  rw [hz] at hst ⊢
  have hB3 := hB2.setCell (p := ⟨g, 0, none⟩) hX.out.hb (.slice A2 (b.length + 1) c2)
  replace hst := Aside0.mk hst
  have hT := Aside0.mk ((Typ.grown hg2 (Ya3 hX.out rfl)).trans (Typ.set hb2 (.slice A2 (b.length + 1) c2)))
  clear hg2 hb2 k0 hz
  go_wp2_with fail
  exact bodyPost_end (results_none rfl _ _ _) rfl (wpost (b := b ++ [n]) hB3 hT.out Z3 hst.out)
theorem Ya5 (h : Wr w base g [.slice A b.length c] o b) (hl : b.length < 1099511627770) (s : ByteArray) (hs : s.size < 1099511627770) : Calls Try.prog 83 #[.pointer (some ⟨g, 0, none⟩), .string s] w (Yab base g (b ++ textB s) w) := by
 have k0 := h.cell 0 rfl
 have hX := Aside0.mk h
 clear h
 go_enter Try.func83, Try.ntmps83
 go_wp2_with (at_builtin; refine St.push (d := Kd.int .u8) (e := 5) (i := 0) hX.out rfl rfl ((s.size : Int) % 256) [.int .u8 ((s.size : Int) % 256)] (fun _ => False) rfl Try.underlying29 VL rfl Z1 Z1 rfl rfl rfl rfl rfl Z0 ?_)
 rintro v2 w2 ⟨hst, hB2, ⟨A2, c2, rfl⟩, hb2, hg2⟩
 have hz : (b ++ [(s.size : Int) % 256]).length = b.length + 1 := by simp
 rw [hz] at hst ⊢
 have hR2 : w2.ownsRow base 5 1 (.slice A2 (b.length + 1) c2) (b.length + 1) (nums .u8 (b ++ [(s.size : Int) % 256])) := by
  have h1 := (YaP.1 (hst.row 0 _ _ rfl rfl : Kd.R (Kd.int .u8) 5 _ base _ (.slice A2 (b.length + 1) c2) (b ++ [(s.size : Int) % 256])))
  rw [hz] at h1
  refine Yby h1.2 (fun k hk => (Below.heap_setCell _ _ _ _ (fun e => ?_)).symm)
  have h2 := h1.1 k hk
  have h3 := hst.own
  rw [show k = g from e] at h2
  omega
 have hb2' := hb2
 have hbase2 := Nat.le_trans hX.out.base_le hg2.size
 have hne : some g ≠ (Value.slice A2 (b.length + 1) c2).ownBlock := fun e => by
  obtain ⟨cells, hc⟩ := Vq hR2 g e.symm
  rw [hb2] at hc
  cases hc
 obtain ⟨i0, hi, hz0, hz1, hz2⟩ := info_parts VL
 have hmx : maxLen = 9223372036854775807 := rfl
 have hT2 := Aside0.mk (Typ.grown hg2 (Ya3 hX.out rfl))
 clear hst k0 hg2
 replace hz := Aside0.mk hz
 go_wp2_with (at_builtin; refine Lib.wpList_append_own_string w2 rfl _ _ 29 9 rfl base 5 i0 Try.underlying29 Try.underlying9 hi hz0 hz1 hz2 _ _ _ rfl hR2 s rfl Z0 Z0 hbase2 ?_)
 intro v3 w3 hR3 hg3 _
 have hb3 := XU hb2' hg3 hne
 have hf := Yf hb3 0
 have k3 : w3.cell? ⟨g, 0, none⟩ = some (.slice A b.length c) := (Ya hb3 0).trans rfl
 have hc3 : nums .u8 (b ++ [(s.size : Int) % 256]) ++ Lib.strCells s = nums .u8 (b ++ textB s) := by
  have : Lib.strCells s = nums .u8 (Xl s) := by simp [nums, Xl, Lib.strCells]
  rw [this, ← Jc]
  simp [textB]
 have hl3 : b.length + 1 + s.size = (b ++ textB s).length := by simp [textB, YG]; omega
 rw [hc3, hl3] at hR3
 have hB3 := Below.grown (hB2) hg3 hbase2 (fun k hk => VY hR2 k hk)
 obtain ⟨A3, c3, rfl⟩ : ∃ A3 c3, v3 = .slice A3 (b ++ textB s).length c3 := Yb7 hR3
 have hb4 := YM hb3 0 (.slice A3 (b ++ textB s).length c3) rfl
 have hW := Wr.make hb4 hX.out.hb (Yby hR3 (fun k hk => Below.heap_setCell _ _ _ _ (fun e => by
  obtain ⟨cells, hc⟩ := Vq hR3 k hk
  rw [show k = g from e, hb3] at hc
  cases hc)))
 have hB4 := hB3.setCell (p := ⟨g, 0, none⟩) hX.out.hb (.slice A3 (b ++ textB s).length c3)
 replace hW := Aside0.mk hW
 have hT3 := Aside0.mk (hT2.out.trans ((Typ.grown hg3 hR2).trans (Typ.set hb3 (.slice A3 (b ++ textB s).length c3))))
 clear hR3 hb3 hb4 hg3 hR2 hb2 hb2' hl3 hc3 hi hz0 hz1 hz2
 generalize (b ++ textB s) = b5 at hW hB4 hT3 ⊢
 go_wp2_with fail
 exact bodyPost_end (results_none rfl _ _ _) rfl ⟨rfl, hB4, hT3.out, _, _, _, hW.out⟩
end
structure Fits (t : Tk) : Prop where
 f0 : 0 ≤ t.f0 ∧ t.f0 ≤ 4095
 f1 : 0 ≤ t.f1 ∧ t.f1 < 4294967296
 f2 : t.f2.size < 1000000000000
 f3 : -2147483648 ≤ t.f3 ∧ t.f3 < 2147483648
theorem XT (n : Int) : (codeB n).length ≤ 2 := by unfold codeB; split <;> simp
theorem mask16 {n : Int} (h0 : 0 ≤ n) (h1 : n < 4294967296) : wrap64 (bits .and .u32 n 65535) = n % 65536 := by
 have h2 : bits .and .u32 n 65535 = n % 65536 := bits_mask .u32 32 Z1 (fun n h0 h1 => by rw [IntKind.wrap_u32]; omega) 16 Z1 n h0 h1
 rw [h2]
 exact IntWalk.wrap64_in _ ⟨Z0, Z0⟩
theorem Jk (n : Int) : (twoB n).length = 2 := rfl
theorem YbX (s : ByteArray) : (textB s).length = s.size + 1 := by simp [textB, YG]
section
variable {w : World} {base g c : Nat} {A : Option Addr} {o : Nat → Nat} {b : List Int}
theorem token_0 (t : Tk) (ht : Fits t) (hk0 : Yr t.f0 = 0) (h : Wr w base g [.slice A b.length c] o b) (hl : b.length < 90000000000) : Calls Try.prog 50 #[.pointer (some ⟨g, 0, none⟩), tv t, .bool true] w (Yab base g (b ++ tokB t true) w) := by
 obtain ⟨⟨g0, g1⟩, ⟨g2, g3⟩, g4, ⟨g5, g6⟩⟩ := ht
 have hk := Aside0.mk hk0
 have hX := Aside0.mk h
 have hBn := Yc (Below.refl w.heap.size w) (.cells #[.int .i64 t.f0, .int .u32 t.f1, .string t.f2, .int .i64 t.f3] 37)
 have hT0 := Aside0.mk (Typ.below hBn)
 have hB0 := Aside0.mk (Below.mono hBn h.base_le)
 have hY := Aside0.mk (hX.out.below hBn)
 have hnew := Aside0.mk (Xa w (.cells #[.int .i64 t.f0, .int .u32 t.f1, .string t.f2, .int .i64 t.f3] 37))
 have hcl := XT t.f0
 have hr := Aside0.mk (show b ++ tokB t true = b ++ codeB t.f0 by unfold tokB; rw [hk0]; simp)
 rw [hr.out]
 clear h hk0 hBn
 go_enter Try.func50, Try.ntmps50
 go_wp2_with fail
 refine (VE hY.out Z0 t.f0 ⟨g0, Z0⟩).mono ?_
 rintro e w1 ⟨rfl, hB1, hT1, A1, c1, o1, h1⟩
 have hlb : (b ++ codeB t.f0).length ≤ b.length + 2 := by rw [List.length_append]; omega
 generalize hq1' : b ++ codeB t.f0 = b1 at h1 hlb
 have hq1 := Aside0.mk hq1'
 clear hq1'
 have hn1 := hT1 _ _ _ hnew.out Z1 Z1
 have hBB := hB0.out.trans hB1
 have hTT := hT0.out.trans hT1
 generalize w.heap.size = gb at hn1 ⊢
 have e0 : w1.cell? ⟨gb, 0, none⟩ = some (.int .i64 t.f0) := (Ya hn1 0).trans rfl
 replace h1 := Aside0.mk h1
 replace hn1 := Aside0.mk hn1
 replace hBB := Aside0.mk hBB
 replace hTT := Aside0.mk hTT
 clear hB1 hT1 hcl hnew hB0 hT0
 go_wp2_with fail
 refine (Yu _ _).mono ?_
 rintro e w1' ⟨rfl, rfl⟩
 rw [hk.out]
 go_wp2_with fail
 refine bodyPost_end (results_none rfl _ _ _) rfl ?_
 rw [hq1.out]
 exact ⟨rfl, hBB.out, hTT.out, _, _, _, h1.out⟩
theorem token_1 (t : Tk) (ht : Fits t) (hk0 : Yr t.f0 = 1) (h : Wr w base g [.slice A b.length c] o b) (hl : b.length < 90000000000) : Calls Try.prog 50 #[.pointer (some ⟨g, 0, none⟩), tv t, .bool true] w (Yab base g (b ++ tokB t true) w) := by
 obtain ⟨⟨g0, g1⟩, ⟨g2, g3⟩, g4, ⟨g5, g6⟩⟩ := ht
 have hk := Aside0.mk hk0
 have hX := Aside0.mk h
 have hBn := Yc (Below.refl w.heap.size w) (.cells #[.int .i64 t.f0, .int .u32 t.f1, .string t.f2, .int .i64 t.f3] 37)
 have hT0 := Aside0.mk (Typ.below hBn)
 have hB0 := Aside0.mk (Below.mono hBn h.base_le)
 have hY := Aside0.mk (hX.out.below hBn)
 have hnew := Aside0.mk (Xa w (.cells #[.int .i64 t.f0, .int .u32 t.f1, .string t.f2, .int .i64 t.f3] 37))
 have hcl := XT t.f0
 have hr := Aside0.mk (show b ++ tokB t true = b ++ codeB t.f0 ++ twoB (t.f1 / 65536) ++ twoB (t.f1 % 65536) by unfold tokB; rw [hk0]; simp)
 rw [hr.out]
 clear h hk0 hBn
 go_enter Try.func50, Try.ntmps50
 go_wp2_with fail
 refine (VE hY.out Z0 t.f0 ⟨g0, Z0⟩).mono ?_
 rintro e w1 ⟨rfl, hB1, hT1, A1, c1, o1, h1⟩
 have hlb : (b ++ codeB t.f0).length ≤ b.length + 2 := by rw [List.length_append]; omega
 generalize hq1' : b ++ codeB t.f0 = b1 at h1 hlb
 have hq1 := Aside0.mk hq1'
 clear hq1'
 have hn1 := hT1 _ _ _ hnew.out Z1 Z1
 have hBB := hB0.out.trans hB1
 have hTT := hT0.out.trans hT1
 generalize w.heap.size = gb at hn1 ⊢
 have e0 : w1.cell? ⟨gb, 0, none⟩ = some (.int .i64 t.f0) := (Ya hn1 0).trans rfl
 replace h1 := Aside0.mk h1
 replace hn1 := Aside0.mk hn1
 replace hBB := Aside0.mk hBB
 replace hTT := Aside0.mk hTT
 clear hB1 hT1 hcl hnew hB0 hT0
 go_wp2_with fail
 refine (Yu _ _).mono ?_
 rintro e w1' ⟨rfl, rfl⟩
 rw [hk.out]
 have e1 : w1'.cell? ⟨gb, 1, none⟩ = some (.int .u32 t.f1) := (Ya hn1.out 1).trans rfl
 have e2 : w1'.cell? ⟨gb, 2, none⟩ = some (.string t.f2) := (Ya hn1.out 2).trans rfl
 have e3 : w1'.cell? ⟨gb, 3, none⟩ = some (.int .i64 t.f3) := (Ya hn1.out 3).trans rfl
 go_wp2_with fail
 refine (UF h1.out Z0 (t.f1 / 65536) ⟨Z0, Z0⟩).mono ?_
 rintro e w2 ⟨rfl, hB2, hT2, A2, c2, o2, h2⟩
 have hlb2 : (b1 ++ twoB (t.f1 / 65536)).length ≤ b1.length + 2 := by rw [List.length_append, Jk]; omega
 generalize hq2' : b1 ++ twoB (t.f1 / 65536) = b2 at h2 hlb2
 have hq2 := Aside0.mk hq2'
 clear hq2'
 replace h2 := Aside0.mk h2
 have hn2 := Aside0.mk (hT2 _ _ _ hn1.out Z1 Z1)
 replace hBB := Aside0.mk (hBB.out.trans hB2)
 replace hTT := Aside0.mk (hTT.out.trans hT2)
 clear hn1 hB2 hT2 e1 e2 e3 e0
 have hn1 := hn2
 have e1 : w2.cell? ⟨gb, 1, none⟩ = some (.int .u32 t.f1) := (Ya hn1.out 1).trans rfl
 have e2 : w2.cell? ⟨gb, 2, none⟩ = some (.string t.f2) := (Ya hn1.out 2).trans rfl
 have e3 : w2.cell? ⟨gb, 3, none⟩ = some (.int .i64 t.f3) := (Ya hn1.out 3).trans rfl
 go_wp2_with fail
 rw [mask16 g2 g3]
 refine (UF h2.out Z0 (t.f1 % 65536) ⟨Z0, Z0⟩).mono ?_
 rintro e w3 ⟨rfl, hB3, hT3, A3, c3, o3, h3⟩
 have hlb3 : (b2 ++ twoB (t.f1 % 65536)).length ≤ b2.length + 2 := by rw [List.length_append, Jk]; omega
 generalize hq3' : b2 ++ twoB (t.f1 % 65536) = b3 at h3 hlb3
 have hq3 := Aside0.mk hq3'
 clear hq3'
 replace h3 := Aside0.mk h3
 have hn3 := Aside0.mk (hT3 _ _ _ hn1.out Z1 Z1)
 replace hBB := Aside0.mk (hBB.out.trans hB3)
 replace hTT := Aside0.mk (hTT.out.trans hT3)
 clear hn1 hB3 hT3 e1 e2 e3
 have hn1 := hn3
 go_wp2_with fail
 refine bodyPost_end (results_none rfl _ _ _) rfl ?_
 rw [hq1.out, hq2.out, hq3.out]
 exact ⟨rfl, hBB.out, hTT.out, _, _, _, h3.out⟩
theorem token_2 (t : Tk) (ht : Fits t) (hk0 : Yr t.f0 = 2) (h : Wr w base g [.slice A b.length c] o b) (hl : b.length < 90000000000) : Calls Try.prog 50 #[.pointer (some ⟨g, 0, none⟩), tv t, .bool true] w (Yab base g (b ++ tokB t true) w) := by
 obtain ⟨⟨g0, g1⟩, ⟨g2, g3⟩, g4, ⟨g5, g6⟩⟩ := ht
 have hk := Aside0.mk hk0
 have hX := Aside0.mk h
 have hBn := Yc (Below.refl w.heap.size w) (.cells #[.int .i64 t.f0, .int .u32 t.f1, .string t.f2, .int .i64 t.f3] 37)
 have hT0 := Aside0.mk (Typ.below hBn)
 have hB0 := Aside0.mk (Below.mono hBn h.base_le)
 have hY := Aside0.mk (hX.out.below hBn)
 have hnew := Aside0.mk (Xa w (.cells #[.int .i64 t.f0, .int .u32 t.f1, .string t.f2, .int .i64 t.f3] 37))
 have hcl := XT t.f0
 have hr := Aside0.mk (show b ++ tokB t true = b ++ codeB t.f0 ++ codeB (t.f1) by unfold tokB; rw [hk0]; simp)
 rw [hr.out]
 clear h hk0 hBn
 go_enter Try.func50, Try.ntmps50
 go_wp2_with fail
 refine (VE hY.out Z0 t.f0 ⟨g0, Z0⟩).mono ?_
 rintro e w1 ⟨rfl, hB1, hT1, A1, c1, o1, h1⟩
 have hlb : (b ++ codeB t.f0).length ≤ b.length + 2 := by rw [List.length_append]; omega
 generalize hq1' : b ++ codeB t.f0 = b1 at h1 hlb
 have hq1 := Aside0.mk hq1'
 clear hq1'
 have hn1 := hT1 _ _ _ hnew.out Z1 Z1
 have hBB := hB0.out.trans hB1
 have hTT := hT0.out.trans hT1
 generalize w.heap.size = gb at hn1 ⊢
 have e0 : w1.cell? ⟨gb, 0, none⟩ = some (.int .i64 t.f0) := (Ya hn1 0).trans rfl
 replace h1 := Aside0.mk h1
 replace hn1 := Aside0.mk hn1
 replace hBB := Aside0.mk hBB
 replace hTT := Aside0.mk hTT
 clear hB1 hT1 hcl hnew hB0 hT0
 go_wp2_with fail
 refine (Yu _ _).mono ?_
 rintro e w1' ⟨rfl, rfl⟩
 rw [hk.out]
 have e1 : w1'.cell? ⟨gb, 1, none⟩ = some (.int .u32 t.f1) := (Ya hn1.out 1).trans rfl
 have e2 : w1'.cell? ⟨gb, 2, none⟩ = some (.string t.f2) := (Ya hn1.out 2).trans rfl
 have e3 : w1'.cell? ⟨gb, 3, none⟩ = some (.int .i64 t.f3) := (Ya hn1.out 3).trans rfl
 go_wp2_with fail
 refine (VE h1.out Z0 (t.f1) ⟨Z0, Z0⟩).mono ?_
 rintro e w2 ⟨rfl, hB2, hT2, A2, c2, o2, h2⟩
 have hlb2 : (b1 ++ codeB (t.f1)).length ≤ b1.length + 2 := by have := XT (t.f1); rw [List.length_append]; omega
 generalize hq2' : b1 ++ codeB (t.f1) = b2 at h2 hlb2
 have hq2 := Aside0.mk hq2'
 clear hq2'
 replace h2 := Aside0.mk h2
 have hn2 := Aside0.mk (hT2 _ _ _ hn1.out Z1 Z1)
 replace hBB := Aside0.mk (hBB.out.trans hB2)
 replace hTT := Aside0.mk (hTT.out.trans hT2)
 clear hn1 hB2 hT2 e1 e2 e3 e0
 have hn1 := hn2
 go_wp2_with fail
 refine bodyPost_end (results_none rfl _ _ _) rfl ?_
 rw [hq1.out, hq2.out]
 exact Z1w
theorem token_3 (t : Tk) (ht : Fits t) (hk0 : Yr t.f0 = 3) (h : Wr w base g [.slice A b.length c] o b) (hl : b.length < 90000000000) : Calls Try.prog 50 #[.pointer (some ⟨g, 0, none⟩), tv t, .bool true] w (Yab base g (b ++ tokB t true) w) := by
 obtain ⟨⟨g0, g1⟩, ⟨g2, g3⟩, g4, ⟨g5, g6⟩⟩ := ht
 have hk := Aside0.mk hk0
 have hX := Aside0.mk h
 have hBn := Yc (Below.refl w.heap.size w) (.cells #[.int .i64 t.f0, .int .u32 t.f1, .string t.f2, .int .i64 t.f3] 37)
 have hT0 := Aside0.mk (Typ.below hBn)
 have hB0 := Aside0.mk (Below.mono hBn h.base_le)
 have hY := Aside0.mk (hX.out.below hBn)
 have hnew := Aside0.mk (Xa w (.cells #[.int .i64 t.f0, .int .u32 t.f1, .string t.f2, .int .i64 t.f3] 37))
 have hcl := XT t.f0
 have hr := Aside0.mk (show b ++ tokB t true = b ++ codeB t.f0 ++ textB (t.f2) by unfold tokB; rw [hk0]; simp)
 rw [hr.out]
 clear h hk0 hBn
 go_enter Try.func50, Try.ntmps50
 go_wp2_with fail
 refine (VE hY.out Z0 t.f0 ⟨g0, Z0⟩).mono ?_
 rintro e w1 ⟨rfl, hB1, hT1, A1, c1, o1, h1⟩
 have hlb : (b ++ codeB t.f0).length ≤ b.length + 2 := by rw [List.length_append]; omega
 generalize hq1' : b ++ codeB t.f0 = b1 at h1 hlb
 have hq1 := Aside0.mk hq1'
 clear hq1'
 have hn1 := hT1 _ _ _ hnew.out Z1 Z1
 have hBB := hB0.out.trans hB1
 have hTT := hT0.out.trans hT1
 generalize w.heap.size = gb at hn1 ⊢
 have e0 : w1.cell? ⟨gb, 0, none⟩ = some (.int .i64 t.f0) := (Ya hn1 0).trans rfl
 replace h1 := Aside0.mk h1
 replace hn1 := Aside0.mk hn1
 replace hBB := Aside0.mk hBB
 replace hTT := Aside0.mk hTT
 clear hB1 hT1 hcl hnew hB0 hT0
 go_wp2_with fail
 refine (Yu _ _).mono ?_
 rintro e w1' ⟨rfl, rfl⟩
 rw [hk.out]
 have e1 : w1'.cell? ⟨gb, 1, none⟩ = some (.int .u32 t.f1) := (Ya hn1.out 1).trans rfl
 have e2 : w1'.cell? ⟨gb, 2, none⟩ = some (.string t.f2) := (Ya hn1.out 2).trans rfl
 have e3 : w1'.cell? ⟨gb, 3, none⟩ = some (.int .i64 t.f3) := (Ya hn1.out 3).trans rfl
 go_wp2_with fail
 refine (Ya5 h1.out Z0 (t.f2) Z0).mono ?_
 rintro e w2 ⟨rfl, hB2, hT2, A2, c2, o2, h2⟩
 have hlb2 : (b1 ++ textB (t.f2)).length ≤ b1.length + (t.f2.size + 1) := by rw [List.length_append, YbX]; omega
 generalize hq2' : b1 ++ textB (t.f2) = b2 at h2 hlb2
 have hq2 := Aside0.mk hq2'
 clear hq2'
 replace h2 := Aside0.mk h2
 have hn2 := Aside0.mk (hT2 _ _ _ hn1.out Z1 Z1)
 replace hBB := Aside0.mk (hBB.out.trans hB2)
 replace hTT := Aside0.mk (hTT.out.trans hT2)
 clear hn1 hB2 hT2 e1 e2 e3 e0
 have hn1 := hn2
 go_wp2_with fail
 refine bodyPost_end (results_none rfl _ _ _) rfl ?_
 rw [hq1.out, hq2.out]
 exact Z1w
theorem token_4 (t : Tk) (ht : Fits t) (hk0 : Yr t.f0 = 4) (h : Wr w base g [.slice A b.length c] o b) (hl : b.length < 90000000000) : Calls Try.prog 50 #[.pointer (some ⟨g, 0, none⟩), tv t, .bool true] w (Yab base g (b ++ tokB t true) w) := by
 obtain ⟨⟨g0, g1⟩, ⟨g2, g3⟩, g4, ⟨g5, g6⟩⟩ := ht
 have hk := Aside0.mk hk0
 have hX := Aside0.mk h
 have hBn := Yc (Below.refl w.heap.size w) (.cells #[.int .i64 t.f0, .int .u32 t.f1, .string t.f2, .int .i64 t.f3] 37)
 have hT0 := Aside0.mk (Typ.below hBn)
 have hB0 := Aside0.mk (Below.mono hBn h.base_le)
 have hY := Aside0.mk (hX.out.below hBn)
 have hnew := Aside0.mk (Xa w (.cells #[.int .i64 t.f0, .int .u32 t.f1, .string t.f2, .int .i64 t.f3] 37))
 have hcl := XT t.f0
 have hr := Aside0.mk (show b ++ tokB t true = b ++ codeB t.f0 ++ twoB (t.f3) by unfold tokB; rw [hk0]; simp)
 rw [hr.out]
 clear h hk0 hBn
 go_enter Try.func50, Try.ntmps50
 go_wp2_with fail
 refine (VE hY.out Z0 t.f0 ⟨g0, Z0⟩).mono ?_
 rintro e w1 ⟨rfl, hB1, hT1, A1, c1, o1, h1⟩
 have hlb : (b ++ codeB t.f0).length ≤ b.length + 2 := by rw [List.length_append]; omega
 generalize hq1' : b ++ codeB t.f0 = b1 at h1 hlb
 have hq1 := Aside0.mk hq1'
 clear hq1'
 have hn1 := hT1 _ _ _ hnew.out Z1 Z1
 have hBB := hB0.out.trans hB1
 have hTT := hT0.out.trans hT1
 generalize w.heap.size = gb at hn1 ⊢
 have e0 : w1.cell? ⟨gb, 0, none⟩ = some (.int .i64 t.f0) := (Ya hn1 0).trans rfl
 replace h1 := Aside0.mk h1
 replace hn1 := Aside0.mk hn1
 replace hBB := Aside0.mk hBB
 replace hTT := Aside0.mk hTT
 clear hB1 hT1 hcl hnew hB0 hT0
 go_wp2_with fail
 refine (Yu _ _).mono ?_
 rintro e w1' ⟨rfl, rfl⟩
 rw [hk.out]
 have e1 : w1'.cell? ⟨gb, 1, none⟩ = some (.int .u32 t.f1) := (Ya hn1.out 1).trans rfl
 have e2 : w1'.cell? ⟨gb, 2, none⟩ = some (.string t.f2) := (Ya hn1.out 2).trans rfl
 have e3 : w1'.cell? ⟨gb, 3, none⟩ = some (.int .i64 t.f3) := (Ya hn1.out 3).trans rfl
 go_wp2_with fail
 refine (UF h1.out Z0 (t.f3) ⟨Z0, Z0⟩).mono ?_
 rintro e w2 ⟨rfl, hB2, hT2, A2, c2, o2, h2⟩
 have hlb2 : (b1 ++ twoB (t.f3)).length ≤ b1.length + 2 := by rw [List.length_append, Jk]; omega
 generalize hq2' : b1 ++ twoB (t.f3) = b2 at h2 hlb2
 have hq2 := Aside0.mk hq2'
 clear hq2'
 replace h2 := Aside0.mk h2
 have hn2 := Aside0.mk (hT2 _ _ _ hn1.out Z1 Z1)
 replace hBB := Aside0.mk (hBB.out.trans hB2)
 replace hTT := Aside0.mk (hTT.out.trans hT2)
 clear hn1 hB2 hT2 e1 e2 e3 e0
 have hn1 := hn2
 go_wp2_with fail
 refine bodyPost_end (results_none rfl _ _ _) rfl ?_
 rw [hq1.out, hq2.out]
 exact Z1w
theorem token_5 (t : Tk) (ht : Fits t) (hk0 : Yr t.f0 = 5) (h : Wr w base g [.slice A b.length c] o b) (hl : b.length < 90000000000) : Calls Try.prog 50 #[.pointer (some ⟨g, 0, none⟩), tv t, .bool true] w (Yab base g (b ++ tokB t true) w) := by
 obtain ⟨⟨g0, g1⟩, ⟨g2, g3⟩, g4, ⟨g5, g6⟩⟩ := ht
 have hk := Aside0.mk hk0
 have hX := Aside0.mk h
 have hBn := Yc (Below.refl w.heap.size w) (.cells #[.int .i64 t.f0, .int .u32 t.f1, .string t.f2, .int .i64 t.f3] 37)
 have hT0 := Aside0.mk (Typ.below hBn)
 have hB0 := Aside0.mk (Below.mono hBn h.base_le)
 have hY := Aside0.mk (hX.out.below hBn)
 have hnew := Aside0.mk (Xa w (.cells #[.int .i64 t.f0, .int .u32 t.f1, .string t.f2, .int .i64 t.f3] 37))
 have hcl := XT t.f0
 have hr := Aside0.mk (show b ++ tokB t true = b ++ codeB t.f0 ++ twoB (t.f1) by unfold tokB; rw [hk0]; simp)
 rw [hr.out]
 clear h hk0 hBn
 go_enter Try.func50, Try.ntmps50
 go_wp2_with fail
 refine (VE hY.out Z0 t.f0 ⟨g0, Z0⟩).mono ?_
 rintro e w1 ⟨rfl, hB1, hT1, A1, c1, o1, h1⟩
 have hlb : (b ++ codeB t.f0).length ≤ b.length + 2 := by rw [List.length_append]; omega
 generalize hq1' : b ++ codeB t.f0 = b1 at h1 hlb
 have hq1 := Aside0.mk hq1'
 clear hq1'
 have hn1 := hT1 _ _ _ hnew.out Z1 Z1
 have hBB := hB0.out.trans hB1
 have hTT := hT0.out.trans hT1
 generalize w.heap.size = gb at hn1 ⊢
 have e0 : w1.cell? ⟨gb, 0, none⟩ = some (.int .i64 t.f0) := (Ya hn1 0).trans rfl
 replace h1 := Aside0.mk h1
 replace hn1 := Aside0.mk hn1
 replace hBB := Aside0.mk hBB
 replace hTT := Aside0.mk hTT
 clear hB1 hT1 hcl hnew hB0 hT0
 go_wp2_with fail
 refine (Yu _ _).mono ?_
 rintro e w1' ⟨rfl, rfl⟩
 rw [hk.out]
 have e1 : w1'.cell? ⟨gb, 1, none⟩ = some (.int .u32 t.f1) := (Ya hn1.out 1).trans rfl
 have e2 : w1'.cell? ⟨gb, 2, none⟩ = some (.string t.f2) := (Ya hn1.out 2).trans rfl
 have e3 : w1'.cell? ⟨gb, 3, none⟩ = some (.int .i64 t.f3) := (Ya hn1.out 3).trans rfl
 go_wp2_with fail
 refine (UF h1.out Z0 (t.f1) ⟨Z0, Z0⟩).mono ?_
 rintro e w2 ⟨rfl, hB2, hT2, A2, c2, o2, h2⟩
 have hlb2 : (b1 ++ twoB (t.f1)).length ≤ b1.length + 2 := by rw [List.length_append, Jk]; omega
 generalize hq2' : b1 ++ twoB (t.f1) = b2 at h2 hlb2
 have hq2 := Aside0.mk hq2'
 clear hq2'
 replace h2 := Aside0.mk h2
 have hn2 := Aside0.mk (hT2 _ _ _ hn1.out Z1 Z1)
 replace hBB := Aside0.mk (hBB.out.trans hB2)
 replace hTT := Aside0.mk (hTT.out.trans hT2)
 clear hn1 hB2 hT2 e1 e2 e3 e0
 have hn1 := hn2
 go_wp2_with fail
 refine bodyPost_end (results_none rfl _ _ _) rfl ?_
 rw [hq1.out, hq2.out]
 exact Z1w
theorem token_6 (t : Tk) (ht : Fits t) (hk0 : Yr t.f0 = 6) (h : Wr w base g [.slice A b.length c] o b) (hl : b.length < 90000000000) : Calls Try.prog 50 #[.pointer (some ⟨g, 0, none⟩), tv t, .bool true] w (Yab base g (b ++ tokB t true) w) := by
 obtain ⟨⟨g0, g1⟩, ⟨g2, g3⟩, g4, ⟨g5, g6⟩⟩ := ht
 have hk := Aside0.mk hk0
 have hX := Aside0.mk h
 have hBn := Yc (Below.refl w.heap.size w) (.cells #[.int .i64 t.f0, .int .u32 t.f1, .string t.f2, .int .i64 t.f3] 37)
 have hT0 := Aside0.mk (Typ.below hBn)
 have hB0 := Aside0.mk (Below.mono hBn h.base_le)
 have hY := Aside0.mk (hX.out.below hBn)
 have hnew := Aside0.mk (Xa w (.cells #[.int .i64 t.f0, .int .u32 t.f1, .string t.f2, .int .i64 t.f3] 37))
 have hcl := XT t.f0
 have hr := Aside0.mk (show b ++ tokB t true = b ++ codeB t.f0 ++ textB (t.f2) ++ twoB (t.f1) by unfold tokB; rw [hk0]; simp)
 rw [hr.out]
 clear h hk0 hBn
 go_enter Try.func50, Try.ntmps50
 go_wp2_with fail
 refine (VE hY.out Z0 t.f0 ⟨g0, Z0⟩).mono ?_
 rintro e w1 ⟨rfl, hB1, hT1, A1, c1, o1, h1⟩
 have hlb : (b ++ codeB t.f0).length ≤ b.length + 2 := by rw [List.length_append]; omega
 generalize hq1' : b ++ codeB t.f0 = b1 at h1 hlb
 have hq1 := Aside0.mk hq1'
 clear hq1'
 have hn1 := hT1 _ _ _ hnew.out Z1 Z1
 have hBB := hB0.out.trans hB1
 have hTT := hT0.out.trans hT1
 generalize w.heap.size = gb at hn1 ⊢
 have e0 : w1.cell? ⟨gb, 0, none⟩ = some (.int .i64 t.f0) := (Ya hn1 0).trans rfl
 replace h1 := Aside0.mk h1
 replace hn1 := Aside0.mk hn1
 replace hBB := Aside0.mk hBB
 replace hTT := Aside0.mk hTT
 clear hB1 hT1 hcl hnew hB0 hT0
 go_wp2_with fail
 refine (Yu _ _).mono ?_
 rintro e w1' ⟨rfl, rfl⟩
 rw [hk.out]
 have e1 : w1'.cell? ⟨gb, 1, none⟩ = some (.int .u32 t.f1) := (Ya hn1.out 1).trans rfl
 have e2 : w1'.cell? ⟨gb, 2, none⟩ = some (.string t.f2) := (Ya hn1.out 2).trans rfl
 have e3 : w1'.cell? ⟨gb, 3, none⟩ = some (.int .i64 t.f3) := (Ya hn1.out 3).trans rfl
 go_wp2_with fail
 refine (Ya5 h1.out Z0 (t.f2) Z0).mono ?_
 rintro e w2 ⟨rfl, hB2, hT2, A2, c2, o2, h2⟩
 have hlb2 : (b1 ++ textB (t.f2)).length ≤ b1.length + (t.f2.size + 1) := by rw [List.length_append, YbX]; omega
 generalize hq2' : b1 ++ textB (t.f2) = b2 at h2 hlb2
 have hq2 := Aside0.mk hq2'
 clear hq2'
 replace h2 := Aside0.mk h2
 have hn2 := Aside0.mk (hT2 _ _ _ hn1.out Z1 Z1)
 replace hBB := Aside0.mk (hBB.out.trans hB2)
 replace hTT := Aside0.mk (hTT.out.trans hT2)
 clear hn1 hB2 hT2 e1 e2 e3 e0
 have hn1 := hn2
 have e1 : w2.cell? ⟨gb, 1, none⟩ = some (.int .u32 t.f1) := (Ya hn1.out 1).trans rfl
 have e2 : w2.cell? ⟨gb, 2, none⟩ = some (.string t.f2) := (Ya hn1.out 2).trans rfl
 have e3 : w2.cell? ⟨gb, 3, none⟩ = some (.int .i64 t.f3) := (Ya hn1.out 3).trans rfl
 go_wp2_with fail
 refine (UF h2.out Z0 (t.f1) ⟨Z0, Z0⟩).mono ?_
 rintro e w3 ⟨rfl, hB3, hT3, A3, c3, o3, h3⟩
 have hlb3 : (b2 ++ twoB (t.f1)).length ≤ b2.length + 2 := by rw [List.length_append, Jk]; omega
 generalize hq3' : b2 ++ twoB (t.f1) = b3 at h3 hlb3
 have hq3 := Aside0.mk hq3'
 clear hq3'
 replace h3 := Aside0.mk h3
 have hn3 := Aside0.mk (hT3 _ _ _ hn1.out Z1 Z1)
 replace hBB := Aside0.mk (hBB.out.trans hB3)
 replace hTT := Aside0.mk (hTT.out.trans hT3)
 clear hn1 hB3 hT3 e1 e2 e3
 have hn1 := hn3
 go_wp2_with fail
 refine bodyPost_end (results_none rfl _ _ _) rfl ?_
 rw [hq1.out, hq2.out, hq3.out]
 exact ⟨rfl, hBB.out, hTT.out, _, _, _, h3.out⟩
theorem Yak (t : Tk) (ht : Fits t) (h : Wr w base g [.slice A b.length c] o b) (hl : b.length < 90000000000) : Calls Try.prog 50 #[.pointer (some ⟨g, 0, none⟩), tv t, .bool true] w (Yab base g (b ++ tokB t true) w) := by
 rcases behindP_all t.f0 with hk | hk | hk | hk | hk | hk | hk
 ·exact token_0 t ht hk h hl
 ·exact token_1 t ht hk h hl
 ·exact token_2 t ht hk h hl
 ·exact token_3 t ht hk h hl
 ·exact token_4 t ht hk h hl
 ·exact token_5 t ht hk h hl
 ·exact token_6 t ht hk h hl
def XH (t : Tk) : Int := if rightP t true then (tokB t true).length else 0
theorem size_yes (t : Tk) (ht : Fits t) (hr : rightP t true = true) (w : World) : Calls Try.prog 40 #[tv t, .bool true] w fun e w' => e = .returned (.int .i64 (tokB t true).length) ∧ Below w.heap.size w w' := by
 have hf := Aside0.mk ht
 have hR := Aside0.mk hr
 have hBn := Yc (Below.refl w.heap.size w) (.cells #[.int .i64 t.f0, .int .u32 t.f1, .string t.f2, .int .i64 t.f3] 37)
 have hnew := Xa w (.cells #[.int .i64 t.f0, .int .u32 t.f1, .string t.f2, .int .i64 t.f3] 37)
 clear ht hr
 go_enter Try.func40, Try.ntmps40
 go_wp2_with fail
 refine (Jb t true _ hf.out.f1).mono ?_
 rintro e w1 ⟨rfl, hB1⟩
 rw [hR.out]
 have hn1 := Aside0.mk (YQ hnew hB1)
 have hBB := Aside0.mk (hBn.trans (Below.mono hB1 hBn.size))
 have hsz := Aside0.mk (Nat.le_trans hBn.size hB1.size)
 have hgb := UO hn1.out
 clear hBn hnew hB1
 generalize hq0 : w.heap.size = gb at hn1 hBB hsz hgb ⊢
 have hq := Aside0.mk hq0
 clear hq0
 have e0 : w1.cell? ⟨gb, 0, none⟩ = some (.int .i64 t.f0) := (Ya hn1.out 0).trans rfl
 have e1 : w1.cell? ⟨gb, 1, none⟩ = some (.int .u32 t.f1) := (Ya hn1.out 1).trans rfl
 have e2 : w1.cell? ⟨gb, 2, none⟩ = some (.string t.f2) := (Ya hn1.out 2).trans rfl
 have e3 : w1.cell? ⟨gb, 3, none⟩ = some (.int .i64 t.f3) := (Ya hn1.out 3).trans rfl
 have hW := Wr.make (base := w1.heap.size) (b := []) (Xa w1 (.cells #[.slice none 0 0] 111)) (Nat.le_refl _) (YcJ _ _ _ _)
 have hBw := Yc (Below.refl w1.heap.size w1) (.cells #[.slice none 0 0] 111)
 have hn2 := YQ hn1.out hBw
 have e0' := Ya hn2 0
 have e1' := Ya hn2 1
 have e2' := Ya hn2 2
 have e3' := Ya hn2 3
 replace hW := Aside0.mk hW
 replace hBw := Aside0.mk hBw
 replace hn2 := Aside0.mk hn2
 go_wp2_with fail
 refine (Yak (A := none) (c := 0) (b := []) t hf.out hW.out Z3).mono ?_
 rintro e w3 ⟨rfl, hB3, hT3, A3, c3, o3, h3⟩
 rw [List.nil_append] at h3
 have k3 := h3.cell 0 rfl
 have hB4 := Aside0.mk (hBB.out.trans (Below.mono (hBw.out.trans hB3) (Nat.le_of_lt hgb)))
 clear hB3 hT3 h3
 go_wp2_with fail
 exact bodyPost_ret (v := .int .i64 (tokB t true).length) (by simp [results, Try.results40, go_sem]) rfl ⟨rfl, (by rw [hq.out]; exact hB4.out)⟩
theorem size_no (t : Tk) (ht : Fits t) (hr : rightP t true = false) (w : World) : Calls Try.prog 40 #[tv t, .bool true] w fun e w' => e = .returned (.int .i64 0) ∧ Below w.heap.size w w' := by
 have hf := Aside0.mk ht
 have hR := Aside0.mk hr
 have hBn := Yc (Below.refl w.heap.size w) (.cells #[.int .i64 t.f0, .int .u32 t.f1, .string t.f2, .int .i64 t.f3] 37)
 clear ht hr
 go_enter Try.func40, Try.ntmps40
 go_wp2_with fail
 refine (Jb t true _ hf.out.f1).mono ?_
 rintro e w1 ⟨rfl, hB1⟩
 rw [hR.out]
 go_wp2_with fail
 exact bodyPost_ret (v := .int .i64 0) (by simp [results, Try.results40, go_sem]) rfl ⟨rfl, hBn.trans (Below.mono hB1 hBn.size)⟩
theorem YdH (t : Tk) (ht : Fits t) (w : World) : Calls Try.prog 40 #[tv t, .bool true] w fun e w' => e = .returned (.int .i64 (XH t)) ∧ Below w.heap.size w w' := by
 unfold XH
 cases hr : rightP t true with
 | true => exact size_yes t ht hr w
 | false => exact size_no t ht hr w
end
end Go.Proofs.Ytehmhgpogpbjiaa.Fcc
