/- The reference's Act (11) walked. -/
import Derived.Test.YtmglkgjnhoojaaatkA
import Derived.Test.YtmglkgjnhoojaaatkS
import Derived.Test.YtmglkgjnhoojaaatkR
import Derived.Test.YtmglkgjnhoojaaatkF
namespace Go.Proofs.Ytmglkgjnhoojaaa.PCodeRows
open Go.RowKit Go.Proofs.YtmglkgjnhoojaaaW.PrintWords Go.Proofs.YtmglkgjnhoojaaaW.PrintLast Go.Proofs.YtmglkgjnhoojaaaW.PrintMore
set_option linter.unusedVariables false
set_option linter.unusedSimpArgs false
theorem apost_mk {w w' : World} {base : Nat} {A0 A1 A2 A3 A4 : Option Addr} {c0 c1 c2 c3 c4 n0 n1 n2 n3 n4 : Nat} {o : Nat → Nat} {d : Dr} (hb : Below w.heap.size w w') (hw : w.heap.size ≤ base) (h5 : C5 w' base (.slice A0 n0 c0) (.slice A1 n1 c1) (.slice A2 n2 c2) (.slice A3 n3 c3) (.slice A4 n4 c4) o d.code d.origs d.dests d.loops d.cases) :
    APost w (.inl d) (.returned (.tuple #[drV A0 A1 A2 A3 A4 c0 c1 c2 c3 c4 n0 n1 n2 n3 n4, .int .i64 0])) w' := by
  obtain rfl := (Kd.R_reads' h5.c3.hc).1
  obtain rfl := (Kd.R_reads' h5.c3.ho).1
  obtain rfl := (Kd.R_reads' h5.c3.hd).1
  obtain rfl := (Kd.R_reads' (Kd.S_R h5.hl)).1
  obtain rfl := (Kd.R_reads' (Kd.S_R h5.hs)).1
  exact ⟨hb, A0, A1, A2, A3, A4, c0, c1, c2, c3, c4, o, rfl, h5.lower hw⟩
theorem own_head {α : Type} {d : Kd α} {e base n c : Nat} {W : World} {ok : Nat → Prop} {A : Option Addr} {xs : List α} (h : d.R e W base ok (.slice A (n + 1) c) xs) : ∃ g, A = some ⟨g, 0, none⟩ := by
  have h2 := Kd.R_reads' h
  obtain ⟨ad, e2, _⟩ := h2.2.2.2.2 (by omega)
  subst e2
  obtain ⟨g, rfl⟩ := Kd.R_head h
  exact ⟨g, rfl⟩
theorem int_at {W : World} {base g n c : Nat} {ok : Nat → Prop} {xs : List Int} {x : Int} (h : Kd.R (Kd.int .i64) 3 W base ok (.slice (some ⟨g, 0, none⟩) (n + 1) c) (xs ++ [x])) (hn : xs.length = n) : W.cell? ⟨g, n, none⟩ = some (.int .i64 x) ∧ W.frozen? ⟨g, n, none⟩ = false ∧
    ∀ a : Int, Kd.R (Kd.int .i64) 3 (W.setCell ⟨g, n, none⟩ (.int .i64 a)) base ok (.slice (some ⟨g, 0, none⟩) (n + 1) c) (xs ++ [a]) ∧ W.grownBy (W.setCell ⟨g, n, none⟩ (.int .i64 a)) (some g) := by
  subst hn
  obtain ⟨cs, hcl, hM, hcc, hfr⟩ := Kd.R_elem h (0 : Int) (xs.length : Int) (by omega) (by omega)
  rw [Int.toNat_natCast, get_last] at hM
  rw [Int.toNat_natCast] at hcc hfr
  have e1 : xs.length * (Kd.int .i64).sz + 0 = xs.length := by show xs.length * 1 + 0 = _; omega
  have hM' : cs = [.int .i64 x] := hM
  subst hM'
  refine ⟨by have := hcc 0 _ rfl; rwa [e1] at this, by have := hfr 0; rwa [e1] at this, fun a => ?_⟩
  have hp := Kd.R_putg h (xs.length : Int) a
  rw [Int.toNat_natCast, set_last] at hp
  exact hp
/-- A number's part of the newest instruction, set. -/
theorem code_at {W : World} {base g n c : Nat} {ok : Nat → Prop} {cs : List S37} {k v : Int} (h : Kd.R k37 37 W base ok (.slice (some ⟨g, 0, none⟩) (n + 1) c) (cs ++ [⟨k, v⟩])) (hn : cs.length = n) : W.cell? ⟨g, n * 2 + 1, none⟩ = some (.int .u32 v) ∧ W.frozen? ⟨g, n * 2 + 1, none⟩ = false ∧
    ∀ a : Int, Kd.R k37 37 (W.setCell ⟨g, n * 2 + 1, none⟩ (.int .u32 a)) base ok (.slice (some ⟨g, 0, none⟩) (n + 1) c) (cs ++ [⟨k, a⟩]) ∧ W.grownBy (W.setCell ⟨g, n * 2 + 1, none⟩ (.int .u32 a)) (some g) := by
  subst hn
  obtain ⟨cc, hcl, hM, hcc, hfr⟩ := Kd.R_elem h z37 (cs.length : Int) (by omega) (by omega)
  have hM2 := hM
  rw [Int.toNat_natCast, get_last] at hM2
  have hM' := k37_openM hM2
  subst hM'
  rw [Int.toNat_natCast] at hcc hfr
  refine ⟨hcc 1 _ rfl, hfr 1, fun a => ?_⟩
  have hp := Kd.R_seg h (cs.length : Int) (by omega) (by omega) (seg := [.int .u32 a]) (j := 1) hcl (by rw [Int.toNat_natCast]; exact hcc) (by show 1 + 1 ≤ 2; omega) (x' := ⟨k, a⟩) (okp := fun _ => False) (k37_mkM _ _ _ ⟨k, a⟩) (fun _ h => h.elim)
  rw [Int.toNat_natCast, set_last] at hp
  exact hp
theorem len_pos {α : Type} {l : List α} (h : ¬ l.length = 0) : ∃ xs x, l = xs ++ [x] := by
  rcases List.eq_nil_or_concat l with e | ⟨xs, x, e⟩
  · exact absurd (by rw [e]; rfl) h
  · exact ⟨xs, x, by rw [e, List.concat_eq_append]⟩
theorem lk_o {d : Dr} {a : Int} (ha : a = 2 ∨ a = 3) (h : lacksP d a = false) : ∃ xs x, d.origs = xs ++ [x] := len_pos (by rcases ha with rfl | rfl <;> simpa [lacksP] using h)
theorem lk_b {d : Dr} {a : Int} (ha : a = 5 ∨ a = 6) (h : lacksP d a = false) : ∃ xs x, d.dests = xs ++ [x] := len_pos (by rcases ha with rfl | rfl <;> simpa [lacksP] using h)
theorem lk_l {d : Dr} {a : Int} (ha : a = 9 ∨ a = 10 ∨ a = 11) (h : lacksP d a = false) : ∃ xs x, d.loops = xs ++ [x] := len_pos (by rcases ha with rfl | rfl | rfl <;> simpa [lacksP] using h)
theorem lk_n {l : List S59} {f : S59 → Bool} (h : noOpen l f = false) : ∃ ls x, l = ls ++ [x] ∧ f x = false := by
  rcases List.eq_nil_or_concat l with e | ⟨xs, x, e⟩
  · rw [e] at h; cases h
  · rw [List.concat_eq_append] at e
    rw [e, noOpen_snoc] at h
    exact ⟨xs, x, e, h⟩
theorem lk_c {d : Dr} {a : Int} (ha : a = 13 ∨ a = 15) (h : lacksP d a = false) : ∃ ls x, d.cases = ls ++ [x] ∧ x.f0 = -1 := by
  obtain ⟨ls, x, e, h⟩ := lk_n (l := d.cases) (f := fun x => x.f0 != -1) (by rcases ha with rfl | rfl <;> simpa [lacksP] using h)
  exact ⟨ls, x, e, by simpa using h⟩
theorem lk_e {d : Dr} (h : lacksP d 14 = false) : ∃ ls x, d.cases = ls ++ [x] ∧ x.f0 ≠ -1 := by
  obtain ⟨ls, x, e, h⟩ := lk_n (l := d.cases) (f := fun x => x.f0 == -1) (by simpa [lacksP] using h)
  exact ⟨ls, x, e, by simpa using h⟩
section
variable (A0 A1 A2 A3 A4 : Option Addr) (c0 c1 c2 c3 c4 : Nat) (code : List S37) (origs dests : List Int) (loops cases : List S59) (a : Int) (w : World)

set_option maxRecDepth 100000 in
set_option maxHeartbeats 8000000 in
theorem ract_bad (h : DrC w A0 A1 A2 A3 A4 c0 c1 c2 c3 c4 code origs dests loops cases) (hf : formedP code origs dests loops cases = false) :
    Calls Try.prog 11 #[drV A0 A1 A2 A3 A4 c0 c1 c2 c3 c4 code.length origs.length dests.length loops.length cases.length, .int .i64 a] w (APost w (.inr 1)) := by
  have hsz : (w.alloc (.cells #[.slice A0 code.length c0, .slice A1 origs.length c1, .slice A2 dests.length c2, .slice A3 loops.length c3, .slice A4 cases.length c4] 26)).heap.size = w.heap.size + 1 := by simp
  have HD := Aside0.mk (blk_alloc (blk_new w (.cells #[.slice A0 code.length c0, .slice A1 origs.length c1, .slice A2 dests.length c2, .slice A3 loops.length c3, .slice A4 cases.length c4] 26)) (.cells #[.slice none 0 0, .slice none 0 0, .slice none 0 0, .slice none 0 0, .slice none 0 0] 26))
  have HR0 := blk_new (w.alloc (.cells #[.slice A0 code.length c0, .slice A1 origs.length c1, .slice A2 dests.length c2, .slice A3 loops.length c3, .slice A4 cases.length c4] 26)) (.cells #[.slice none 0 0, .slice none 0 0, .slice none 0 0, .slice none 0 0, .slice none 0 0] 26)
  rw [hsz] at HR0
  have HR := Aside0.mk HR0
  clear hsz HR0
  have HB := Aside0.mk (below_alloc (below_alloc (Below.refl w.heap.size w) (.cells #[.slice A0 code.length c0, .slice A1 origs.length c1, .slice A2 dests.length c2, .slice A3 loops.length c3, .slice A4 cases.length c4] 26)) (.cells #[.slice none 0 0, .slice none 0 0, .slice none 0 0, .slice none 0 0, .slice none 0 0] 26))
  have H := Aside0.mk h
  have HF := Aside0.mk hf
  clear h hf
  obtain ⟨k0, k1, k2, k3, k4⟩ := cells5 HD.out
  go_enter Try.func11, Try.ntmps11
  go_wp2_with fail
  clear k0 k1 k2 k3 k4
  refine (rformed_calls A0 A1 A2 A3 A4 c0 c1 c2 c3 c4 code origs dests loops cases _ (H.out.below HB.out)).mono ?_
  rintro e w1 ⟨rfl, hb1⟩
  rw [HF.out]
  replace HB := Aside0.mk (below_step HB.out hb1)
  replace HD := Aside0.mk (blk_below HD.out hb1)
  replace HR := Aside0.mk (blk_below HR.out hb1)
  replace H := Aside0.mk (H.out.below HB.out)
  clear hb1
  obtain ⟨f0, f1, f2, f3, f4⟩ := frozen5 HR.out
  obtain ⟨r0, r1, r2, r3, r4⟩ := cells5 (show w1.heap[w.heap.size + 1]? = some (.cells #[.slice none 0 0, .slice none 0 0, .slice none 0 0, .slice none 0 0, .slice none 0 0] _ _) from HR.out)
  have HG4 := Aside0.mk (blk_put5 HR.out (.slice none 0 0) (.slice none 0 0) (.slice none 0 0) (.slice none 0 0) (.slice none 0 0))
  have HBz := Aside0.mk (below_put5 HB.out (Nat.le_succ _) (.slice none 0 0) (.slice none 0 0) (.slice none 0 0) (.slice none 0 0) (.slice none 0 0))
  go_wp2_with fail
  obtain ⟨y0, y1, y2, y3, y4⟩ := cells5 HG4.out
  exact bodyPost_ret (v := .tuple #[zdraft, .int .i64 1]) (by simp [results, Try.results11, go_sem, y0, y1, y2, y3, y4]) rfl ⟨HBz.out, rfl⟩
set_option maxRecDepth 100000 in
set_option maxHeartbeats 8000000 in
theorem ract_range (h : DrC w A0 A1 A2 A3 A4 c0 c1 c2 c3 c4 code origs dests loops cases) (hf : formedP code origs dests loops cases = true) (ha : a < 1 ∨ 15 < a) :
    Calls Try.prog 11 #[drV A0 A1 A2 A3 A4 c0 c1 c2 c3 c4 code.length origs.length dests.length loops.length cases.length, .int .i64 a] w (APost w (.inr 1)) := by
  rcases ha with ha | ha
  · have q1 : decide (a < 1) = true := decide_eq_true ha
    clear ha
    have hsz : (w.alloc (.cells #[.slice A0 code.length c0, .slice A1 origs.length c1, .slice A2 dests.length c2, .slice A3 loops.length c3, .slice A4 cases.length c4] 26)).heap.size = w.heap.size + 1 := by simp
    have HD := Aside0.mk (blk_alloc (blk_new w (.cells #[.slice A0 code.length c0, .slice A1 origs.length c1, .slice A2 dests.length c2, .slice A3 loops.length c3, .slice A4 cases.length c4] 26)) (.cells #[.slice none 0 0, .slice none 0 0, .slice none 0 0, .slice none 0 0, .slice none 0 0] 26))
    have HR0 := blk_new (w.alloc (.cells #[.slice A0 code.length c0, .slice A1 origs.length c1, .slice A2 dests.length c2, .slice A3 loops.length c3, .slice A4 cases.length c4] 26)) (.cells #[.slice none 0 0, .slice none 0 0, .slice none 0 0, .slice none 0 0, .slice none 0 0] 26)
    rw [hsz] at HR0
    have HR := Aside0.mk HR0
    clear hsz HR0
    have HB := Aside0.mk (below_alloc (below_alloc (Below.refl w.heap.size w) (.cells #[.slice A0 code.length c0, .slice A1 origs.length c1, .slice A2 dests.length c2, .slice A3 loops.length c3, .slice A4 cases.length c4] 26)) (.cells #[.slice none 0 0, .slice none 0 0, .slice none 0 0, .slice none 0 0, .slice none 0 0] 26))
    have H := Aside0.mk h
    have HF := Aside0.mk hf
    clear h hf
    obtain ⟨k0, k1, k2, k3, k4⟩ := cells5 HD.out
    go_enter Try.func11, Try.ntmps11
    go_wp2_with fail
    clear k0 k1 k2 k3 k4
    refine (rformed_calls A0 A1 A2 A3 A4 c0 c1 c2 c3 c4 code origs dests loops cases _ (H.out.below HB.out)).mono ?_
    rintro e w1 ⟨rfl, hb1⟩
    rw [HF.out]
    replace HB := Aside0.mk (below_step HB.out hb1)
    replace HD := Aside0.mk (blk_below HD.out hb1)
    replace HR := Aside0.mk (blk_below HR.out hb1)
    replace H := Aside0.mk (H.out.below HB.out)
    clear hb1
    obtain ⟨f0, f1, f2, f3, f4⟩ := frozen5 HR.out
    obtain ⟨r0, r1, r2, r3, r4⟩ := cells5 (show w1.heap[w.heap.size + 1]? = some (.cells #[.slice none 0 0, .slice none 0 0, .slice none 0 0, .slice none 0 0, .slice none 0 0] _ _) from HR.out)
    have HG4 := Aside0.mk (blk_put5 HR.out (.slice none 0 0) (.slice none 0 0) (.slice none 0 0) (.slice none 0 0) (.slice none 0 0))
    have HBz := Aside0.mk (below_put5 HB.out (Nat.le_succ _) (.slice none 0 0) (.slice none 0 0) (.slice none 0 0) (.slice none 0 0) (.slice none 0 0))
    go_wp2_with fail
    obtain ⟨y0, y1, y2, y3, y4⟩ := cells5 HG4.out
    exact bodyPost_ret (v := .tuple #[zdraft, .int .i64 1]) (by simp [results, Try.results11, go_sem, y0, y1, y2, y3, y4]) rfl ⟨HBz.out, rfl⟩
  · have q1 : decide (a < 1) = false := decide_eq_false (by omega)
    have q2 : decide (15 < a) = true := decide_eq_true ha
    clear ha
    have hsz : (w.alloc (.cells #[.slice A0 code.length c0, .slice A1 origs.length c1, .slice A2 dests.length c2, .slice A3 loops.length c3, .slice A4 cases.length c4] 26)).heap.size = w.heap.size + 1 := by simp
    have HD := Aside0.mk (blk_alloc (blk_new w (.cells #[.slice A0 code.length c0, .slice A1 origs.length c1, .slice A2 dests.length c2, .slice A3 loops.length c3, .slice A4 cases.length c4] 26)) (.cells #[.slice none 0 0, .slice none 0 0, .slice none 0 0, .slice none 0 0, .slice none 0 0] 26))
    have HR0 := blk_new (w.alloc (.cells #[.slice A0 code.length c0, .slice A1 origs.length c1, .slice A2 dests.length c2, .slice A3 loops.length c3, .slice A4 cases.length c4] 26)) (.cells #[.slice none 0 0, .slice none 0 0, .slice none 0 0, .slice none 0 0, .slice none 0 0] 26)
    rw [hsz] at HR0
    have HR := Aside0.mk HR0
    clear hsz HR0
    have HB := Aside0.mk (below_alloc (below_alloc (Below.refl w.heap.size w) (.cells #[.slice A0 code.length c0, .slice A1 origs.length c1, .slice A2 dests.length c2, .slice A3 loops.length c3, .slice A4 cases.length c4] 26)) (.cells #[.slice none 0 0, .slice none 0 0, .slice none 0 0, .slice none 0 0, .slice none 0 0] 26))
    have H := Aside0.mk h
    have HF := Aside0.mk hf
    clear h hf
    obtain ⟨k0, k1, k2, k3, k4⟩ := cells5 HD.out
    go_enter Try.func11, Try.ntmps11
    go_wp2_with fail
    clear k0 k1 k2 k3 k4
    refine (rformed_calls A0 A1 A2 A3 A4 c0 c1 c2 c3 c4 code origs dests loops cases _ (H.out.below HB.out)).mono ?_
    rintro e w1 ⟨rfl, hb1⟩
    rw [HF.out]
    replace HB := Aside0.mk (below_step HB.out hb1)
    replace HD := Aside0.mk (blk_below HD.out hb1)
    replace HR := Aside0.mk (blk_below HR.out hb1)
    replace H := Aside0.mk (H.out.below HB.out)
    clear hb1
    obtain ⟨f0, f1, f2, f3, f4⟩ := frozen5 HR.out
    obtain ⟨r0, r1, r2, r3, r4⟩ := cells5 (show w1.heap[w.heap.size + 1]? = some (.cells #[.slice none 0 0, .slice none 0 0, .slice none 0 0, .slice none 0 0, .slice none 0 0] _ _) from HR.out)
    have HG4 := Aside0.mk (blk_put5 HR.out (.slice none 0 0) (.slice none 0 0) (.slice none 0 0) (.slice none 0 0) (.slice none 0 0))
    have HBz := Aside0.mk (below_put5 HB.out (Nat.le_succ _) (.slice none 0 0) (.slice none 0 0) (.slice none 0 0) (.slice none 0 0) (.slice none 0 0))
    go_wp2_with fail
    obtain ⟨y0, y1, y2, y3, y4⟩ := cells5 HG4.out
    exact bodyPost_ret (v := .tuple #[zdraft, .int .i64 1]) (by simp [results, Try.results11, go_sem, y0, y1, y2, y3, y4]) rfl ⟨HBz.out, rfl⟩
set_option maxRecDepth 100000 in
set_option maxHeartbeats 8000000 in
theorem ract_lacks (h : DrC w A0 A1 A2 A3 A4 c0 c1 c2 c3 c4 code origs dests loops cases) (hf : formedP code origs dests loops cases = true) (hm : Room ⟨code, origs, dests, loops, cases⟩) (ha : 1 ≤ a ∧ a ≤ 15) (hlk : lacksP ⟨code, origs, dests, loops, cases⟩ a = true) :
    Calls Try.prog 11 #[drV A0 A1 A2 A3 A4 c0 c1 c2 c3 c4 code.length origs.length dests.length loops.length cases.length, .int .i64 a] w (APost w (.inr 13)) := by
  have q1 : decide (a < 1) = false := decide_eq_false (by omega)
  have q2 : decide (15 < a) = false := decide_eq_false (by omega)
  have HM := Aside0.mk hm
  have HA := Aside0.mk ha
  clear hm ha
  have HLK := Aside0.mk hlk
  clear hlk
  have hsz : (w.alloc (.cells #[.slice A0 code.length c0, .slice A1 origs.length c1, .slice A2 dests.length c2, .slice A3 loops.length c3, .slice A4 cases.length c4] 26)).heap.size = w.heap.size + 1 := by simp
  have HD := Aside0.mk (blk_alloc (blk_new w (.cells #[.slice A0 code.length c0, .slice A1 origs.length c1, .slice A2 dests.length c2, .slice A3 loops.length c3, .slice A4 cases.length c4] 26)) (.cells #[.slice none 0 0, .slice none 0 0, .slice none 0 0, .slice none 0 0, .slice none 0 0] 26))
  have HR0 := blk_new (w.alloc (.cells #[.slice A0 code.length c0, .slice A1 origs.length c1, .slice A2 dests.length c2, .slice A3 loops.length c3, .slice A4 cases.length c4] 26)) (.cells #[.slice none 0 0, .slice none 0 0, .slice none 0 0, .slice none 0 0, .slice none 0 0] 26)
  rw [hsz] at HR0
  have HR := Aside0.mk HR0
  clear hsz HR0
  have HB := Aside0.mk (below_alloc (below_alloc (Below.refl w.heap.size w) (.cells #[.slice A0 code.length c0, .slice A1 origs.length c1, .slice A2 dests.length c2, .slice A3 loops.length c3, .slice A4 cases.length c4] 26)) (.cells #[.slice none 0 0, .slice none 0 0, .slice none 0 0, .slice none 0 0, .slice none 0 0] 26))
  have H := Aside0.mk h
  have HF := Aside0.mk hf
  clear h hf
  obtain ⟨k0, k1, k2, k3, k4⟩ := cells5 HD.out
  go_enter Try.func11, Try.ntmps11
  go_wp2_with fail
  clear k0 k1 k2 k3 k4
  refine (rformed_calls A0 A1 A2 A3 A4 c0 c1 c2 c3 c4 code origs dests loops cases _ (H.out.below HB.out)).mono ?_
  rintro e w1 ⟨rfl, hb1⟩
  rw [HF.out]
  replace HB := Aside0.mk (below_step HB.out hb1)
  replace HD := Aside0.mk (blk_below HD.out hb1)
  replace HR := Aside0.mk (blk_below HR.out hb1)
  replace H := Aside0.mk (H.out.below HB.out)
  clear hb1
  obtain ⟨k0, k1, k2, k3, k4⟩ := cells5 HD.out
  go_wp2_with fail
  clear k0 k1 k2 k3 k4 q1 q2
  refine (lacks_calls (d := ⟨code, origs, dests, loops, cases⟩) H.out HA.out (Nat.lt_of_lt_of_le HM.out.cases (by decide))).mono ?_
  rintro e w2 ⟨rfl, hb⟩
  replace HB := Aside0.mk (below_step HB.out hb)
  replace HD := Aside0.mk (blk_below HD.out hb)
  replace HR := Aside0.mk (blk_below HR.out hb)
  replace H := Aside0.mk (H.out.below hb)
  clear hb
  rw [HLK.out]
  obtain ⟨f0, f1, f2, f3, f4⟩ := frozen5 HR.out
  obtain ⟨r0, r1, r2, r3, r4⟩ := cells5 (show w2.heap[w.heap.size + 1]? = some (.cells #[.slice none 0 0, .slice none 0 0, .slice none 0 0, .slice none 0 0, .slice none 0 0] _ _) from HR.out)
  have HG4 := Aside0.mk (blk_put5 HR.out (.slice none 0 0) (.slice none 0 0) (.slice none 0 0) (.slice none 0 0) (.slice none 0 0))
  have HBz := Aside0.mk (below_put5 HB.out (Nat.le_succ _) (.slice none 0 0) (.slice none 0 0) (.slice none 0 0) (.slice none 0 0) (.slice none 0 0))
  go_wp2_with fail
  obtain ⟨y0, y1, y2, y3, y4⟩ := cells5 HG4.out
  exact bodyPost_ret (v := .tuple #[zdraft, .int .i64 13]) (by simp [results, Try.results11, go_sem, y0, y1, y2, y3, y4]) rfl ⟨HBz.out, rfl⟩
set_option maxRecDepth 100000 in
set_option maxHeartbeats 8000000 in
theorem ract_long (h : DrC w A0 A1 A2 A3 A4 c0 c1 c2 c3 c4 code origs dests loops cases) (hf : formedP code origs dests loops cases = true) (hm : Room ⟨code, origs, dests, loops, cases⟩) (ha : 1 ≤ a ∧ a ≤ 15) (hlk : lacksP ⟨code, origs, dests, loops, cases⟩ a = false) (hk : laidP a ≠ 0) (hc : ¬ code.length < 256) :
    Calls Try.prog 11 #[drV A0 A1 A2 A3 A4 c0 c1 c2 c3 c4 code.length origs.length dests.length loops.length cases.length, .int .i64 a] w (APost w (.inr 3)) := by
  have q1 : decide (a < 1) = false := decide_eq_false (by omega)
  have q2 : decide (15 < a) = false := decide_eq_false (by omega)
  have HM := Aside0.mk hm
  have HA := Aside0.mk ha
  clear hm ha
  have HLK := Aside0.mk hlk
  have HKK := Aside0.mk hk
  have q3 : decide ((256 : Int) ≤ (code.length : Int)) = true := decide_eq_true (by omega)
  clear hlk hk hc
  have hsz : (w.alloc (.cells #[.slice A0 code.length c0, .slice A1 origs.length c1, .slice A2 dests.length c2, .slice A3 loops.length c3, .slice A4 cases.length c4] 26)).heap.size = w.heap.size + 1 := by simp
  have HD := Aside0.mk (blk_alloc (blk_new w (.cells #[.slice A0 code.length c0, .slice A1 origs.length c1, .slice A2 dests.length c2, .slice A3 loops.length c3, .slice A4 cases.length c4] 26)) (.cells #[.slice none 0 0, .slice none 0 0, .slice none 0 0, .slice none 0 0, .slice none 0 0] 26))
  have HR0 := blk_new (w.alloc (.cells #[.slice A0 code.length c0, .slice A1 origs.length c1, .slice A2 dests.length c2, .slice A3 loops.length c3, .slice A4 cases.length c4] 26)) (.cells #[.slice none 0 0, .slice none 0 0, .slice none 0 0, .slice none 0 0, .slice none 0 0] 26)
  rw [hsz] at HR0
  have HR := Aside0.mk HR0
  clear hsz HR0
  have HB := Aside0.mk (below_alloc (below_alloc (Below.refl w.heap.size w) (.cells #[.slice A0 code.length c0, .slice A1 origs.length c1, .slice A2 dests.length c2, .slice A3 loops.length c3, .slice A4 cases.length c4] 26)) (.cells #[.slice none 0 0, .slice none 0 0, .slice none 0 0, .slice none 0 0, .slice none 0 0] 26))
  have H := Aside0.mk h
  have HF := Aside0.mk hf
  clear h hf
  obtain ⟨k0, k1, k2, k3, k4⟩ := cells5 HD.out
  go_enter Try.func11, Try.ntmps11
  go_wp2_with fail
  clear k0 k1 k2 k3 k4
  refine (rformed_calls A0 A1 A2 A3 A4 c0 c1 c2 c3 c4 code origs dests loops cases _ (H.out.below HB.out)).mono ?_
  rintro e w1 ⟨rfl, hb1⟩
  rw [HF.out]
  replace HB := Aside0.mk (below_step HB.out hb1)
  replace HD := Aside0.mk (blk_below HD.out hb1)
  replace HR := Aside0.mk (blk_below HR.out hb1)
  replace H := Aside0.mk (H.out.below HB.out)
  clear hb1
  obtain ⟨k0, k1, k2, k3, k4⟩ := cells5 HD.out
  go_wp2_with fail
  clear k0 k1 k2 k3 k4 q1 q2
  refine (lacks_calls (d := ⟨code, origs, dests, loops, cases⟩) H.out HA.out (Nat.lt_of_lt_of_le HM.out.cases (by decide))).mono ?_
  rintro e w2 ⟨rfl, hb⟩
  replace HB := Aside0.mk (below_step HB.out hb)
  replace HD := Aside0.mk (blk_below HD.out hb)
  replace HR := Aside0.mk (blk_below HR.out hb)
  replace H := Aside0.mk (H.out.below hb)
  clear hb
  rw [HLK.out]
  go_wp2_with fail
  refine (laid_calls HA.out w2).mono ?_
  rintro e w3 ⟨rfl, hb⟩
  replace HB := Aside0.mk (below_step HB.out hb)
  replace HD := Aside0.mk (blk_below HD.out hb)
  replace HR := Aside0.mk (blk_below HR.out hb)
  replace H := Aside0.mk (H.out.below hb)
  clear hb
  obtain ⟨K, hK⟩ : ∃ K, laidP a = K := ⟨_, rfl⟩
  rw [hK]
  have HK := Aside0.mk hK
  clear hK
  have hk : K ≠ 0 := by rw [← HK.out]; exact HKK.out
  have q4 : (K == 0) = false := by simpa using hk
  have q5 : (K != 0) = true := by simpa using hk
  clear hk
  have k0 := (blk_cell HD.out 0).trans rfl
  obtain ⟨f0, f1, f2, f3, f4⟩ := frozen5 HR.out
  obtain ⟨r0, r1, r2, r3, r4⟩ := cells5 (show w3.heap[w.heap.size + 1]? = some (.cells #[.slice none 0 0, .slice none 0 0, .slice none 0 0, .slice none 0 0, .slice none 0 0] _ _) from HR.out)
  have HG4 := Aside0.mk (blk_put5 HR.out (.slice none 0 0) (.slice none 0 0) (.slice none 0 0) (.slice none 0 0) (.slice none 0 0))
  have HBz := Aside0.mk (below_put5 HB.out (Nat.le_succ _) (.slice none 0 0) (.slice none 0 0) (.slice none 0 0) (.slice none 0 0) (.slice none 0 0))
  go_wp2_with fail
  obtain ⟨y0, y1, y2, y3, y4⟩ := cells5 HG4.out
  exact bodyPost_ret (v := .tuple #[zdraft, .int .i64 3]) (by simp [results, Try.results11, go_sem, y0, y1, y2, y3, y4]) rfl ⟨HBz.out, rfl⟩
set_option maxRecDepth 100000 in
set_option maxHeartbeats 8000000 in
theorem ract_ok1 (h : DrC w A0 A1 A2 A3 A4 c0 c1 c2 c3 c4 code origs dests loops cases) (hf : formedP code origs dests loops cases = true) (hs : Small code origs dests loops cases) (hm : Room ⟨code, origs, dests, loops, cases⟩) (ha : 1 ≤ a ∧ a ≤ 15) (hlk : lacksP ⟨code, origs, dests, loops, cases⟩ a = false) (hk : laidP a ≠ 0) (hl : code.length < 256) :
    Calls Try.prog 11 #[drV A0 A1 A2 A3 A4 c0 c1 c2 c3 c4 code.length origs.length dests.length loops.length cases.length, .int .i64 a] w (APost w (actP ⟨code, origs, dests, loops, cases⟩ a)) := by
  have q1 : decide (a < 1) = false := decide_eq_false (by omega)
  have q2 : decide (15 < a) = false := decide_eq_false (by omega)
  have HM := Aside0.mk hm
  have HA := Aside0.mk ha
  clear hm ha
  have HLK := Aside0.mk hlk
  have HS := Aside0.mk hs
  have HF5 := formed_iff.1 hf
  have h256 : code.length ≤ 256 := HF5.len
  replace HF5 := Aside0.mk HF5
  clear hlk hs
  have q3 : decide ((256 : Int) ≤ (code.length : Int)) = false := decide_eq_false (by omega)
  have HKK := Aside0.mk hk
  clear hk
  have hsz : (w.alloc (.cells #[.slice A0 code.length c0, .slice A1 origs.length c1, .slice A2 dests.length c2, .slice A3 loops.length c3, .slice A4 cases.length c4] 26)).heap.size = w.heap.size + 1 := by simp
  have HD := Aside0.mk (blk_alloc (blk_new w (.cells #[.slice A0 code.length c0, .slice A1 origs.length c1, .slice A2 dests.length c2, .slice A3 loops.length c3, .slice A4 cases.length c4] 26)) (.cells #[.slice none 0 0, .slice none 0 0, .slice none 0 0, .slice none 0 0, .slice none 0 0] 26))
  have HR0 := blk_new (w.alloc (.cells #[.slice A0 code.length c0, .slice A1 origs.length c1, .slice A2 dests.length c2, .slice A3 loops.length c3, .slice A4 cases.length c4] 26)) (.cells #[.slice none 0 0, .slice none 0 0, .slice none 0 0, .slice none 0 0, .slice none 0 0] 26)
  rw [hsz] at HR0
  have HR := Aside0.mk HR0
  clear hsz HR0
  have HB := Aside0.mk (below_alloc (below_alloc (Below.refl w.heap.size w) (.cells #[.slice A0 code.length c0, .slice A1 origs.length c1, .slice A2 dests.length c2, .slice A3 loops.length c3, .slice A4 cases.length c4] 26)) (.cells #[.slice none 0 0, .slice none 0 0, .slice none 0 0, .slice none 0 0, .slice none 0 0] 26))
  have H := Aside0.mk h
  have HF := Aside0.mk hf
  clear h hf
  obtain ⟨k0, k1, k2, k3, k4⟩ := cells5 HD.out
  go_enter Try.func11, Try.ntmps11
  go_wp2_with fail
  clear k0 k1 k2 k3 k4
  refine (rformed_calls A0 A1 A2 A3 A4 c0 c1 c2 c3 c4 code origs dests loops cases _ (H.out.below HB.out)).mono ?_
  rintro e w1 ⟨rfl, hb1⟩
  rw [HF.out]
  replace HB := Aside0.mk (below_step HB.out hb1)
  replace HD := Aside0.mk (blk_below HD.out hb1)
  replace HR := Aside0.mk (blk_below HR.out hb1)
  replace H := Aside0.mk (H.out.below HB.out)
  clear hb1
  obtain ⟨k0, k1, k2, k3, k4⟩ := cells5 HD.out
  go_wp2_with fail
  clear k0 k1 k2 k3 k4 q1 q2
  refine (lacks_calls (d := ⟨code, origs, dests, loops, cases⟩) H.out HA.out (Nat.lt_of_lt_of_le HM.out.cases (by decide))).mono ?_
  rintro e w2 ⟨rfl, hb⟩
  replace HB := Aside0.mk (below_step HB.out hb)
  replace HD := Aside0.mk (blk_below HD.out hb)
  replace HR := Aside0.mk (blk_below HR.out hb)
  replace H := Aside0.mk (H.out.below hb)
  clear hb
  rw [HLK.out]
  go_wp2_with fail
  refine (laid_calls HA.out w2).mono ?_
  rintro e w3 ⟨rfl, hb⟩
  replace HB := Aside0.mk (below_step HB.out hb)
  replace HD := Aside0.mk (blk_below HD.out hb)
  replace HR := Aside0.mk (blk_below HR.out hb)
  replace H := Aside0.mk (H.out.below hb)
  clear hb
  obtain ⟨K, hK⟩ : ∃ K, laidP a = K := ⟨_, rfl⟩
  rw [hK]
  have HK := Aside0.mk hK
  clear hK
  have hk : K ≠ 0 := by rw [← HK.out]; exact HKK.out
  have q4 : (K == 0) = false := by simpa using hk
  have q5 : (K != 0) = true := by simpa using hk
  clear hk
  obtain ⟨k0, k1, k2, k3, k4⟩ := cells5 HD.out
  go_wp2_with fail
  clear k0 k1 k2 k3 k4 q3
  refine (copy_calls A0 A1 A2 A3 A4 c0 c1 c2 c3 c4 code origs dests loops cases w3 H.out HS.out HM.out).mono ?_
  rintro e w4 ⟨Z0, Z1, Z2, Z3, Z4, z0, z1, z2, z3, z4, oz, rfl, h5, hb⟩
  have hal := below_alloc (Below.refl _ w4) (.cells #[.slice Z0 code.length z0, .slice Z1 origs.length z1, .slice Z2 dests.length z2, .slice Z3 loops.length z3, .slice Z4 cases.length z4] 26)
  have HC := Aside0.mk (below_step hb hal)
  have HX := Aside0.mk (blk_new w4 (.cells #[.slice Z0 code.length z0, .slice Z1 origs.length z1, .slice Z2 dests.length z2, .slice Z3 loops.length z3, .slice Z4 cases.length z4] 26))
  have H5 := Aside0.mk (h5.below hal)
  have hg : w3.heap.size ≤ w4.heap.size := hb.size
  have HLT := Aside0.mk (blk_lt HR.out)
  have hW : w3.heap.size ≤ (w4.alloc (.cells #[.slice Z0 code.length z0, .slice Z1 origs.length z1, .slice Z2 dests.length z2, .slice Z3 loops.length z3, .slice Z4 cases.length z4] 26)).heap.size := HC.out.size
  clear hb h5 hal HD H
  have x0 : (w4.alloc (.cells #[.slice Z0 code.length z0, .slice Z1 origs.length z1, .slice Z2 dests.length z2, .slice Z3 loops.length z3, .slice Z4 cases.length z4] 26)).cell? ⟨w4.heap.size, 0, none⟩ = some (.slice Z0 code.length z0) := (blk_cell HX.out 0).trans rfl
  go_wp2_with (at_builtin; refine R_append_at k37 (w0 := w3) (W := w4.alloc (.cells #[.slice Z0 code.length z0, .slice Z1 origs.length z1, .slice Z2 dests.length z2, .slice Z3 loops.length z3, .slice Z4 cases.length z4] 26)) w3.heap.size (w4.heap.size + 1) (by simp) rfl _ _ 22 37 (.agg #[(.int .i64 0), (.int .u32 0)]) 16 rfl Try.underlying22 info37 rfl (by decide) (by decide) (.slice Z0 code.length z0) code ⟨K, 0⟩ [.int .i64 K, .int .u32 0] (fun _ => True) (fun _ => False) rfl rfl (k37_mkM _ _ _ _) (fun _ h => h.elim) (fun _ _ => trivial) H5.out.c3.hc HC.out hW (by omega) ?_)
  intro v' w5 hR hB1 hg1
  have hbk := blk_grown HX.out hg1 (Kd.R_ne H5.out.c3.hc HX.out (by decide))
  obtain ⟨Y0, yc, rfl⟩ := Kd.R_slice hR
  have hl1 : (code ++ [(⟨K, 0⟩ : S37)]).length = code.length + 1 := by simp
  rw [hl1] at hR ⊢
  have H5n := Aside0.mk ((H5.out.coded hg1 hR).set hbk 0 (.slice Y0 (code.length + 1) yc))
  have HXn := Aside0.mk (blk_put hbk 0 (.slice Y0 (code.length + 1) yc) rfl)
  have HCn := Aside0.mk (hB1.setCell (p := ⟨w4.heap.size, 0, none⟩) hg (.slice Y0 (code.length + 1) yc))
  have fz := blk_frozen hbk 0
  have fx : w5.cell? ⟨w4.heap.size, 0, none⟩ = some (.slice Z0 code.length z0) := (blk_cell hbk 0).trans rfl
  clear hbk hR hB1 hg1 x0 hl1 HX H5 HC hW
  obtain ⟨j0, j1, j2, j3, j4⟩ := cells5 (show (w5.setCell ⟨w4.heap.size, 0, none⟩ (.slice Y0 (code.length + 1) yc)).heap[w4.heap.size]? = some (.cells #[.slice Y0 (code.length + 1) yc, .slice Z1 origs.length z1, .slice Z2 dests.length z2, .slice Z3 loops.length z3, .slice Z4 cases.length z4] _ _) from HXn.out)
  have HX := HXn
  have H5 := H5n
  have HC := HCn
  clear HXn H5n HCn
  have hn1 : origs.length < 4398046511104 - 1 := HM.out.origs
  have hn2 : dests.length < 4398046511104 - 1 := HM.out.dests
  have hn3 : loops.length < 4398046511104 - 1 := HM.out.loops
  have hn4 : cases.length < 4398046511104 - 1 := HM.out.cases
  go_wp2_with fail
  go_quiet (fail)
  clear j0 j1 j2 j3 j4 fz fx
  replace HX := Aside0.mk (blk_drewN HX.out nq)
  replace H5 := Aside0.mk (H5.out.below (pw_below_drewN' (Below.refl _ _) nq))
  replace HC := Aside0.mk (pw_below_drewN' HC.out nq)
  generalize (w5.setCell ⟨w4.heap.size, 0, none⟩ (.slice Y0 (code.length + 1) yc)).drewN nq = W0 at HX H5 HC ⊢
  have hact := HA.out
  rcases act_split (by omega : ¬ (a < 1 ∨ 15 < a)) with rfl | rfl | rfl | rfl | rfl | rfl | rfl | rfl | rfl | rfl | rfl | rfl | rfl | rfl | rfl
  · obtain rfl : K = 4 := HK.out.symm
    clear HK HKK hact q4 q5
    obtain ⟨j0, j1, j2, j3, j4⟩ := cells5 (show W0.heap[w4.heap.size]? = some (.cells #[.slice Y0 (code.length + 1) yc, .slice Z1 origs.length z1, .slice Z2 dests.length z2, .slice Z3 loops.length z3, .slice Z4 cases.length z4] _ _) from HX.out)
    go_wp2_with (at_builtin; refine R_append_at (Kd.int .i64) (w0 := w3) (W := W0) w3.heap.size (W0.heap.size) (by simp) rfl _ _ 23 3 (.int .i64 0) 8 rfl Try.underlying23 infoI rfl (by decide) (by decide) (.slice Z1 origs.length z1) (origs) ((code.length : Int)) [.int .i64 ((code.length : Int))] (fun k => new_ W0 oz 1 k = 1) (fun _ => False) rfl rfl rfl (fun _ h => h.elim) (fun k hk => new_new hk) (R_lt_mono H5.out.c3.ho (fun k hk hl => new_old hk hl)) HC.out HC.out.size (by omega) ?_)
    intro v' W6 hR hB1 hg1
    have hR : Kd.R (Kd.int .i64) 3 W6 w3.heap.size (fun k => new_ W0 oz 1 k = 1) v' (origs ++ [(code.length : Int)]) := by simpa using hR
    have hbk := blk_grown HX.out hg1 (Kd.R_ne H5.out.c3.ho HX.out (by decide))
    obtain ⟨N6, m6, rfl⟩ := Kd.R_slice hR
    have hl1 : (origs ++ [(code.length : Int)]).length = origs.length + 1 := by simp
    rw [hl1] at hR ⊢
    clear j0 j1 j2 j3 j4
    have H5n := Aside0.mk ((H5.out.app1 hR hg1).set hbk 1 (.slice N6 (origs.length + 1) m6))
    have HXn := Aside0.mk (blk_put hbk 1 (.slice N6 (origs.length + 1) m6) rfl)
    have HCn := Aside0.mk (hB1.setCell (p := ⟨w4.heap.size, 1, none⟩) hg (.slice N6 (origs.length + 1) m6))
    have fz := blk_frozen hbk 1
    have fx : W6.cell? ⟨w4.heap.size, 1, none⟩ = some (.slice Z1 origs.length z1) := (blk_cell hbk 1).trans rfl
    clear hbk hR hB1 hg1 hl1 HX H5 HC
    have HX := HXn
    have H5 := H5n
    have HC := HCn
    clear HXn H5n HCn
    have HACT := Aside0.mk (of_acted (d := ⟨code, origs, dests, loops, cases⟩) (.a1 hl))
    have HRe := Aside0.mk ((HC.out.block _ HLT.out).trans HR.out)
    have HBe := Aside0.mk (below_step HB.out HC.out)
    have hw3 : w.heap.size ≤ w3.heap.size := HB.out.size
    obtain ⟨k0, k1, k2, k3, k4⟩ := cells5 (show (W6.setCell ⟨w4.heap.size, 1, none⟩ (.slice N6 (origs.length + 1) m6)).heap[w4.heap.size]? = some (.cells #[.slice Y0 (code.length + 1) yc, .slice N6 (origs.length + 1) m6, .slice Z2 dests.length z2, .slice Z3 loops.length z3, .slice Z4 cases.length z4] _ _) from HX.out)
    obtain ⟨f0, f1, f2, f3, f4⟩ := frozen5 HRe.out
    obtain ⟨r0, r1, r2, r3, r4⟩ := cells5 (show (W6.setCell ⟨w4.heap.size, 1, none⟩ (.slice N6 (origs.length + 1) m6)).heap[w.heap.size + 1]? = some (.cells #[.slice none 0 0, .slice none 0 0, .slice none 0 0, .slice none 0 0, .slice none 0 0] _ _) from HRe.out)
    have HG4 := Aside0.mk (blk_put5 HRe.out (.slice Y0 (code.length + 1) yc) (.slice N6 (origs.length + 1) m6) (.slice Z2 dests.length z2) (.slice Z3 loops.length z3) (.slice Z4 cases.length z4))
    have HBz := Aside0.mk (below_put5 HBe.out (Nat.le_succ _) (.slice Y0 (code.length + 1) yc) (.slice N6 (origs.length + 1) m6) (.slice Z2 dests.length z2) (.slice Z3 loops.length z3) (.slice Z4 cases.length z4))
    have H8 := Aside0.mk (H5.out.put5 HRe.out (.slice Y0 (code.length + 1) yc) (.slice N6 (origs.length + 1) m6) (.slice Z2 dests.length z2) (.slice Z3 loops.length z3) (.slice Z4 cases.length z4))
    clear HRe HBe HX H5 HC
    go_wp2_with fail
    obtain ⟨y0, y1, y2, y3, y4⟩ := cells5 HG4.out
    refine bodyPost_ret (v := .tuple #[.agg #[.slice Y0 (code.length + 1) yc, .slice N6 (origs.length + 1) m6, .slice Z2 dests.length z2, .slice Z3 loops.length z3, .slice Z4 cases.length z4], .int .i64 0]) (by simp [results, Try.results11, go_sem, y0, y1, y2, y3, y4]) rfl ?_
    rw [HACT.out]
    exact apost_mk HBz.out hw3 H8.out
  · obtain rfl : K = 3 := HK.out.symm
    clear HK HKK hact q4 q5
    obtain ⟨xs, x, e⟩ := lk_o (.inl rfl) HLK.out
    have e : origs = xs ++ [x] := e
    subst e
    have hl1 : (xs ++ [x]).length = xs.length + 1 := by simp
    have hi1 : ((xs.length + 1 : Nat) : Int) - 1 = (xs.length : Int) := by omega
    rw [hl1] at HX H5 hn1
    simp only [hl1, hi1]
    clear hl1 hi1
    have p6 : ((xs.length : Int) < (xs.length : Int) + 1) = True := eq_true (by omega)
    obtain ⟨g1, rfl⟩ := own_head H5.out.c3.ho
    obtain ⟨q1, q2, q3⟩ := int_at H5.out.c3.ho rfl
    obtain ⟨q4, q5⟩ := q3 (code.length : Int)
    have hne := Kd.R_ne H5.out.c3.ho HX.out (by decide)
    have Hs := H5.out.set1 q4 q5
    have HXs := blk_grown HX.out q5 hne
    have hbg : w3.heap.size ≤ g1 := Kd.R_base H5.out.c3.ho g1 (by simp [Value.ownBlock])
    have HCs := HC.out.setCell (p := ⟨g1, xs.length, none⟩) hbg (.int .i64 (code.length : Int))
    obtain ⟨j0, j1, j2, j3, j4⟩ := cells5 (show W0.heap[w4.heap.size]? = some (.cells #[.slice Y0 (code.length + 1) yc, .slice (some ⟨g1, 0, none⟩) (xs.length + 1) z1, .slice Z2 dests.length z2, .slice Z3 loops.length z3, .slice Z4 cases.length z4] _ _) from HX.out)
    have p2 : (0 ≤ (xs.length : Int)) = True := eq_true (by omega)
    have p3 : ((xs.length : Int) < ((xs.length + 1 : Nat) : Int)) = True := eq_true (by omega)
    have i1 : (W0.setCell ⟨g1, xs.length, none⟩ (.int .i64 (code.length : Int))).cell? ⟨w4.heap.size, 1, none⟩ = some (.slice (some ⟨g1, 0, none⟩) (xs.length + 1) z1) := (blk_cell HXs 1).trans rfl
    clear HX H5 HC hne q4 q5 q3
    have HX := Aside0.mk HXs
    have H5 := Aside0.mk Hs
    have HC := Aside0.mk HCs
    clear HXs Hs HCs hbg
    go_wp2_with (at_builtin; refine R_append_at (Kd.int .i64) (w0 := w3) (W := (W0.setCell ⟨g1, xs.length, none⟩ (.int .i64 (code.length : Int)))) w3.heap.size (W0.heap.size) (by simp) rfl _ _ 23 3 (.int .i64 0) 8 rfl Try.underlying23 infoI rfl (by decide) (by decide) (.slice (some ⟨g1, 0, none⟩) (xs.length + 1) z1) (xs ++ [(code.length : Int)]) (x) [.int .i64 (x)] (fun k => new_ (W0.setCell ⟨g1, xs.length, none⟩ (.int .i64 (code.length : Int))) (new_ W0 oz 1) 1 k = 1) (fun _ => False) rfl rfl rfl (fun _ h => h.elim) (fun k hk => new_new hk) (R_lt_mono H5.out.c3.ho (fun k hk hl => new_old hk hl)) HC.out HC.out.size (by simp; omega) ?_)
    intro v' W6 hR hB1 hg1
    have hR : Kd.R (Kd.int .i64) 3 W6 w3.heap.size (fun k => new_ (W0.setCell ⟨g1, xs.length, none⟩ (.int .i64 (code.length : Int))) (new_ W0 oz 1) 1 k = 1) v' (xs ++ [(code.length : Int), x]) := by simpa using hR
    have hbk := blk_grown HX.out hg1 (Kd.R_ne H5.out.c3.ho HX.out (by decide))
    obtain ⟨N6, m6, rfl⟩ := Kd.R_slice hR
    have hl1 : (xs ++ [(code.length : Int), x]).length = (xs.length + 1) + 1 := by simp
    rw [hl1] at hR ⊢
    have H5n := Aside0.mk ((H5.out.app1 hR hg1).set hbk 1 (.slice N6 ((xs.length + 1) + 1) m6))
    have HXn := Aside0.mk (blk_put hbk 1 (.slice N6 ((xs.length + 1) + 1) m6) rfl)
    have HCn := Aside0.mk (hB1.setCell (p := ⟨w4.heap.size, 1, none⟩) hg (.slice N6 ((xs.length + 1) + 1) m6))
    have fz := blk_frozen hbk 1
    have fx : W6.cell? ⟨w4.heap.size, 1, none⟩ = some (.slice (some ⟨g1, 0, none⟩) (xs.length + 1) z1) := (blk_cell hbk 1).trans rfl
    clear hbk hR hB1 hg1 hl1 HX H5 HC
    have HX := HXn
    have H5 := H5n
    have HC := HCn
    clear HXn H5n HCn
    have HACT := Aside0.mk (of_acted (d := ⟨code, xs ++ [x], dests, loops, cases⟩) (.a2 xs x rfl hl))
    have HRe := Aside0.mk ((HC.out.block _ HLT.out).trans HR.out)
    have HBe := Aside0.mk (below_step HB.out HC.out)
    have hw3 : w.heap.size ≤ w3.heap.size := HB.out.size
    obtain ⟨k0, k1, k2, k3, k4⟩ := cells5 (show (W6.setCell ⟨w4.heap.size, 1, none⟩ (.slice N6 ((xs.length + 1) + 1) m6)).heap[w4.heap.size]? = some (.cells #[.slice Y0 (code.length + 1) yc, .slice N6 ((xs.length + 1) + 1) m6, .slice Z2 dests.length z2, .slice Z3 loops.length z3, .slice Z4 cases.length z4] _ _) from HX.out)
    obtain ⟨f0, f1, f2, f3, f4⟩ := frozen5 HRe.out
    obtain ⟨r0, r1, r2, r3, r4⟩ := cells5 (show (W6.setCell ⟨w4.heap.size, 1, none⟩ (.slice N6 ((xs.length + 1) + 1) m6)).heap[w.heap.size + 1]? = some (.cells #[.slice none 0 0, .slice none 0 0, .slice none 0 0, .slice none 0 0, .slice none 0 0] _ _) from HRe.out)
    have HG4 := Aside0.mk (blk_put5 HRe.out (.slice Y0 (code.length + 1) yc) (.slice N6 ((xs.length + 1) + 1) m6) (.slice Z2 dests.length z2) (.slice Z3 loops.length z3) (.slice Z4 cases.length z4))
    have HBz := Aside0.mk (below_put5 HBe.out (Nat.le_succ _) (.slice Y0 (code.length + 1) yc) (.slice N6 ((xs.length + 1) + 1) m6) (.slice Z2 dests.length z2) (.slice Z3 loops.length z3) (.slice Z4 cases.length z4))
    have H8 := Aside0.mk (H5.out.put5 HRe.out (.slice Y0 (code.length + 1) yc) (.slice N6 ((xs.length + 1) + 1) m6) (.slice Z2 dests.length z2) (.slice Z3 loops.length z3) (.slice Z4 cases.length z4))
    clear HRe HBe HX H5 HC
    go_wp2_with fail
    obtain ⟨y0, y1, y2, y3, y4⟩ := cells5 HG4.out
    refine bodyPost_ret (v := .tuple #[.agg #[.slice Y0 (code.length + 1) yc, .slice N6 ((xs.length + 1) + 1) m6, .slice Z2 dests.length z2, .slice Z3 loops.length z3, .slice Z4 cases.length z4], .int .i64 0]) (by simp [results, Try.results11, go_sem, y0, y1, y2, y3, y4]) rfl ?_
    rw [HACT.out]
    exact apost_mk HBz.out hw3 H8.out
  · exact absurd HKK.out (by decide)
  · exact absurd HKK.out (by decide)
  · obtain rfl : K = 3 := HK.out.symm
    clear HK HKK hact q4 q5
    obtain ⟨xs, x, e⟩ := lk_b (.inl rfl) HLK.out
    have e : dests = xs ++ [x] := e
    subst e
    have hl1 : (xs ++ [x]).length = xs.length + 1 := by simp
    have hi1 : ((xs.length + 1 : Nat) : Int) - 1 = (xs.length : Int) := by omega
    rw [hl1] at HX H5 hn2
    simp only [hl1, hi1]
    clear hl1 hi1
    have p6 : ((xs.length : Int) < (xs.length : Int) + 1) = True := eq_true (by omega)
    obtain ⟨g2, rfl⟩ := own_head H5.out.c3.hd
    obtain ⟨gc, rfl⟩ := own_head H5.out.c3.hc
    have p7 : ((code.length : Int) < (code.length : Int) + 1) = True := eq_true (by omega)
    have hxr : 0 ≤ x ∧ x ≤ (code.length : Int) := by have := HF5.out.dests; unfold destsP at this; rw [List.all_eq_true] at this; simpa using this x (by simp)
    have m0 : x % 4294967296 = x := by omega
    obtain ⟨x0, x1⟩ := hxr
    have HACT := Aside0.mk (of_acted (d := ⟨code, origs, xs ++ [x], loops, cases⟩) (.a5 xs x rfl hl))
    rw [m0] at HACT
    have q1 := (int_at H5.out.c3.hd rfl).1
    have p2 : (0 ≤ (xs.length : Int)) = True := eq_true (by omega)
    have p3 : ((xs.length : Int) < ((xs.length + 1 : Nat) : Int)) = True := eq_true (by omega)
    have p4 : (0 ≤ (code.length : Int)) = True := eq_true (by omega)
    have p5 : ((code.length : Int) < ((code.length + 1 : Nat) : Int)) = True := eq_true (by omega)
    have hS : W0.cell? ⟨w4.heap.size, 0, none⟩ = some (.slice (some ⟨gc, 0, none⟩) (code.length + 1) yc) ∧ W0.cell? ⟨w4.heap.size, 2, none⟩ = some (.slice (some ⟨g2, 0, none⟩) (xs.length + 1) z2) ∧ W0.cell? ⟨g2, xs.length, none⟩ = some (.int .i64 x) := ⟨(blk_cell HX.out 0).trans rfl, (blk_cell HX.out 2).trans rfl, q1⟩
    go_wp2_with fail
    refine start_ (n := 12) (S := fun w' => w'.cell? ⟨w4.heap.size, 0, none⟩ = some (.slice (some ⟨gc, 0, none⟩) (code.length + 1) yc) ∧ w'.cell? ⟨w4.heap.size, 2, none⟩ = some (.slice (some ⟨g2, 0, none⟩) (xs.length + 1) z2) ∧ w'.cell? ⟨g2, xs.length, none⟩ = some (.int .i64 x)) (ds := [11]) (bz_ 12 0) (by kernel_rfl) rfl rfl (hS) (fun hHeld => ?_)
    refine with_tab (rfl : rtab .any (opsOf Try.f11 28) = rtab .any (opsOf Try.f11 28)) (fun HT_ => ?_)
    have HXd := blk_drew HX.out
    have H5d := H5.out.below (below_drew (Below.refl _ _))
    have HCd := below_drew HC.out
    clear hS q1 HX H5 HC
    generalize W0.drew = wd at HXd H5d HCd hHeld ⊢
    obtain ⟨c1, c2, c3⟩ := code_at H5d.c3.hc rfl
    obtain ⟨c4, c5⟩ := c3 x
    apply pu_ 0 (some 127) (bz_ 12 1) HT_ rfl rfl (by kernel_rfl) (fun _ _ _ h => h) (by rfl)
    · intro _; go_simp; with_reducible rfl
    · go_simp; rfl
    apply pu_ 2 (some 129) (bz_ 12 5) HT_ rfl rfl (by kernel_rfl) (fun _ _ _ h => h) (by rfl)
    · intro _; go_simp; with_reducible rfl
    · go_simp; rfl
    apply pu_ 3 (some 130) (bz_ 12 13) HT_ rfl rfl (by kernel_rfl) (fun _ _ _ h => h) (by rfl)
    · intro _; go_simp; with_reducible rfl
    · go_simp; rfl
    apply pu_ 5 (some 132) (bz_ 12 45) HT_ rfl rfl (by kernel_rfl) (fun _ _ _ h => h) (by rfl)
    · intro _; go_simp; with_reducible rfl
    · go_simp; rfl
    apply tk_ 1 (some 128) (bz_ 12 47) HT_ hHeld rfl rfl (by kernel_rfl) (fun _ _ _ h => h) (by rfl)
    · intro _ hS; go_split_ands; go_simp; with_reducible rfl
    · go_simp; rfl
    apply tk_ 4 (some 131) (bz_ 12 63) HT_ hHeld rfl rfl (by kernel_rfl) (fun _ _ _ h => h) (by rfl)
    · intro _ hS; go_split_ands; go_simp; with_reducible rfl
    · go_simp; rfl
    apply pu_ 6 (some 133) (bz_ 12 127) HT_ rfl rfl (by kernel_rfl) (fun _ _ _ h => h) (by rfl)
    · intro _; go_simp; with_reducible rfl
    · go_simp; rfl
    apply tk_ 7 (some 134) (bz_ 12 255) HT_ hHeld rfl rfl (by kernel_rfl) (fun _ _ _ h => h) (by rfl)
    · intro _ hS; go_split_ands; go_simp; with_reducible rfl
    · go_simp; rfl
    apply pu_ 8 (some 135) (bz_ 12 511) HT_ rfl rfl (by kernel_rfl) (fun _ _ _ h => h) (by rfl)
    · intro _; go_simp; with_reducible rfl
    · go_simp; rfl
    apply pu_ 9 (some 136) (bz_ 12 1023) HT_ rfl rfl (by kernel_rfl) (fun _ _ _ h => h) (by rfl)
    · intro _; go_simp; with_reducible rfl
    · go_simp; rfl
    apply pu_ 10 (some 137) (bz_ 12 2047) HT_ rfl rfl (by kernel_rfl) (fun _ _ _ h => h) (by rfl)
    · intro _; go_simp; with_reducible rfl
    · go_simp; rfl
    refine last_ (i := 11) (N := none) (bz_ 12 4095) rfl rfl (one_of HT_.out (by kernel_rfl)) (by decide) (fun K hK => ?_)
    go_simp
    refine hK.out _ _ ?_
    clear hK K
    refine done_ (done_of HT_.out (by kernel_rfl)) ?_
    clear HT_ hHeld c1 c2
    have H5 := Aside0.mk (H5d.coded c5 c4)
    have HX := Aside0.mk (blk_grown HXd c5 (Kd.R_ne H5d.c3.hc HXd (by decide)))
    have HC := Aside0.mk (HCd.setCell (p := ⟨gc, code.length * 2 + 1, none⟩) (Kd.R_base H5d.c3.hc gc (by simp [Value.ownBlock])) (.int .u32 x))
    clear H5d HXd HCd c3 c4 c5
    have hz2 : xs.length ≤ z2 := by have := (Kd.R_reads' H5.out.c3.hd).2.1; omega
    obtain ⟨j0, j1, j2, j3, j4⟩ := cells5 (show (wd.setCell ⟨gc, code.length * 2 + 1, none⟩ (.int .u32 x)).heap[w4.heap.size]? = some (.cells #[.slice (some ⟨gc, 0, none⟩) (code.length + 1) yc, .slice Z1 origs.length z1, .slice (some ⟨g2, 0, none⟩) (xs.length + 1) z2, .slice Z3 loops.length z3, .slice Z4 cases.length z4] _ _) from HX.out)
    have fz := blk_frozen HX.out 2
    have H5n := Aside0.mk (H5.out.pop2.set HX.out 2 (.slice (some ⟨g2, 0, none⟩) xs.length z2))
    have HXn := Aside0.mk (blk_put HX.out 2 (.slice (some ⟨g2, 0, none⟩) xs.length z2) rfl)
    have HCn := Aside0.mk (HC.out.setCell (p := ⟨w4.heap.size, 2, none⟩) hg (.slice (some ⟨g2, 0, none⟩) xs.length z2))
    clear HX H5 HC
    have HX := HXn
    have H5 := H5n
    have HC := HCn
    clear HXn H5n HCn
    have HRe := Aside0.mk ((HC.out.block _ HLT.out).trans HR.out)
    have HBe := Aside0.mk (below_step HB.out HC.out)
    have hw3 : w.heap.size ≤ w3.heap.size := HB.out.size
    obtain ⟨k0, k1, k2, k3, k4⟩ := cells5 (show ((wd.setCell ⟨gc, code.length * 2 + 1, none⟩ (.int .u32 x)).setCell ⟨w4.heap.size, 2, none⟩ (.slice (some ⟨g2, 0, none⟩) xs.length z2)).heap[w4.heap.size]? = some (.cells #[.slice (some ⟨gc, 0, none⟩) (code.length + 1) yc, .slice Z1 origs.length z1, .slice (some ⟨g2, 0, none⟩) xs.length z2, .slice Z3 loops.length z3, .slice Z4 cases.length z4] _ _) from HX.out)
    obtain ⟨f0, f1, f2, f3, f4⟩ := frozen5 HRe.out
    obtain ⟨r0, r1, r2, r3, r4⟩ := cells5 (show ((wd.setCell ⟨gc, code.length * 2 + 1, none⟩ (.int .u32 x)).setCell ⟨w4.heap.size, 2, none⟩ (.slice (some ⟨g2, 0, none⟩) xs.length z2)).heap[w.heap.size + 1]? = some (.cells #[.slice none 0 0, .slice none 0 0, .slice none 0 0, .slice none 0 0, .slice none 0 0] _ _) from HRe.out)
    have HG4 := Aside0.mk (blk_put5 HRe.out (.slice (some ⟨gc, 0, none⟩) (code.length + 1) yc) (.slice Z1 origs.length z1) (.slice (some ⟨g2, 0, none⟩) xs.length z2) (.slice Z3 loops.length z3) (.slice Z4 cases.length z4))
    have HBz := Aside0.mk (below_put5 HBe.out (Nat.le_succ _) (.slice (some ⟨gc, 0, none⟩) (code.length + 1) yc) (.slice Z1 origs.length z1) (.slice (some ⟨g2, 0, none⟩) xs.length z2) (.slice Z3 loops.length z3) (.slice Z4 cases.length z4))
    have H8 := Aside0.mk (H5.out.put5 HRe.out (.slice (some ⟨gc, 0, none⟩) (code.length + 1) yc) (.slice Z1 origs.length z1) (.slice (some ⟨g2, 0, none⟩) xs.length z2) (.slice Z3 loops.length z3) (.slice Z4 cases.length z4))
    clear HRe HBe HX H5 HC
    go_wp2_with fail
    obtain ⟨y0, y1, y2, y3, y4⟩ := cells5 HG4.out
    refine bodyPost_ret (v := .tuple #[.agg #[.slice (some ⟨gc, 0, none⟩) (code.length + 1) yc, .slice Z1 origs.length z1, .slice (some ⟨g2, 0, none⟩) xs.length z2, .slice Z3 loops.length z3, .slice Z4 cases.length z4], .int .i64 0]) (by simp [results, Try.results11, go_sem, y0, y1, y2, y3, y4]) rfl ?_
    rw [HACT.out]
    exact apost_mk HBz.out hw3 H8.out
  · obtain rfl : K = 4 := HK.out.symm
    clear HK HKK hact q4 q5
    obtain ⟨xs, x, e⟩ := lk_b (.inr rfl) HLK.out
    have e : dests = xs ++ [x] := e
    subst e
    have hl1 : (xs ++ [x]).length = xs.length + 1 := by simp
    have hi1 : ((xs.length + 1 : Nat) : Int) - 1 = (xs.length : Int) := by omega
    rw [hl1] at HX H5 hn2
    simp only [hl1, hi1]
    clear hl1 hi1
    have p6 : ((xs.length : Int) < (xs.length : Int) + 1) = True := eq_true (by omega)
    obtain ⟨g2, rfl⟩ := own_head H5.out.c3.hd
    obtain ⟨gc, rfl⟩ := own_head H5.out.c3.hc
    have p7 : ((code.length : Int) < (code.length : Int) + 1) = True := eq_true (by omega)
    have hxr : 0 ≤ x ∧ x ≤ (code.length : Int) := by have := HF5.out.dests; unfold destsP at this; rw [List.all_eq_true] at this; simpa using this x (by simp)
    have m0 : x % 4294967296 = x := by omega
    obtain ⟨x0, x1⟩ := hxr
    have HACT := Aside0.mk (of_acted (d := ⟨code, origs, xs ++ [x], loops, cases⟩) (.a6 xs x rfl hl))
    rw [m0] at HACT
    have q1 := (int_at H5.out.c3.hd rfl).1
    have p2 : (0 ≤ (xs.length : Int)) = True := eq_true (by omega)
    have p3 : ((xs.length : Int) < ((xs.length + 1 : Nat) : Int)) = True := eq_true (by omega)
    have p4 : (0 ≤ (code.length : Int)) = True := eq_true (by omega)
    have p5 : ((code.length : Int) < ((code.length + 1 : Nat) : Int)) = True := eq_true (by omega)
    have hS : W0.cell? ⟨w4.heap.size, 0, none⟩ = some (.slice (some ⟨gc, 0, none⟩) (code.length + 1) yc) ∧ W0.cell? ⟨w4.heap.size, 2, none⟩ = some (.slice (some ⟨g2, 0, none⟩) (xs.length + 1) z2) ∧ W0.cell? ⟨g2, xs.length, none⟩ = some (.int .i64 x) := ⟨(blk_cell HX.out 0).trans rfl, (blk_cell HX.out 2).trans rfl, q1⟩
    go_wp2_with fail
    refine start_ (n := 12) (S := fun w' => w'.cell? ⟨w4.heap.size, 0, none⟩ = some (.slice (some ⟨gc, 0, none⟩) (code.length + 1) yc) ∧ w'.cell? ⟨w4.heap.size, 2, none⟩ = some (.slice (some ⟨g2, 0, none⟩) (xs.length + 1) z2) ∧ w'.cell? ⟨g2, xs.length, none⟩ = some (.int .i64 x)) (ds := [11]) (bz_ 12 0) (by kernel_rfl) rfl rfl (hS) (fun hHeld => ?_)
    refine with_tab (rfl : rtab .any (opsOf Try.f11 28) = rtab .any (opsOf Try.f11 28)) (fun HT_ => ?_)
    have HXd := blk_drew HX.out
    have H5d := H5.out.below (below_drew (Below.refl _ _))
    have HCd := below_drew HC.out
    clear hS q1 HX H5 HC
    generalize W0.drew = wd at HXd H5d HCd hHeld ⊢
    obtain ⟨c1, c2, c3⟩ := code_at H5d.c3.hc rfl
    obtain ⟨c4, c5⟩ := c3 x
    apply pu_ 0 (some 127) (bz_ 12 1) HT_ rfl rfl (by kernel_rfl) (fun _ _ _ h => h) (by rfl)
    · intro _; go_simp; with_reducible rfl
    · go_simp; rfl
    apply pu_ 2 (some 129) (bz_ 12 5) HT_ rfl rfl (by kernel_rfl) (fun _ _ _ h => h) (by rfl)
    · intro _; go_simp; with_reducible rfl
    · go_simp; rfl
    apply pu_ 3 (some 130) (bz_ 12 13) HT_ rfl rfl (by kernel_rfl) (fun _ _ _ h => h) (by rfl)
    · intro _; go_simp; with_reducible rfl
    · go_simp; rfl
    apply pu_ 5 (some 132) (bz_ 12 45) HT_ rfl rfl (by kernel_rfl) (fun _ _ _ h => h) (by rfl)
    · intro _; go_simp; with_reducible rfl
    · go_simp; rfl
    apply tk_ 1 (some 128) (bz_ 12 47) HT_ hHeld rfl rfl (by kernel_rfl) (fun _ _ _ h => h) (by rfl)
    · intro _ hS; go_split_ands; go_simp; with_reducible rfl
    · go_simp; rfl
    apply tk_ 4 (some 131) (bz_ 12 63) HT_ hHeld rfl rfl (by kernel_rfl) (fun _ _ _ h => h) (by rfl)
    · intro _ hS; go_split_ands; go_simp; with_reducible rfl
    · go_simp; rfl
    apply pu_ 6 (some 133) (bz_ 12 127) HT_ rfl rfl (by kernel_rfl) (fun _ _ _ h => h) (by rfl)
    · intro _; go_simp; with_reducible rfl
    · go_simp; rfl
    apply tk_ 7 (some 134) (bz_ 12 255) HT_ hHeld rfl rfl (by kernel_rfl) (fun _ _ _ h => h) (by rfl)
    · intro _ hS; go_split_ands; go_simp; with_reducible rfl
    · go_simp; rfl
    apply pu_ 8 (some 135) (bz_ 12 511) HT_ rfl rfl (by kernel_rfl) (fun _ _ _ h => h) (by rfl)
    · intro _; go_simp; with_reducible rfl
    · go_simp; rfl
    apply pu_ 9 (some 136) (bz_ 12 1023) HT_ rfl rfl (by kernel_rfl) (fun _ _ _ h => h) (by rfl)
    · intro _; go_simp; with_reducible rfl
    · go_simp; rfl
    apply pu_ 10 (some 137) (bz_ 12 2047) HT_ rfl rfl (by kernel_rfl) (fun _ _ _ h => h) (by rfl)
    · intro _; go_simp; with_reducible rfl
    · go_simp; rfl
    refine last_ (i := 11) (N := none) (bz_ 12 4095) rfl rfl (one_of HT_.out (by kernel_rfl)) (by decide) (fun K hK => ?_)
    go_simp
    refine hK.out _ _ ?_
    clear hK K
    refine done_ (done_of HT_.out (by kernel_rfl)) ?_
    clear HT_ hHeld c1 c2
    have H5 := Aside0.mk (H5d.coded c5 c4)
    have HX := Aside0.mk (blk_grown HXd c5 (Kd.R_ne H5d.c3.hc HXd (by decide)))
    have HC := Aside0.mk (HCd.setCell (p := ⟨gc, code.length * 2 + 1, none⟩) (Kd.R_base H5d.c3.hc gc (by simp [Value.ownBlock])) (.int .u32 x))
    clear H5d HXd HCd c3 c4 c5
    have hz2 : xs.length ≤ z2 := by have := (Kd.R_reads' H5.out.c3.hd).2.1; omega
    obtain ⟨j0, j1, j2, j3, j4⟩ := cells5 (show (wd.setCell ⟨gc, code.length * 2 + 1, none⟩ (.int .u32 x)).heap[w4.heap.size]? = some (.cells #[.slice (some ⟨gc, 0, none⟩) (code.length + 1) yc, .slice Z1 origs.length z1, .slice (some ⟨g2, 0, none⟩) (xs.length + 1) z2, .slice Z3 loops.length z3, .slice Z4 cases.length z4] _ _) from HX.out)
    have fz := blk_frozen HX.out 2
    have H5n := Aside0.mk (H5.out.pop2.set HX.out 2 (.slice (some ⟨g2, 0, none⟩) xs.length z2))
    have HXn := Aside0.mk (blk_put HX.out 2 (.slice (some ⟨g2, 0, none⟩) xs.length z2) rfl)
    have HCn := Aside0.mk (HC.out.setCell (p := ⟨w4.heap.size, 2, none⟩) hg (.slice (some ⟨g2, 0, none⟩) xs.length z2))
    clear HX H5 HC
    have HX := HXn
    have H5 := H5n
    have HC := HCn
    clear HXn H5n HCn
    have HRe := Aside0.mk ((HC.out.block _ HLT.out).trans HR.out)
    have HBe := Aside0.mk (below_step HB.out HC.out)
    have hw3 : w.heap.size ≤ w3.heap.size := HB.out.size
    obtain ⟨k0, k1, k2, k3, k4⟩ := cells5 (show ((wd.setCell ⟨gc, code.length * 2 + 1, none⟩ (.int .u32 x)).setCell ⟨w4.heap.size, 2, none⟩ (.slice (some ⟨g2, 0, none⟩) xs.length z2)).heap[w4.heap.size]? = some (.cells #[.slice (some ⟨gc, 0, none⟩) (code.length + 1) yc, .slice Z1 origs.length z1, .slice (some ⟨g2, 0, none⟩) xs.length z2, .slice Z3 loops.length z3, .slice Z4 cases.length z4] _ _) from HX.out)
    obtain ⟨f0, f1, f2, f3, f4⟩ := frozen5 HRe.out
    obtain ⟨r0, r1, r2, r3, r4⟩ := cells5 (show ((wd.setCell ⟨gc, code.length * 2 + 1, none⟩ (.int .u32 x)).setCell ⟨w4.heap.size, 2, none⟩ (.slice (some ⟨g2, 0, none⟩) xs.length z2)).heap[w.heap.size + 1]? = some (.cells #[.slice none 0 0, .slice none 0 0, .slice none 0 0, .slice none 0 0, .slice none 0 0] _ _) from HRe.out)
    have HG4 := Aside0.mk (blk_put5 HRe.out (.slice (some ⟨gc, 0, none⟩) (code.length + 1) yc) (.slice Z1 origs.length z1) (.slice (some ⟨g2, 0, none⟩) xs.length z2) (.slice Z3 loops.length z3) (.slice Z4 cases.length z4))
    have HBz := Aside0.mk (below_put5 HBe.out (Nat.le_succ _) (.slice (some ⟨gc, 0, none⟩) (code.length + 1) yc) (.slice Z1 origs.length z1) (.slice (some ⟨g2, 0, none⟩) xs.length z2) (.slice Z3 loops.length z3) (.slice Z4 cases.length z4))
    have H8 := Aside0.mk (H5.out.put5 HRe.out (.slice (some ⟨gc, 0, none⟩) (code.length + 1) yc) (.slice Z1 origs.length z1) (.slice (some ⟨g2, 0, none⟩) xs.length z2) (.slice Z3 loops.length z3) (.slice Z4 cases.length z4))
    clear HRe HBe HX H5 HC
    go_wp2_with fail
    obtain ⟨y0, y1, y2, y3, y4⟩ := cells5 HG4.out
    refine bodyPost_ret (v := .tuple #[.agg #[.slice (some ⟨gc, 0, none⟩) (code.length + 1) yc, .slice Z1 origs.length z1, .slice (some ⟨g2, 0, none⟩) xs.length z2, .slice Z3 loops.length z3, .slice Z4 cases.length z4], .int .i64 0]) (by simp [results, Try.results11, go_sem, y0, y1, y2, y3, y4]) rfl ?_
    rw [HACT.out]
    exact apost_mk HBz.out hw3 H8.out
  · obtain rfl : K = 5 := HK.out.symm
    clear HK HKK hact q4 q5
    obtain ⟨j0, j1, j2, j3, j4⟩ := cells5 (show W0.heap[w4.heap.size]? = some (.cells #[.slice Y0 (code.length + 1) yc, .slice Z1 origs.length z1, .slice Z2 dests.length z2, .slice Z3 loops.length z3, .slice Z4 cases.length z4] _ _) from HX.out)
    go_wp2_with (at_builtin; refine Kd.S_append k59 (w0 := w3) (W := W0) w3.heap.size rfl _ _ 24 59 (.agg #[(.int .i64 0), (.slice none 0 0)]) 32 rfl Try.underlying24 info59 rfl (by decide) (by decide) (.slice Z3 loops.length z3) loops ⟨(code.length : Int), []⟩ [.int .i64 ((code.length : Int)), .slice none 0 0] (fun k => new_ W0 oz 3 k = 3) (fun _ => False) rfl rfl (k59_mkM _ _ _ ⟨(code.length : Int), []⟩ (Kd.R_nil _ _ _ _ _)) (fun _ h => h.elim) (fun k hk => new_new hk) (S_lt_mono H5.out.hl (fun k hk hl => ⟨new_old hk hl, fun h => h⟩)) HC.out HC.out.size (by omega) ?_)
    intro v' W6 hR hB1 hg1 hat
    clear hat
    have hbk := blk_grown HX.out hg1 (Kd.R_ne (Kd.S_R H5.out.hl) HX.out (by decide))
    obtain ⟨N6, m6, rfl⟩ := Kd.S_slice hR
    have hl1 : (loops ++ [(⟨(code.length : Int), []⟩ : S59)]).length = loops.length + 1 := by simp
    rw [hl1] at hR ⊢
    clear j0 j1 j2 j3 j4
    have H5n := Aside0.mk ((H5.out.app3 hR hg1).set hbk 3 (.slice N6 (loops.length + 1) m6))
    have HXn := Aside0.mk (blk_put hbk 3 (.slice N6 (loops.length + 1) m6) rfl)
    have HCn := Aside0.mk (hB1.setCell (p := ⟨w4.heap.size, 3, none⟩) hg (.slice N6 (loops.length + 1) m6))
    have fz := blk_frozen hbk 3
    have fx : W6.cell? ⟨w4.heap.size, 3, none⟩ = some (.slice Z3 loops.length z3) := (blk_cell hbk 3).trans rfl
    clear hbk hR hB1 hg1 hl1 HX H5 HC
    have HX := HXn
    have H5 := H5n
    have HC := HCn
    clear HXn H5n HCn
    have HACT := Aside0.mk (of_acted (d := ⟨code, origs, dests, loops, cases⟩) (.a7 hl))
    have HRe := Aside0.mk ((HC.out.block _ HLT.out).trans HR.out)
    have HBe := Aside0.mk (below_step HB.out HC.out)
    have hw3 : w.heap.size ≤ w3.heap.size := HB.out.size
    obtain ⟨k0, k1, k2, k3, k4⟩ := cells5 (show (W6.setCell ⟨w4.heap.size, 3, none⟩ (.slice N6 (loops.length + 1) m6)).heap[w4.heap.size]? = some (.cells #[.slice Y0 (code.length + 1) yc, .slice Z1 origs.length z1, .slice Z2 dests.length z2, .slice N6 (loops.length + 1) m6, .slice Z4 cases.length z4] _ _) from HX.out)
    obtain ⟨f0, f1, f2, f3, f4⟩ := frozen5 HRe.out
    obtain ⟨r0, r1, r2, r3, r4⟩ := cells5 (show (W6.setCell ⟨w4.heap.size, 3, none⟩ (.slice N6 (loops.length + 1) m6)).heap[w.heap.size + 1]? = some (.cells #[.slice none 0 0, .slice none 0 0, .slice none 0 0, .slice none 0 0, .slice none 0 0] _ _) from HRe.out)
    have HG4 := Aside0.mk (blk_put5 HRe.out (.slice Y0 (code.length + 1) yc) (.slice Z1 origs.length z1) (.slice Z2 dests.length z2) (.slice N6 (loops.length + 1) m6) (.slice Z4 cases.length z4))
    have HBz := Aside0.mk (below_put5 HBe.out (Nat.le_succ _) (.slice Y0 (code.length + 1) yc) (.slice Z1 origs.length z1) (.slice Z2 dests.length z2) (.slice N6 (loops.length + 1) m6) (.slice Z4 cases.length z4))
    have H8 := Aside0.mk (H5.out.put5 HRe.out (.slice Y0 (code.length + 1) yc) (.slice Z1 origs.length z1) (.slice Z2 dests.length z2) (.slice N6 (loops.length + 1) m6) (.slice Z4 cases.length z4))
    clear HRe HBe HX H5 HC
    go_wp2_with fail
    obtain ⟨y0, y1, y2, y3, y4⟩ := cells5 HG4.out
    refine bodyPost_ret (v := .tuple #[.agg #[.slice Y0 (code.length + 1) yc, .slice Z1 origs.length z1, .slice Z2 dests.length z2, .slice N6 (loops.length + 1) m6, .slice Z4 cases.length z4], .int .i64 0]) (by simp [results, Try.results11, go_sem, y0, y1, y2, y3, y4]) rfl ?_
    rw [HACT.out]
    exact apost_mk HBz.out hw3 H8.out
  · obtain rfl : K = 6 := HK.out.symm
    clear HK HKK hact q4 q5
    obtain ⟨j0, j1, j2, j3, j4⟩ := cells5 (show W0.heap[w4.heap.size]? = some (.cells #[.slice Y0 (code.length + 1) yc, .slice Z1 origs.length z1, .slice Z2 dests.length z2, .slice Z3 loops.length z3, .slice Z4 cases.length z4] _ _) from HX.out)
    go_wp2_with (at_builtin; refine Kd.S_append k59 (w0 := w3) (W := W0) w3.heap.size rfl _ _ 24 59 (.agg #[(.int .i64 0), (.slice none 0 0)]) 32 rfl Try.underlying24 info59 rfl (by decide) (by decide) (.slice Z3 loops.length z3) loops ⟨(code.length : Int), []⟩ [.int .i64 ((code.length : Int)), .slice none 0 0] (fun k => new_ W0 oz 3 k = 3) (fun _ => False) rfl rfl (k59_mkM _ _ _ ⟨(code.length : Int), []⟩ (Kd.R_nil _ _ _ _ _)) (fun _ h => h.elim) (fun k hk => new_new hk) (S_lt_mono H5.out.hl (fun k hk hl => ⟨new_old hk hl, fun h => h⟩)) HC.out HC.out.size (by omega) ?_)
    intro v' W6 hR hB1 hg1 hat
    clear hat
    have hbk := blk_grown HX.out hg1 (Kd.R_ne (Kd.S_R H5.out.hl) HX.out (by decide))
    obtain ⟨N6, m6, rfl⟩ := Kd.S_slice hR
    have hl1 : (loops ++ [(⟨(code.length : Int), []⟩ : S59)]).length = loops.length + 1 := by simp
    rw [hl1] at hR ⊢
    clear j0 j1 j2 j3 j4
    have H5n := Aside0.mk ((H5.out.app3 hR hg1).set hbk 3 (.slice N6 (loops.length + 1) m6))
    have HXn := Aside0.mk (blk_put hbk 3 (.slice N6 (loops.length + 1) m6) rfl)
    have HCn := Aside0.mk (hB1.setCell (p := ⟨w4.heap.size, 3, none⟩) hg (.slice N6 (loops.length + 1) m6))
    have fz := blk_frozen hbk 3
    have fx : W6.cell? ⟨w4.heap.size, 3, none⟩ = some (.slice Z3 loops.length z3) := (blk_cell hbk 3).trans rfl
    clear hbk hR hB1 hg1 hl1 HX H5 HC
    have HX := HXn
    have H5 := H5n
    have HC := HCn
    clear HXn H5n HCn
    have HACT := Aside0.mk (of_acted (d := ⟨code, origs, dests, loops, cases⟩) (.a8 hl))
    have HRe := Aside0.mk ((HC.out.block _ HLT.out).trans HR.out)
    have HBe := Aside0.mk (below_step HB.out HC.out)
    have hw3 : w.heap.size ≤ w3.heap.size := HB.out.size
    obtain ⟨k0, k1, k2, k3, k4⟩ := cells5 (show (W6.setCell ⟨w4.heap.size, 3, none⟩ (.slice N6 (loops.length + 1) m6)).heap[w4.heap.size]? = some (.cells #[.slice Y0 (code.length + 1) yc, .slice Z1 origs.length z1, .slice Z2 dests.length z2, .slice N6 (loops.length + 1) m6, .slice Z4 cases.length z4] _ _) from HX.out)
    obtain ⟨f0, f1, f2, f3, f4⟩ := frozen5 HRe.out
    obtain ⟨r0, r1, r2, r3, r4⟩ := cells5 (show (W6.setCell ⟨w4.heap.size, 3, none⟩ (.slice N6 (loops.length + 1) m6)).heap[w.heap.size + 1]? = some (.cells #[.slice none 0 0, .slice none 0 0, .slice none 0 0, .slice none 0 0, .slice none 0 0] _ _) from HRe.out)
    have HG4 := Aside0.mk (blk_put5 HRe.out (.slice Y0 (code.length + 1) yc) (.slice Z1 origs.length z1) (.slice Z2 dests.length z2) (.slice N6 (loops.length + 1) m6) (.slice Z4 cases.length z4))
    have HBz := Aside0.mk (below_put5 HBe.out (Nat.le_succ _) (.slice Y0 (code.length + 1) yc) (.slice Z1 origs.length z1) (.slice Z2 dests.length z2) (.slice N6 (loops.length + 1) m6) (.slice Z4 cases.length z4))
    have H8 := Aside0.mk (H5.out.put5 HRe.out (.slice Y0 (code.length + 1) yc) (.slice Z1 origs.length z1) (.slice Z2 dests.length z2) (.slice N6 (loops.length + 1) m6) (.slice Z4 cases.length z4))
    clear HRe HBe HX H5 HC
    go_wp2_with fail
    obtain ⟨y0, y1, y2, y3, y4⟩ := cells5 HG4.out
    refine bodyPost_ret (v := .tuple #[.agg #[.slice Y0 (code.length + 1) yc, .slice Z1 origs.length z1, .slice Z2 dests.length z2, .slice N6 (loops.length + 1) m6, .slice Z4 cases.length z4], .int .i64 0]) (by simp [results, Try.results11, go_sem, y0, y1, y2, y3, y4]) rfl ?_
    rw [HACT.out]
    exact apost_mk HBz.out hw3 H8.out
  · obtain rfl : K = 7 := HK.out.symm
    clear HK HKK hact q4 q5
    obtain ⟨ls, x, e⟩ := lk_l (.inl rfl) HLK.out
    have e : loops = ls ++ [x] := e
    subst e
    have hl1 : (ls ++ [x]).length = ls.length + 1 := by simp
    have hi1 : ((ls.length + 1 : Nat) : Int) - 1 = (ls.length : Int) := by omega
    rw [hl1] at HX H5 hn3
    simp only [hl1, hi1]
    clear hl1 hi1
    have p6 : ((ls.length : Int) < (ls.length : Int) + 1) = True := eq_true (by omega)
    obtain ⟨g3, rfl⟩ := own_head (Kd.S_R H5.out.hl)
    obtain ⟨gc, rfl⟩ := own_head H5.out.c3.hc
    have p7 : ((code.length : Int) < (code.length : Int) + 1) = True := eq_true (by omega)
    obtain ⟨o', vx, h5', hxr, q1, q2⟩ := H5.out.last3 rfl
    obtain ⟨B, cB, rfl⟩ := Kd.R_slice hxr
    have hxf := HF5.out.loops x (by simp)
    obtain ⟨x0, x1⟩ := isOf_range hxf.1
    have x2 := areP_range hxf.2
    have HIN : Aside0 (∀ y ∈ x.f1 ++ [x.f0], 0 ≤ y ∧ y < ((code ++ [(⟨7, x.f0 + 1⟩ : S37)]).length : Int)) := ⟨fun y hy => by
      rcases List.mem_append.1 hy with hy | hy
      · have := x2 y hy; simp; omega
      · rw [List.mem_singleton.1 hy]; simp; omega⟩
    have hxo : x.f1.length < 4398046511104 - 1 := HM.out.louts x (by simp)
    have m0 : (x.f0 + 1) % 4294967296 = x.f0 + 1 := by omega
    have HACT := Aside0.mk (of_acted (d := ⟨code, origs, dests, ls ++ [x], cases⟩) (.a9 ls x rfl hl))
    rw [m0] at HACT
    have e1 : ((code.length + 1 : Nat) : Int) = (code.length : Int) + 1 := by omega
    rw [e1] at HACT
    clear e1
    clear x2 hxf
    have hal := below_alloc (Below.refl _ W0) (.cells #[.int .i64 x.f0, .slice B x.f1.length cB] 59)
    have HC1 := Aside0.mk (HC.out.trans (Below.mono hal HC.out.size))
    have HX1 := blk_below HX.out hal
    have h51 := h5'.below hal
    have hx1 := Kd.R_below hxr hal
    have HXB := blk_new W0 (.cells #[.int .i64 x.f0, .slice B x.f1.length cB] 59)
    obtain ⟨c1, c2, c3⟩ := code_at h51.c3.hc rfl
    obtain ⟨c4, c5⟩ := c3 (x.f0 + 1)
    have hbc : w3.heap.size ≤ gc := Kd.R_base h51.c3.hc gc (by simp [Value.ownBlock])
    have nx1 : some w4.heap.size ≠ some gc := Kd.R_ne h51.c3.hc HX1 (by decide)
    have nx2 : some W0.heap.size ≠ some gc := Kd.R_ne h51.c3.hc HXB (by decide)
    have HX2 := blk_grown HX1 c5 nx1
    have HXB2 := blk_grown HXB c5 nx2
    have h52 := h51.coded c5 c4
    have hKc : Kept (W0.alloc (.cells #[.int .i64 x.f0, .slice B x.f1.length cB] 59)) ((W0.alloc (.cells #[.int .i64 x.f0, .slice B x.f1.length cB] 59)).setCell ⟨gc, code.length * 2 + 1, none⟩ (.int .u32 (x.f0 + 1))) (fun k => some k = some gc) := ⟨c5.size, fun k hk hn => c5.block k hk hn⟩
    have hx2 := R_kept hx1 hKc (fun k q cells _ hq hc => h51.away (q3 hq) hc)
    have HC2 := HC1.out.setCell (p := ⟨gc, code.length * 2 + 1, none⟩) hbc (.int .u32 (x.f0 + 1))
    have hs2 : (((W0.alloc (.cells #[.int .i64 x.f0, .slice B x.f1.length cB] 59)).setCell ⟨gc, code.length * 2 + 1, none⟩ (.int .u32 (x.f0 + 1)))).heap.size = W0.heap.size + 1 := by simp
    obtain ⟨j0, j1, j2, j3, j4⟩ := cells5 (show W0.heap[w4.heap.size]? = some (.cells #[.slice (some ⟨gc, 0, none⟩) (code.length + 1) yc, .slice Z1 origs.length z1, .slice Z2 dests.length z2, .slice (some ⟨g3, 0, none⟩) (ls.length + 1) z3, .slice Z4 cases.length z4] _ _) from HX.out)
    have i0 : (W0.alloc (.cells #[.int .i64 x.f0, .slice B x.f1.length cB] 59)).cell? ⟨w4.heap.size, 0, none⟩ = some (.slice (some ⟨gc, 0, none⟩) (code.length + 1) yc) := (blk_cell HX1 0).trans rfl
    have b0 : (W0.alloc (.cells #[.int .i64 x.f0, .slice B x.f1.length cB] 59)).cell? ⟨W0.heap.size, 0, none⟩ = some (.int .i64 x.f0) := (blk_cell HXB 0).trans rfl
    have b1 : ((W0.alloc (.cells #[.int .i64 x.f0, .slice B x.f1.length cB] 59)).setCell ⟨gc, code.length * 2 + 1, none⟩ (.int .u32 (x.f0 + 1))).cell? ⟨W0.heap.size, 0, none⟩ = some (.int .i64 x.f0) := (blk_cell HXB2 0).trans rfl
    have b2 : ((W0.alloc (.cells #[.int .i64 x.f0, .slice B x.f1.length cB] 59)).setCell ⟨gc, code.length * 2 + 1, none⟩ (.int .u32 (x.f0 + 1))).cell? ⟨W0.heap.size, 1, none⟩ = some (.slice B x.f1.length cB) := (blk_cell HXB2 1).trans rfl
    have p2 : (0 ≤ (ls.length : Int)) = True := eq_true (by omega)
    have p3 : ((ls.length : Int) < ((ls.length + 1 : Nat) : Int)) = True := eq_true (by omega)
    have p4 : (0 ≤ (code.length : Int)) = True := eq_true (by omega)
    have p5 : ((code.length : Int) < ((code.length + 1 : Nat) : Int)) = True := eq_true (by omega)
    have H52 := Aside0.mk h52
    have HX2' := Aside0.mk HX2
    have HC2' := Aside0.mk HC2
    have Hx2 := Aside0.mk hx2
    clear HX H5 HC HC1 HX1 h51 hx1 HXB hbc nx1 nx2 HXB2 hKc c3 c4 c5 h5' hxr hal h52 HX2 HC2 hx2
    go_wp2_with (at_builtin; refine R_append_at (Kd.int .i64) (w0 := w3) (W := ((W0.alloc (.cells #[.int .i64 x.f0, .slice B x.f1.length cB] 59)).setCell ⟨gc, code.length * 2 + 1, none⟩ (.int .u32 (x.f0 + 1)))) w3.heap.size (W0.heap.size + 1) hs2 rfl _ _ 23 3 (.int .i64 0) 8 rfl Try.underlying23 infoI rfl (by decide) (by decide) (.slice B x.f1.length cB) x.f1 x.f0 [.int .i64 x.f0] (fun k => new_ ((W0.alloc (.cells #[.int .i64 x.f0, .slice B x.f1.length cB] 59)).setCell ⟨gc, code.length * 2 + 1, none⟩ (.int .u32 (x.f0 + 1))) o' 5 k = 5) (fun _ => False) rfl rfl rfl (fun _ h => h.elim) (fun k hk => new_new hk) (R_lt_mono Hx2.out (fun k hk hl => new_old hk hl)) HC2'.out HC2'.out.size (by omega) ?_)
    intro v' W6 hR hB1 hg1
    have hbk := blk_grown HX2'.out hg1 (Kd.R_ne Hx2.out HX2'.out (by decide))
    obtain ⟨N6, m6, rfl⟩ := Kd.R_slice hR
    have hl1 : (x.f1 ++ [x.f0]).length = x.f1.length + 1 := by simp
    have H5 := Aside0.mk (H52.out.app5 (ok := fun _ => True) Hx2.out hg1)
    have HX := Aside0.mk hbk
    have HC := Aside0.mk hB1
    have HRD := Aside0.mk (H5.out.readK hR)
    rw [hl1] at ⊢
    clear hl1 H52 HX2' HC2' Hx2 hR hB1 hg1 hbk hs2 i0 b0 b1 b2 c1 c2 q1 q2 j0 j1 j2 j3 j4
    have HXv : W6.heap[w4.heap.size]? = some (.cells #[.slice (some ⟨gc, 0, none⟩) (code.length + 1) yc, .slice Z1 origs.length z1, .slice Z2 dests.length z2, .slice (some ⟨g3, 0, none⟩) (ls.length + 1) z3, .slice Z4 cases.length z4] 26 (0, 0)) := HX.out
    have HXw := Aside0.mk HXv
    clear HXv
    go_wp2_with fail
    with_reducible refine (raim_n w4.heap.size w3.heap.size (x.f1.length + 1) m6 (.slice (some ⟨gc, 0, none⟩) (code.length + 1) yc) (.slice Z1 origs.length z1) (.slice Z2 dests.length z2) (.slice (some ⟨g3, 0, none⟩) (ls.length + 1) z3) (.slice Z4 cases.length z4) N6 (code ++ [(⟨7, x.f0 + 1⟩ : S37)]) (x.f1 ++ [x.f0]) (((code.length : Int) + 1)) W6 (by simp) HXw.out H5.out.c3.hc HRD.out HIN.out (by omega) (by omega)).mono ?_
    rintro e W7 ⟨rfl, hR, hK, hB1⟩
    have HXn := Aside0.mk (blk_kept HX.out hK (Kd.R_ne H5.out.c3.hc HX.out (by decide)))
    have H5n := Aside0.mk (H5.out.codeK hK hR)
    have HCn := Aside0.mk (HC.out.trans hB1)
    clear hR hK hB1 HX H5 HC HXw
    have HX := HXn
    have H5 := H5n
    have HC := HCn
    clear HXn H5n HCn
    have hz3 : ls.length ≤ z3 := (Kd.R_reads' (Kd.S_R H5.out.hl)).2.1
    obtain ⟨j0, j1, j2, j3, j4⟩ := cells5 (show W7.heap[w4.heap.size]? = some (.cells #[.slice (some ⟨gc, 0, none⟩) (code.length + 1) yc, .slice Z1 origs.length z1, .slice Z2 dests.length z2, .slice (some ⟨g3, 0, none⟩) (ls.length + 1) z3, .slice Z4 cases.length z4] _ _) from HX.out)
    have fz := blk_frozen HX.out 3
    have H5n := Aside0.mk (H5.out.set HX.out 3 (.slice (some ⟨g3, 0, none⟩) ls.length z3))
    have HXn := Aside0.mk (blk_put HX.out 3 (.slice (some ⟨g3, 0, none⟩) ls.length z3) rfl)
    have HCn := Aside0.mk (HC.out.setCell (p := ⟨w4.heap.size, 3, none⟩) hg (.slice (some ⟨g3, 0, none⟩) ls.length z3))
    clear HX H5 HC
    have HX := HXn
    have H5 := H5n
    have HC := HCn
    clear HXn H5n HCn
    have HRe := Aside0.mk ((HC.out.block _ HLT.out).trans HR.out)
    have HBe := Aside0.mk (below_step HB.out HC.out)
    have hw3 : w.heap.size ≤ w3.heap.size := HB.out.size
    obtain ⟨k0, k1, k2, k3, k4⟩ := cells5 (show (W7.setCell ⟨w4.heap.size, 3, none⟩ (.slice (some ⟨g3, 0, none⟩) ls.length z3)).heap[w4.heap.size]? = some (.cells #[.slice (some ⟨gc, 0, none⟩) (code.length + 1) yc, .slice Z1 origs.length z1, .slice Z2 dests.length z2, .slice (some ⟨g3, 0, none⟩) ls.length z3, .slice Z4 cases.length z4] _ _) from HX.out)
    obtain ⟨f0, f1, f2, f3, f4⟩ := frozen5 HRe.out
    obtain ⟨r0, r1, r2, r3, r4⟩ := cells5 (show (W7.setCell ⟨w4.heap.size, 3, none⟩ (.slice (some ⟨g3, 0, none⟩) ls.length z3)).heap[w.heap.size + 1]? = some (.cells #[.slice none 0 0, .slice none 0 0, .slice none 0 0, .slice none 0 0, .slice none 0 0] _ _) from HRe.out)
    have HG4 := Aside0.mk (blk_put5 HRe.out (.slice (some ⟨gc, 0, none⟩) (code.length + 1) yc) (.slice Z1 origs.length z1) (.slice Z2 dests.length z2) (.slice (some ⟨g3, 0, none⟩) ls.length z3) (.slice Z4 cases.length z4))
    have HBz := Aside0.mk (below_put5 HBe.out (Nat.le_succ _) (.slice (some ⟨gc, 0, none⟩) (code.length + 1) yc) (.slice Z1 origs.length z1) (.slice Z2 dests.length z2) (.slice (some ⟨g3, 0, none⟩) ls.length z3) (.slice Z4 cases.length z4))
    have H8 := Aside0.mk (H5.out.put5 HRe.out (.slice (some ⟨gc, 0, none⟩) (code.length + 1) yc) (.slice Z1 origs.length z1) (.slice Z2 dests.length z2) (.slice (some ⟨g3, 0, none⟩) ls.length z3) (.slice Z4 cases.length z4))
    clear HRe HBe HX H5 HC
    go_wp2_with fail
    obtain ⟨y0, y1, y2, y3, y4⟩ := cells5 HG4.out
    refine bodyPost_ret (v := .tuple #[.agg #[.slice (some ⟨gc, 0, none⟩) (code.length + 1) yc, .slice Z1 origs.length z1, .slice Z2 dests.length z2, .slice (some ⟨g3, 0, none⟩) ls.length z3, .slice Z4 cases.length z4], .int .i64 0]) (by simp [results, Try.results11, go_sem, y0, y1, y2, y3, y4]) rfl ?_
    rw [HACT.out]
    exact apost_mk HBz.out hw3 H8.out
  · obtain rfl : K = 8 := HK.out.symm
    clear HK HKK hact q4 q5
    obtain ⟨ls, x, e⟩ := lk_l (.inr (.inl rfl)) HLK.out
    have e : loops = ls ++ [x] := e
    subst e
    have hl1 : (ls ++ [x]).length = ls.length + 1 := by simp
    have hi1 : ((ls.length + 1 : Nat) : Int) - 1 = (ls.length : Int) := by omega
    rw [hl1] at HX H5 hn3
    simp only [hl1, hi1]
    clear hl1 hi1
    have p6 : ((ls.length : Int) < (ls.length : Int) + 1) = True := eq_true (by omega)
    obtain ⟨g3, rfl⟩ := own_head (Kd.S_R H5.out.hl)
    obtain ⟨gc, rfl⟩ := own_head H5.out.c3.hc
    have p7 : ((code.length : Int) < (code.length : Int) + 1) = True := eq_true (by omega)
    obtain ⟨o', vx, h5', hxr, q1, q2⟩ := H5.out.last3 rfl
    obtain ⟨B, cB, rfl⟩ := Kd.R_slice hxr
    have hxf := HF5.out.loops x (by simp)
    obtain ⟨x0, x1⟩ := isOf_range hxf.1
    have x2 := areP_range hxf.2
    have HIN : Aside0 (∀ y ∈ x.f1 ++ [x.f0], 0 ≤ y ∧ y < ((code ++ [(⟨8, x.f0 + 1⟩ : S37)]).length : Int)) := ⟨fun y hy => by
      rcases List.mem_append.1 hy with hy | hy
      · have := x2 y hy; simp; omega
      · rw [List.mem_singleton.1 hy]; simp; omega⟩
    have hxo : x.f1.length < 4398046511104 - 1 := HM.out.louts x (by simp)
    have m0 : (x.f0 + 1) % 4294967296 = x.f0 + 1 := by omega
    have HACT := Aside0.mk (of_acted (d := ⟨code, origs, dests, ls ++ [x], cases⟩) (.a10 ls x rfl hl))
    rw [m0] at HACT
    have e1 : ((code.length + 1 : Nat) : Int) = (code.length : Int) + 1 := by omega
    rw [e1] at HACT
    clear e1
    clear x2 hxf
    have hal := below_alloc (Below.refl _ W0) (.cells #[.int .i64 x.f0, .slice B x.f1.length cB] 59)
    have HC1 := Aside0.mk (HC.out.trans (Below.mono hal HC.out.size))
    have HX1 := blk_below HX.out hal
    have h51 := h5'.below hal
    have hx1 := Kd.R_below hxr hal
    have HXB := blk_new W0 (.cells #[.int .i64 x.f0, .slice B x.f1.length cB] 59)
    obtain ⟨c1, c2, c3⟩ := code_at h51.c3.hc rfl
    obtain ⟨c4, c5⟩ := c3 (x.f0 + 1)
    have hbc : w3.heap.size ≤ gc := Kd.R_base h51.c3.hc gc (by simp [Value.ownBlock])
    have nx1 : some w4.heap.size ≠ some gc := Kd.R_ne h51.c3.hc HX1 (by decide)
    have nx2 : some W0.heap.size ≠ some gc := Kd.R_ne h51.c3.hc HXB (by decide)
    have HX2 := blk_grown HX1 c5 nx1
    have HXB2 := blk_grown HXB c5 nx2
    have h52 := h51.coded c5 c4
    have hKc : Kept (W0.alloc (.cells #[.int .i64 x.f0, .slice B x.f1.length cB] 59)) ((W0.alloc (.cells #[.int .i64 x.f0, .slice B x.f1.length cB] 59)).setCell ⟨gc, code.length * 2 + 1, none⟩ (.int .u32 (x.f0 + 1))) (fun k => some k = some gc) := ⟨c5.size, fun k hk hn => c5.block k hk hn⟩
    have hx2 := R_kept hx1 hKc (fun k q cells _ hq hc => h51.away (q3 hq) hc)
    have HC2 := HC1.out.setCell (p := ⟨gc, code.length * 2 + 1, none⟩) hbc (.int .u32 (x.f0 + 1))
    have hs2 : (((W0.alloc (.cells #[.int .i64 x.f0, .slice B x.f1.length cB] 59)).setCell ⟨gc, code.length * 2 + 1, none⟩ (.int .u32 (x.f0 + 1)))).heap.size = W0.heap.size + 1 := by simp
    obtain ⟨j0, j1, j2, j3, j4⟩ := cells5 (show W0.heap[w4.heap.size]? = some (.cells #[.slice (some ⟨gc, 0, none⟩) (code.length + 1) yc, .slice Z1 origs.length z1, .slice Z2 dests.length z2, .slice (some ⟨g3, 0, none⟩) (ls.length + 1) z3, .slice Z4 cases.length z4] _ _) from HX.out)
    have i0 : (W0.alloc (.cells #[.int .i64 x.f0, .slice B x.f1.length cB] 59)).cell? ⟨w4.heap.size, 0, none⟩ = some (.slice (some ⟨gc, 0, none⟩) (code.length + 1) yc) := (blk_cell HX1 0).trans rfl
    have b0 : (W0.alloc (.cells #[.int .i64 x.f0, .slice B x.f1.length cB] 59)).cell? ⟨W0.heap.size, 0, none⟩ = some (.int .i64 x.f0) := (blk_cell HXB 0).trans rfl
    have b1 : ((W0.alloc (.cells #[.int .i64 x.f0, .slice B x.f1.length cB] 59)).setCell ⟨gc, code.length * 2 + 1, none⟩ (.int .u32 (x.f0 + 1))).cell? ⟨W0.heap.size, 0, none⟩ = some (.int .i64 x.f0) := (blk_cell HXB2 0).trans rfl
    have b2 : ((W0.alloc (.cells #[.int .i64 x.f0, .slice B x.f1.length cB] 59)).setCell ⟨gc, code.length * 2 + 1, none⟩ (.int .u32 (x.f0 + 1))).cell? ⟨W0.heap.size, 1, none⟩ = some (.slice B x.f1.length cB) := (blk_cell HXB2 1).trans rfl
    have p2 : (0 ≤ (ls.length : Int)) = True := eq_true (by omega)
    have p3 : ((ls.length : Int) < ((ls.length + 1 : Nat) : Int)) = True := eq_true (by omega)
    have p4 : (0 ≤ (code.length : Int)) = True := eq_true (by omega)
    have p5 : ((code.length : Int) < ((code.length + 1 : Nat) : Int)) = True := eq_true (by omega)
    have H52 := Aside0.mk h52
    have HX2' := Aside0.mk HX2
    have HC2' := Aside0.mk HC2
    have Hx2 := Aside0.mk hx2
    clear HX H5 HC HC1 HX1 h51 hx1 HXB hbc nx1 nx2 HXB2 hKc c3 c4 c5 h5' hxr hal h52 HX2 HC2 hx2
    go_wp2_with (at_builtin; refine R_append_at (Kd.int .i64) (w0 := w3) (W := ((W0.alloc (.cells #[.int .i64 x.f0, .slice B x.f1.length cB] 59)).setCell ⟨gc, code.length * 2 + 1, none⟩ (.int .u32 (x.f0 + 1)))) w3.heap.size (W0.heap.size + 1) hs2 rfl _ _ 23 3 (.int .i64 0) 8 rfl Try.underlying23 infoI rfl (by decide) (by decide) (.slice B x.f1.length cB) x.f1 x.f0 [.int .i64 x.f0] (fun k => new_ ((W0.alloc (.cells #[.int .i64 x.f0, .slice B x.f1.length cB] 59)).setCell ⟨gc, code.length * 2 + 1, none⟩ (.int .u32 (x.f0 + 1))) o' 5 k = 5) (fun _ => False) rfl rfl rfl (fun _ h => h.elim) (fun k hk => new_new hk) (R_lt_mono Hx2.out (fun k hk hl => new_old hk hl)) HC2'.out HC2'.out.size (by omega) ?_)
    intro v' W6 hR hB1 hg1
    have hbk := blk_grown HX2'.out hg1 (Kd.R_ne Hx2.out HX2'.out (by decide))
    obtain ⟨N6, m6, rfl⟩ := Kd.R_slice hR
    have hl1 : (x.f1 ++ [x.f0]).length = x.f1.length + 1 := by simp
    have H5 := Aside0.mk (H52.out.app5 (ok := fun _ => True) Hx2.out hg1)
    have HX := Aside0.mk hbk
    have HC := Aside0.mk hB1
    have HRD := Aside0.mk (H5.out.readK hR)
    rw [hl1] at ⊢
    clear hl1 H52 HX2' HC2' Hx2 hR hB1 hg1 hbk hs2 i0 b0 b1 b2 c1 c2 q1 q2 j0 j1 j2 j3 j4
    have HXv : W6.heap[w4.heap.size]? = some (.cells #[.slice (some ⟨gc, 0, none⟩) (code.length + 1) yc, .slice Z1 origs.length z1, .slice Z2 dests.length z2, .slice (some ⟨g3, 0, none⟩) (ls.length + 1) z3, .slice Z4 cases.length z4] 26 (0, 0)) := HX.out
    have HXw := Aside0.mk HXv
    clear HXv
    go_wp2_with fail
    with_reducible refine (raim_n w4.heap.size w3.heap.size (x.f1.length + 1) m6 (.slice (some ⟨gc, 0, none⟩) (code.length + 1) yc) (.slice Z1 origs.length z1) (.slice Z2 dests.length z2) (.slice (some ⟨g3, 0, none⟩) (ls.length + 1) z3) (.slice Z4 cases.length z4) N6 (code ++ [(⟨8, x.f0 + 1⟩ : S37)]) (x.f1 ++ [x.f0]) (((code.length : Int) + 1)) W6 (by simp) HXw.out H5.out.c3.hc HRD.out HIN.out (by omega) (by omega)).mono ?_
    rintro e W7 ⟨rfl, hR, hK, hB1⟩
    have HXn := Aside0.mk (blk_kept HX.out hK (Kd.R_ne H5.out.c3.hc HX.out (by decide)))
    have H5n := Aside0.mk (H5.out.codeK hK hR)
    have HCn := Aside0.mk (HC.out.trans hB1)
    clear hR hK hB1 HX H5 HC HXw
    have HX := HXn
    have H5 := H5n
    have HC := HCn
    clear HXn H5n HCn
    have hz3 : ls.length ≤ z3 := (Kd.R_reads' (Kd.S_R H5.out.hl)).2.1
    obtain ⟨j0, j1, j2, j3, j4⟩ := cells5 (show W7.heap[w4.heap.size]? = some (.cells #[.slice (some ⟨gc, 0, none⟩) (code.length + 1) yc, .slice Z1 origs.length z1, .slice Z2 dests.length z2, .slice (some ⟨g3, 0, none⟩) (ls.length + 1) z3, .slice Z4 cases.length z4] _ _) from HX.out)
    have fz := blk_frozen HX.out 3
    have H5n := Aside0.mk (H5.out.set HX.out 3 (.slice (some ⟨g3, 0, none⟩) ls.length z3))
    have HXn := Aside0.mk (blk_put HX.out 3 (.slice (some ⟨g3, 0, none⟩) ls.length z3) rfl)
    have HCn := Aside0.mk (HC.out.setCell (p := ⟨w4.heap.size, 3, none⟩) hg (.slice (some ⟨g3, 0, none⟩) ls.length z3))
    clear HX H5 HC
    have HX := HXn
    have H5 := H5n
    have HC := HCn
    clear HXn H5n HCn
    have HRe := Aside0.mk ((HC.out.block _ HLT.out).trans HR.out)
    have HBe := Aside0.mk (below_step HB.out HC.out)
    have hw3 : w.heap.size ≤ w3.heap.size := HB.out.size
    obtain ⟨k0, k1, k2, k3, k4⟩ := cells5 (show (W7.setCell ⟨w4.heap.size, 3, none⟩ (.slice (some ⟨g3, 0, none⟩) ls.length z3)).heap[w4.heap.size]? = some (.cells #[.slice (some ⟨gc, 0, none⟩) (code.length + 1) yc, .slice Z1 origs.length z1, .slice Z2 dests.length z2, .slice (some ⟨g3, 0, none⟩) ls.length z3, .slice Z4 cases.length z4] _ _) from HX.out)
    obtain ⟨f0, f1, f2, f3, f4⟩ := frozen5 HRe.out
    obtain ⟨r0, r1, r2, r3, r4⟩ := cells5 (show (W7.setCell ⟨w4.heap.size, 3, none⟩ (.slice (some ⟨g3, 0, none⟩) ls.length z3)).heap[w.heap.size + 1]? = some (.cells #[.slice none 0 0, .slice none 0 0, .slice none 0 0, .slice none 0 0, .slice none 0 0] _ _) from HRe.out)
    have HG4 := Aside0.mk (blk_put5 HRe.out (.slice (some ⟨gc, 0, none⟩) (code.length + 1) yc) (.slice Z1 origs.length z1) (.slice Z2 dests.length z2) (.slice (some ⟨g3, 0, none⟩) ls.length z3) (.slice Z4 cases.length z4))
    have HBz := Aside0.mk (below_put5 HBe.out (Nat.le_succ _) (.slice (some ⟨gc, 0, none⟩) (code.length + 1) yc) (.slice Z1 origs.length z1) (.slice Z2 dests.length z2) (.slice (some ⟨g3, 0, none⟩) ls.length z3) (.slice Z4 cases.length z4))
    have H8 := Aside0.mk (H5.out.put5 HRe.out (.slice (some ⟨gc, 0, none⟩) (code.length + 1) yc) (.slice Z1 origs.length z1) (.slice Z2 dests.length z2) (.slice (some ⟨g3, 0, none⟩) ls.length z3) (.slice Z4 cases.length z4))
    clear HRe HBe HX H5 HC
    go_wp2_with fail
    obtain ⟨y0, y1, y2, y3, y4⟩ := cells5 HG4.out
    refine bodyPost_ret (v := .tuple #[.agg #[.slice (some ⟨gc, 0, none⟩) (code.length + 1) yc, .slice Z1 origs.length z1, .slice Z2 dests.length z2, .slice (some ⟨g3, 0, none⟩) ls.length z3, .slice Z4 cases.length z4], .int .i64 0]) (by simp [results, Try.results11, go_sem, y0, y1, y2, y3, y4]) rfl ?_
    rw [HACT.out]
    exact apost_mk HBz.out hw3 H8.out
  · obtain rfl : K = 9 := HK.out.symm
    clear HK HKK hact q4 q5
    obtain ⟨ls, x, e⟩ := lk_l (.inr (.inr rfl)) HLK.out
    have e : loops = ls ++ [x] := e
    subst e
    have hl1 : (ls ++ [x]).length = ls.length + 1 := by simp
    have hi1 : ((ls.length + 1 : Nat) : Int) - 1 = (ls.length : Int) := by omega
    rw [hl1] at HX H5 hn3
    simp only [hl1, hi1]
    clear hl1 hi1
    have p6 : ((ls.length : Int) < (ls.length : Int) + 1) = True := eq_true (by omega)
    obtain ⟨g3, rfl⟩ := own_head (Kd.S_R H5.out.hl)
    have H5d := H5.out.below (below_drew (Below.refl _ W0))
    obtain ⟨oki, vx, hxr, q1, q2, q3, q4, hbg, hgl, q5, q6⟩ := H5d.lend3 rfl
    obtain ⟨B, cB, rfl⟩ := Kd.R_slice hxr
    have HXd := blk_drew HX.out
    have HCd := below_drew HC.out
    have hS : W0.cell? ⟨w4.heap.size, 3, none⟩ = some (.slice (some ⟨g3, 0, none⟩) (ls.length + 1) z3) ∧ W0.cell? ⟨g3, ls.length * 2 + 1, none⟩ = some (.slice B x.f1.length cB) := ⟨(blk_cell HX.out 3).trans rfl, q2⟩
    have hxo : x.f1.length < 4398046511104 - 1 := HM.out.louts x (by simp)
    have p2 : (0 ≤ (ls.length : Int)) = True := eq_true (by omega)
    have p3 : ((ls.length : Int) < ((ls.length + 1 : Nat) : Int)) = True := eq_true (by omega)
    have hq3 := q3 1
    clear q3 q6 q1 HX H5 HC
    go_wp2_with fail
    refine start_ (n := 15) (S := fun w' => w'.cell? ⟨w4.heap.size, 3, none⟩ = some (.slice (some ⟨g3, 0, none⟩) (ls.length + 1) z3) ∧ w'.cell? ⟨g3, ls.length * 2 + 1, none⟩ = some (.slice B x.f1.length cB)) (ds := [14]) (bz_ 15 0) (by kernel_rfl) rfl rfl (hS) (fun hHeld => ?_)
    refine with_tab (rfl : rtab .any (opsOf Try.f11 40) = rtab .any (opsOf Try.f11 40)) (fun HT_ => ?_)
    clear hS
    generalize W0.drew = wd at HXd H5d HCd hxr q2 q4 q5 hgl hq3 hHeld ⊢
    apply pu_ 0 (some 185) (bz_ 15 1) HT_ rfl rfl (by kernel_rfl) (fun _ _ _ h => h) (by rfl)
    · intro _; go_simp; with_reducible rfl
    · go_simp; rfl
    apply pu_ 2 (some 187) (bz_ 15 5) HT_ rfl rfl (by kernel_rfl) (fun _ _ _ h => h) (by rfl)
    · intro _; go_simp; with_reducible rfl
    · go_simp; rfl
    apply pu_ 3 (some 188) (bz_ 15 13) HT_ rfl rfl (by kernel_rfl) (fun _ _ _ h => h) (by rfl)
    · intro _; go_simp; with_reducible rfl
    · go_simp; rfl
    apply pu_ 5 (some 190) (bz_ 15 45) HT_ rfl rfl (by kernel_rfl) (fun _ _ _ h => h) (by rfl)
    · intro _; go_simp; with_reducible rfl
    · go_simp; rfl
    apply pu_ 9 (some 194) (bz_ 15 557) HT_ rfl rfl (by kernel_rfl) (fun _ _ _ h => h) (by rfl)
    · intro _; go_simp; with_reducible rfl
    · go_simp; rfl
    apply tk_ 1 (some 186) (bz_ 15 559) HT_ hHeld rfl rfl (by kernel_rfl) (fun _ _ _ h => h) (by rfl)
    · intro _ hS; go_split_ands; go_simp; with_reducible rfl
    · go_simp; rfl
    apply tk_ 4 (some 189) (bz_ 15 575) HT_ hHeld rfl rfl (by kernel_rfl) (fun _ _ _ h => h) (by rfl)
    · intro _ hS; go_split_ands; go_simp; with_reducible rfl
    · go_simp; rfl
    apply pu_ 6 (some 191) (bz_ 15 639) HT_ rfl rfl (by kernel_rfl) (fun _ _ _ h => h) (by rfl)
    · intro _; go_simp; with_reducible rfl
    · go_simp; rfl
    apply pu_ 7 (some 192) (bz_ 15 767) HT_ rfl rfl (by kernel_rfl) (fun _ _ _ h => h) (by rfl)
    · intro _; go_simp; with_reducible rfl
    · go_simp; rfl
    apply tk_ 8 (some 193) (bz_ 15 1023) HT_ hHeld rfl rfl (by kernel_rfl) (fun _ _ _ h => h) (by rfl)
    · intro _ hS; go_split_ands; go_simp; with_reducible rfl
    · go_simp; rfl
    refine one_ (i := 10) (N := some 195) (bz_ 15 2047) rfl rfl (one_of HT_.out (by kernel_rfl)) (by decide) (fun K hK => ?_)
    refine value_ (w1 := ?_) (v := ?_) (by rfl) rfl ?_ ?_
    rotate_left 2
    · go_simp
      constructor
      · rfl
      · rfl
    have hS : (wd.alloc (.cells #[.int .i64 (code.length : Int)] 3)).cell? ⟨w4.heap.size, 3, none⟩ = some (.slice (some ⟨g3, 0, none⟩) (ls.length + 1) z3) ∧ (wd.alloc (.cells #[.int .i64 (code.length : Int)] 3)).cell? ⟨g3, ls.length * 2 + 1, none⟩ = some (.slice B x.f1.length cB) := ⟨(blk_cell (blk_alloc HXd _) 3).trans rfl, pw_cell_below (below_alloc (Below.refl _ wd) _) q2⟩
    refine hK.out _ _ (hS) (fun hHeld => ?_)
    clear hK K
    refine norm_ (a' := ?_) ?_ ?_
    rotate_left
    · show Act.put _ (some 195) _ = _
      simp only [Act.put, List.setIfInBounds_toArray, List.set_cons_zero, List.set_cons_succ, i64_w, i32_w]
      rfl
    refine one_ (i := 11) (N := some 196) (bz_ 15 4095) rfl rfl (one_of HT_.out (by kernel_rfl)) (by decide) (fun K hK => ?_)
    refine Kd.R_append_step (Kd.int .i64) (w0 := w3) (W := wd) w3.heap.size rfl _ _ 23 3 (.int .i64 0) 8 rfl Try.underlying23 infoI rfl (by decide) (by decide) (.slice B x.f1.length cB) x.f1 (code.length : Int) [.int .i64 (code.length : Int)] (fun k => oki k ∨ wd.heap.size ≤ k) (fun _ => False) rfl rfl rfl (fun _ h => h.elim) (fun k hk => .inr hk) (Kd.R_mono hxr (fun k hk => .inl hk)) HCd HCd.size (by omega) ?_
    intro v' w6 hR hB1 hg1 hat
    clear hat
    have hnb : some g3 ≠ (Value.slice B x.f1.length cB).ownBlock := fun he => (q4 _ (hxr.1 _ he.symm)).2.2 rfl
    have hbk := blk_grown HXd hg1 (Kd.R_ne hxr HXd (by decide))
    have hS : w6.cell? ⟨w4.heap.size, 3, none⟩ = some (.slice (some ⟨g3, 0, none⟩) (ls.length + 1) z3) ∧ w6.cell? ⟨g3, ls.length * 2 + 1, none⟩ = some (.slice B x.f1.length cB) := ⟨(blk_cell hbk 3).trans rfl, cell_grown hg1 q2 hnb⟩
    have hf : w6.frozen? ⟨g3, ls.length * 2 + 1, none⟩ = false := by have h1 := hg1.block g3 hgl hnb; have h2 := hq3; unfold World.frozen? at h2 ⊢; simp only at h2 ⊢; rw [h1]; exact h2
    have hcc := hS.2
    obtain ⟨N6, m6, rfl⟩ := Kd.R_slice hR
    have hl1 : (x.f1 ++ [(code.length : Int)]).length = x.f1.length + 1 := by simp
    rw [hl1] at hR ⊢
    refine hK.out _ _ (hS) (fun hHeld => ?_)
    clear hK K
    refine norm_ (a' := ?_) ?_ ?_
    rotate_left
    · show Act.put _ (some 196) _ = _
      simp only [Act.put, List.setIfInBounds_toArray, List.set_cons_zero, List.set_cons_succ, i64_w, i32_w]
      rfl
    apply pu_ 12 (some 197) (bz_ 15 8191) HT_ rfl rfl (by kernel_rfl) (fun _ _ _ h => h) (by rfl)
    · intro _; go_simp; with_reducible rfl
    · go_simp; rfl
    apply pu_ 13 (some 198) (bz_ 15 16383) HT_ rfl rfl (by kernel_rfl) (fun _ _ _ h => h) (by rfl)
    · intro _; go_simp; with_reducible rfl
    · go_simp; rfl
    refine last_ (i := 14) (N := none) (bz_ 15 32767) rfl rfl (one_of HT_.out (by kernel_rfl)) (by decide) (fun K hK => ?_)
    go_simp
    refine hK.out _ _ ?_
    clear hK K
    refine done_ (done_of HT_.out (by kernel_rfl)) ?_
    clear HT_ hHeld hS hf hcc
    have H5 := Aside0.mk (q5 hg1 hR)
    have hne : w4.heap.size ≠ g3 := fun he => by obtain ⟨cells, h2⟩ := Kd.R_typed (Kd.S_R H5d.hl) g3 (by simp [Value.ownBlock]); rw [← he] at h2; have h3 := HXd.symm.trans h2; injection h3 with h3; injection h3 with _ h3; exact absurd h3 (by decide)
    have HX := Aside0.mk (blk_far hbk (p := ⟨g3, ls.length * 2 + 1, none⟩) hne (.slice N6 (x.f1.length + 1) m6))
    have HC := Aside0.mk (hB1.setCell (p := ⟨g3, ls.length * 2 + 1, none⟩) hbg (.slice N6 (x.f1.length + 1) m6))
    clear H5d HXd HCd hxr q2 q4 q5 hgl hq3 hnb hbk hR hB1 hg1 hl1 hne hbg
    have HACT := Aside0.mk (of_acted (d := ⟨code, origs, dests, ls ++ [x], cases⟩) (.a11 ls x rfl hl))
    have HRe := Aside0.mk ((HC.out.block _ HLT.out).trans HR.out)
    have HBe := Aside0.mk (below_step HB.out HC.out)
    have hw3 : w.heap.size ≤ w3.heap.size := HB.out.size
    obtain ⟨k0, k1, k2, k3, k4⟩ := cells5 (show (w6.setCell ⟨g3, ls.length * 2 + 1, none⟩ (.slice N6 (x.f1.length + 1) m6)).heap[w4.heap.size]? = some (.cells #[.slice Y0 (code.length + 1) yc, .slice Z1 origs.length z1, .slice Z2 dests.length z2, .slice (some ⟨g3, 0, none⟩) (ls.length + 1) z3, .slice Z4 cases.length z4] _ _) from HX.out)
    obtain ⟨f0, f1, f2, f3, f4⟩ := frozen5 HRe.out
    obtain ⟨r0, r1, r2, r3, r4⟩ := cells5 (show (w6.setCell ⟨g3, ls.length * 2 + 1, none⟩ (.slice N6 (x.f1.length + 1) m6)).heap[w.heap.size + 1]? = some (.cells #[.slice none 0 0, .slice none 0 0, .slice none 0 0, .slice none 0 0, .slice none 0 0] _ _) from HRe.out)
    have HG4 := Aside0.mk (blk_put5 HRe.out (.slice Y0 (code.length + 1) yc) (.slice Z1 origs.length z1) (.slice Z2 dests.length z2) (.slice (some ⟨g3, 0, none⟩) (ls.length + 1) z3) (.slice Z4 cases.length z4))
    have HBz := Aside0.mk (below_put5 HBe.out (Nat.le_succ _) (.slice Y0 (code.length + 1) yc) (.slice Z1 origs.length z1) (.slice Z2 dests.length z2) (.slice (some ⟨g3, 0, none⟩) (ls.length + 1) z3) (.slice Z4 cases.length z4))
    have H8 := Aside0.mk (H5.out.put5 HRe.out (.slice Y0 (code.length + 1) yc) (.slice Z1 origs.length z1) (.slice Z2 dests.length z2) (.slice (some ⟨g3, 0, none⟩) (ls.length + 1) z3) (.slice Z4 cases.length z4))
    clear HRe HBe HX H5 HC
    go_wp2_with fail
    obtain ⟨y0, y1, y2, y3, y4⟩ := cells5 HG4.out
    refine bodyPost_ret (v := .tuple #[.agg #[.slice Y0 (code.length + 1) yc, .slice Z1 origs.length z1, .slice Z2 dests.length z2, .slice (some ⟨g3, 0, none⟩) (ls.length + 1) z3, .slice Z4 cases.length z4], .int .i64 0]) (by simp [results, Try.results11, go_sem, y0, y1, y2, y3, y4]) rfl ?_
    rw [HACT.out]
    exact apost_mk HBz.out hw3 H8.out
  · exact absurd HKK.out (by decide)
  · obtain rfl : K = 10 := HK.out.symm
    clear HK HKK hact q4 q5
    obtain ⟨ls, x, e, hx⟩ := lk_c (.inl rfl) HLK.out
    have e : cases = ls ++ [x] := e
    subst e
    have hl1 : (ls ++ [x]).length = ls.length + 1 := by simp
    have hi1 : ((ls.length + 1 : Nat) : Int) - 1 = (ls.length : Int) := by omega
    rw [hl1] at HX H5 hn4
    simp only [hl1, hi1]
    clear hl1 hi1
    have p6 : ((ls.length : Int) < (ls.length : Int) + 1) = True := eq_true (by omega)
    obtain ⟨g4, rfl⟩ := own_head (Kd.S_R H5.out.hs)
    obtain ⟨oki, vx, hxr, q1, q2, q3, q4, hbg, hgl, _, q5⟩ := H5.out.lend4 rfl
    have Hs := q5 (code.length : Int)
    have q6 : W0.frozen? ⟨g4, ls.length * 2, none⟩ = false := q3 0
    have hne : w4.heap.size ≠ g4 := fun he => by obtain ⟨cells, h2⟩ := Kd.R_typed (Kd.S_R H5.out.hs) g4 (by simp [Value.ownBlock]); rw [← he] at h2; have h3 := HX.out.symm.trans h2; injection h3 with h3; injection h3 with _ h3; exact absurd h3 (by decide)
    have HXs := blk_far HX.out (p := ⟨g4, ls.length * 2, none⟩) hne (.int .i64 (code.length : Int))
    have HCs := HC.out.setCell (p := ⟨g4, ls.length * 2, none⟩) hbg (.int .i64 (code.length : Int))
    obtain ⟨j0, j1, j2, j3, j4⟩ := cells5 (show W0.heap[w4.heap.size]? = some (.cells #[.slice Y0 (code.length + 1) yc, .slice Z1 origs.length z1, .slice Z2 dests.length z2, .slice Z3 loops.length z3, .slice (some ⟨g4, 0, none⟩) (ls.length + 1) z4] _ _) from HX.out)
    have p2 : (0 ≤ (ls.length : Int)) = True := eq_true (by omega)
    have p3 : ((ls.length : Int) < ((ls.length + 1 : Nat) : Int)) = True := eq_true (by omega)
    clear HX H5 HC hne q5 q3 q4 hxr
    have HX := Aside0.mk HXs
    have H5 := Aside0.mk Hs
    have HC := Aside0.mk HCs
    clear HXs Hs HCs hbg
    have HACT := Aside0.mk (of_acted (d := ⟨code, origs, dests, loops, ls ++ [x]⟩) (.a13 ls x rfl hx hl))
    have HRe := Aside0.mk ((HC.out.block _ HLT.out).trans HR.out)
    have HBe := Aside0.mk (below_step HB.out HC.out)
    have hw3 : w.heap.size ≤ w3.heap.size := HB.out.size
    obtain ⟨k0, k1, k2, k3, k4⟩ := cells5 (show (W0.setCell ⟨g4, ls.length * 2, none⟩ (.int .i64 (code.length : Int))).heap[w4.heap.size]? = some (.cells #[.slice Y0 (code.length + 1) yc, .slice Z1 origs.length z1, .slice Z2 dests.length z2, .slice Z3 loops.length z3, .slice (some ⟨g4, 0, none⟩) (ls.length + 1) z4] _ _) from HX.out)
    obtain ⟨f0, f1, f2, f3, f4⟩ := frozen5 HRe.out
    obtain ⟨r0, r1, r2, r3, r4⟩ := cells5 (show (W0.setCell ⟨g4, ls.length * 2, none⟩ (.int .i64 (code.length : Int))).heap[w.heap.size + 1]? = some (.cells #[.slice none 0 0, .slice none 0 0, .slice none 0 0, .slice none 0 0, .slice none 0 0] _ _) from HRe.out)
    have HG4 := Aside0.mk (blk_put5 HRe.out (.slice Y0 (code.length + 1) yc) (.slice Z1 origs.length z1) (.slice Z2 dests.length z2) (.slice Z3 loops.length z3) (.slice (some ⟨g4, 0, none⟩) (ls.length + 1) z4))
    have HBz := Aside0.mk (below_put5 HBe.out (Nat.le_succ _) (.slice Y0 (code.length + 1) yc) (.slice Z1 origs.length z1) (.slice Z2 dests.length z2) (.slice Z3 loops.length z3) (.slice (some ⟨g4, 0, none⟩) (ls.length + 1) z4))
    have H8 := Aside0.mk (H5.out.put5 HRe.out (.slice Y0 (code.length + 1) yc) (.slice Z1 origs.length z1) (.slice Z2 dests.length z2) (.slice Z3 loops.length z3) (.slice (some ⟨g4, 0, none⟩) (ls.length + 1) z4))
    clear HRe HBe HX H5 HC
    go_wp2_with fail
    obtain ⟨y0, y1, y2, y3, y4⟩ := cells5 HG4.out
    refine bodyPost_ret (v := .tuple #[.agg #[.slice Y0 (code.length + 1) yc, .slice Z1 origs.length z1, .slice Z2 dests.length z2, .slice Z3 loops.length z3, .slice (some ⟨g4, 0, none⟩) (ls.length + 1) z4], .int .i64 0]) (by simp [results, Try.results11, go_sem, y0, y1, y2, y3, y4]) rfl ?_
    rw [HACT.out]
    exact apost_mk HBz.out hw3 H8.out
  · obtain rfl : K = 3 := HK.out.symm
    clear HK HKK hact q4 q5
    obtain ⟨ls, x, e, hx⟩ := lk_e HLK.out
    have e : cases = ls ++ [x] := e
    subst e
    have hl1 : (ls ++ [x]).length = ls.length + 1 := by simp
    have hi1 : ((ls.length + 1 : Nat) : Int) - 1 = (ls.length : Int) := by omega
    rw [hl1] at HX H5 hn4
    simp only [hl1, hi1]
    clear hl1 hi1
    have p6 : ((ls.length : Int) < (ls.length : Int) + 1) = True := eq_true (by omega)
    obtain ⟨g4, rfl⟩ := own_head (Kd.S_R H5.out.hs)
    obtain ⟨gc, rfl⟩ := own_head H5.out.c3.hc
    have p7 : ((code.length : Int) < (code.length : Int) + 1) = True := eq_true (by omega)
    obtain ⟨x0, x1⟩ := isOf_range ((HF5.out.cases x (by simp)).1.resolve_left hx)
    have HACT := Aside0.mk (of_acted (d := ⟨code, origs, dests, loops, ls ++ [x]⟩) (.a14 ls x rfl hx hl))
    have e1 : ((code.length + 1 : Nat) : Int) = (code.length : Int) + 1 := by omega
    rw [e1] at HACT
    clear e1
    have H5d := H5.out.below (below_drew (Below.refl _ W0))
    obtain ⟨oki, vx, hxr, q1, q2, q3, q4, hbg, hgl, q5, q6⟩ := H5d.lend4 rfl
    obtain ⟨B, cB, rfl⟩ := Kd.R_slice hxr
    have HXd := blk_drew HX.out
    have HCd := below_drew HC.out
    have hS : W0.cell? ⟨w4.heap.size, 4, none⟩ = some (.slice (some ⟨g4, 0, none⟩) (ls.length + 1) z4) ∧ W0.cell? ⟨g4, ls.length * 2 + 1, none⟩ = some (.slice B x.f1.length cB) := ⟨(blk_cell HX.out 4).trans rfl, q2⟩
    have hxo : x.f1.length < 4398046511104 - 1 := HM.out.couts x (by simp)
    have p2 : (0 ≤ (ls.length : Int)) = True := eq_true (by omega)
    have p3 : ((ls.length : Int) < ((ls.length + 1 : Nat) : Int)) = True := eq_true (by omega)
    have hq3 := q3 1
    clear q3 q6 q1 HX H5 HC
    go_wp2_with fail
    refine start_ (n := 15) (S := fun w' => w'.cell? ⟨w4.heap.size, 4, none⟩ = some (.slice (some ⟨g4, 0, none⟩) (ls.length + 1) z4) ∧ w'.cell? ⟨g4, ls.length * 2 + 1, none⟩ = some (.slice B x.f1.length cB)) (ds := [14]) (bz_ 15 0) (by kernel_rfl) rfl rfl (hS) (fun hHeld => ?_)
    refine with_tab (rfl : rtab .any (opsOf Try.f11 46) = rtab .any (opsOf Try.f11 46)) (fun HT_ => ?_)
    clear hS
    generalize W0.drew = wd at HXd H5d HCd hxr q2 q4 q5 hgl hq3 hHeld ⊢
    apply pu_ 0 (some 217) (bz_ 15 1) HT_ rfl rfl (by kernel_rfl) (fun _ _ _ h => h) (by rfl)
    · intro _; go_simp; with_reducible rfl
    · go_simp; rfl
    apply pu_ 2 (some 219) (bz_ 15 5) HT_ rfl rfl (by kernel_rfl) (fun _ _ _ h => h) (by rfl)
    · intro _; go_simp; with_reducible rfl
    · go_simp; rfl
    apply pu_ 3 (some 220) (bz_ 15 13) HT_ rfl rfl (by kernel_rfl) (fun _ _ _ h => h) (by rfl)
    · intro _; go_simp; with_reducible rfl
    · go_simp; rfl
    apply pu_ 5 (some 222) (bz_ 15 45) HT_ rfl rfl (by kernel_rfl) (fun _ _ _ h => h) (by rfl)
    · intro _; go_simp; with_reducible rfl
    · go_simp; rfl
    apply pu_ 9 (some 226) (bz_ 15 557) HT_ rfl rfl (by kernel_rfl) (fun _ _ _ h => h) (by rfl)
    · intro _; go_simp; with_reducible rfl
    · go_simp; rfl
    apply tk_ 1 (some 218) (bz_ 15 559) HT_ hHeld rfl rfl (by kernel_rfl) (fun _ _ _ h => h) (by rfl)
    · intro _ hS; go_split_ands; go_simp; with_reducible rfl
    · go_simp; rfl
    apply tk_ 4 (some 221) (bz_ 15 575) HT_ hHeld rfl rfl (by kernel_rfl) (fun _ _ _ h => h) (by rfl)
    · intro _ hS; go_split_ands; go_simp; with_reducible rfl
    · go_simp; rfl
    apply pu_ 6 (some 223) (bz_ 15 639) HT_ rfl rfl (by kernel_rfl) (fun _ _ _ h => h) (by rfl)
    · intro _; go_simp; with_reducible rfl
    · go_simp; rfl
    apply pu_ 7 (some 224) (bz_ 15 767) HT_ rfl rfl (by kernel_rfl) (fun _ _ _ h => h) (by rfl)
    · intro _; go_simp; with_reducible rfl
    · go_simp; rfl
    apply tk_ 8 (some 225) (bz_ 15 1023) HT_ hHeld rfl rfl (by kernel_rfl) (fun _ _ _ h => h) (by rfl)
    · intro _ hS; go_split_ands; go_simp; with_reducible rfl
    · go_simp; rfl
    refine one_ (i := 10) (N := some 227) (bz_ 15 2047) rfl rfl (one_of HT_.out (by kernel_rfl)) (by decide) (fun K hK => ?_)
    refine value_ (w1 := ?_) (v := ?_) (by rfl) rfl ?_ ?_
    rotate_left 2
    · go_simp
      constructor
      · rfl
      · rfl
    have hS : (wd.alloc (.cells #[.int .i64 (code.length : Int)] 3)).cell? ⟨w4.heap.size, 4, none⟩ = some (.slice (some ⟨g4, 0, none⟩) (ls.length + 1) z4) ∧ (wd.alloc (.cells #[.int .i64 (code.length : Int)] 3)).cell? ⟨g4, ls.length * 2 + 1, none⟩ = some (.slice B x.f1.length cB) := ⟨(blk_cell (blk_alloc HXd _) 4).trans rfl, pw_cell_below (below_alloc (Below.refl _ wd) _) q2⟩
    refine hK.out _ _ (hS) (fun hHeld => ?_)
    clear hK K
    refine norm_ (a' := ?_) ?_ ?_
    rotate_left
    · show Act.put _ (some 227) _ = _
      simp only [Act.put, List.setIfInBounds_toArray, List.set_cons_zero, List.set_cons_succ, i64_w, i32_w]
      rfl
    refine one_ (i := 11) (N := some 228) (bz_ 15 4095) rfl rfl (one_of HT_.out (by kernel_rfl)) (by decide) (fun K hK => ?_)
    refine Kd.R_append_step (Kd.int .i64) (w0 := w3) (W := wd) w3.heap.size rfl _ _ 23 3 (.int .i64 0) 8 rfl Try.underlying23 infoI rfl (by decide) (by decide) (.slice B x.f1.length cB) x.f1 (code.length : Int) [.int .i64 (code.length : Int)] (fun k => oki k ∨ wd.heap.size ≤ k) (fun _ => False) rfl rfl rfl (fun _ h => h.elim) (fun k hk => .inr hk) (Kd.R_mono hxr (fun k hk => .inl hk)) HCd HCd.size (by omega) ?_
    intro v' w6 hR hB1 hg1 hat
    clear hat
    have hnb : some g4 ≠ (Value.slice B x.f1.length cB).ownBlock := fun he => (q4 _ (hxr.1 _ he.symm)).2.2 rfl
    have hbk := blk_grown HXd hg1 (Kd.R_ne hxr HXd (by decide))
    have hS : w6.cell? ⟨w4.heap.size, 4, none⟩ = some (.slice (some ⟨g4, 0, none⟩) (ls.length + 1) z4) ∧ w6.cell? ⟨g4, ls.length * 2 + 1, none⟩ = some (.slice B x.f1.length cB) := ⟨(blk_cell hbk 4).trans rfl, cell_grown hg1 q2 hnb⟩
    have hf : w6.frozen? ⟨g4, ls.length * 2 + 1, none⟩ = false := by have h1 := hg1.block g4 hgl hnb; have h2 := hq3; unfold World.frozen? at h2 ⊢; simp only at h2 ⊢; rw [h1]; exact h2
    have hcc := hS.2
    obtain ⟨N6, m6, rfl⟩ := Kd.R_slice hR
    have hl1 : (x.f1 ++ [(code.length : Int)]).length = x.f1.length + 1 := by simp
    rw [hl1] at hR ⊢
    refine hK.out _ _ (hS) (fun hHeld => ?_)
    clear hK K
    refine norm_ (a' := ?_) ?_ ?_
    rotate_left
    · show Act.put _ (some 228) _ = _
      simp only [Act.put, List.setIfInBounds_toArray, List.set_cons_zero, List.set_cons_succ, i64_w, i32_w]
      rfl
    apply pu_ 12 (some 229) (bz_ 15 8191) HT_ rfl rfl (by kernel_rfl) (fun _ _ _ h => h) (by rfl)
    · intro _; go_simp; with_reducible rfl
    · go_simp; rfl
    apply pu_ 13 (some 230) (bz_ 15 16383) HT_ rfl rfl (by kernel_rfl) (fun _ _ _ h => h) (by rfl)
    · intro _; go_simp; with_reducible rfl
    · go_simp; rfl
    refine last_ (i := 14) (N := none) (bz_ 15 32767) rfl rfl (one_of HT_.out (by kernel_rfl)) (by decide) (fun K hK => ?_)
    go_simp
    refine hK.out _ _ ?_
    clear hK K
    refine done_ (done_of HT_.out (by kernel_rfl)) ?_
    clear HT_ hHeld hS hf hcc
    have H5 := Aside0.mk (q5 hg1 hR)
    have hne : w4.heap.size ≠ g4 := fun he => by obtain ⟨cells, h2⟩ := Kd.R_typed (Kd.S_R H5d.hs) g4 (by simp [Value.ownBlock]); rw [← he] at h2; have h3 := HXd.symm.trans h2; injection h3 with h3; injection h3 with _ h3; exact absurd h3 (by decide)
    have HX := Aside0.mk (blk_far hbk (p := ⟨g4, ls.length * 2 + 1, none⟩) hne (.slice N6 (x.f1.length + 1) m6))
    have HC := Aside0.mk (hB1.setCell (p := ⟨g4, ls.length * 2 + 1, none⟩) hbg (.slice N6 (x.f1.length + 1) m6))
    clear H5d HXd HCd hxr q2 q4 q5 hgl hq3 hnb hbk hR hB1 hg1 hl1 hne hbg
    generalize hx' : (⟨x.f0, x.f1 ++ [(code.length : Int)]⟩ : S59) = xx at H5
    generalize (w6.setCell ⟨g4, ls.length * 2 + 1, none⟩ (.slice N6 (x.f1.length + 1) m6)) = W7 at HX H5 HC ⊢
    have hxa : xx.f0 = x.f0 := by rw [← hx']
    have hxb : xx.f1 = x.f1 ++ [(code.length : Int)] := by rw [← hx']
    clear hx'
    have H5d := H5.out.below (below_drew (Below.refl _ W7))
    obtain ⟨oki2, vx2, hxr, r1, r2, r3, r4, hbg, hgl, r5, r6⟩ := H5d.lend4 rfl
    rw [hxa] at r1
    clear hxr r2 r3 r4 r5 r6 hgl oki2 vx2
    have HXd := blk_drew HX.out
    have HCd := below_drew HC.out
    have hS : W7.cell? ⟨w4.heap.size, 0, none⟩ = some (.slice (some ⟨gc, 0, none⟩) (code.length + 1) yc) ∧ W7.cell? ⟨w4.heap.size, 4, none⟩ = some (.slice (some ⟨g4, 0, none⟩) (ls.length + 1) z4) ∧ W7.cell? ⟨g4, ls.length * 2, none⟩ = some (.int .i64 x.f0) := ⟨(blk_cell HX.out 0).trans rfl, (blk_cell HX.out 4).trans rfl, r1⟩
    have m0 : ((code.length : Int) + 1) % 4294967296 = (code.length : Int) + 1 := by omega
    have s2 : (0 ≤ x.f0) = True := eq_true x0
    have s3 : (x.f0 < (code.length : Int) + 1) = True := eq_true (by omega)
    have s4 : (x.f0 < ((code.length + 1 : Nat) : Int)) = True := eq_true (by omega)
    clear HX H5 HC
    go_wp2_with fail
    refine start_ (n := 13) (S := fun w' => w'.cell? ⟨w4.heap.size, 0, none⟩ = some (.slice (some ⟨gc, 0, none⟩) (code.length + 1) yc) ∧ w'.cell? ⟨w4.heap.size, 4, none⟩ = some (.slice (some ⟨g4, 0, none⟩) (ls.length + 1) z4) ∧ w'.cell? ⟨g4, ls.length * 2, none⟩ = some (.int .i64 x.f0)) (ds := [12]) (bz_ 13 0) (by kernel_rfl) rfl rfl (hS) (fun hHeld => ?_)
    refine with_tab (rfl : rtab .any (opsOf Try.f11 47) = rtab .any (opsOf Try.f11 47)) (fun HT_ => ?_)
    clear hS
    generalize W7.drew = we at HXd H5d HCd r1 hHeld ⊢
    obtain ⟨cc, hcl2, hM, hcc, hfr⟩ := Kd.R_elem H5d.c3.hc z37 x.f0 x0 (by omega)
    have hz := k37_openM hM
    subst hz
    have c1 : we.cell? ⟨gc, x.f0.toNat * 2 + 1, none⟩ = some (.int .u32 ((code ++ [(⟨3, 0⟩ : S37)]).getD x.f0.toNat z37).f1) := hcc 1 _ rfl
    have c2 : we.frozen? ⟨gc, x.f0.toNat * 2 + 1, none⟩ = false := hfr 1
    have hseg := Kd.R_seg H5d.c3.hc x.f0 x0 (by omega) (seg := [.int .u32 ((code.length : Int) + 1)]) (j := 1) hcl2 hcc (by show 1 + 1 ≤ 2; omega) (x' := ⟨((code ++ [(⟨3, 0⟩ : S37)]).getD x.f0.toNat z37).f0, (code.length : Int) + 1⟩) (okp := fun _ => False) (k37_mkM _ _ _ _) (fun _ h => h.elim)
    apply pu_ 0 (some 231) (bz_ 13 1) HT_ rfl rfl (by kernel_rfl) (fun _ _ _ h => h) (by rfl)
    · intro _; go_simp; with_reducible rfl
    · go_simp; rfl
    apply pu_ 2 (some 233) (bz_ 13 5) HT_ rfl rfl (by kernel_rfl) (fun _ _ _ h => h) (by rfl)
    · intro _; go_simp; with_reducible rfl
    · go_simp; rfl
    apply pu_ 4 (some 235) (bz_ 13 21) HT_ rfl rfl (by kernel_rfl) (fun _ _ _ h => h) (by rfl)
    · intro _; go_simp; with_reducible rfl
    · go_simp; rfl
    apply pu_ 8 (some 239) (bz_ 13 277) HT_ rfl rfl (by kernel_rfl) (fun _ _ _ h => h) (by rfl)
    · intro _; go_simp; with_reducible rfl
    · go_simp; rfl
    apply pu_ 9 (some 240) (bz_ 13 789) HT_ rfl rfl (by kernel_rfl) (fun _ _ _ h => h) (by rfl)
    · intro _; go_simp; with_reducible rfl
    · go_simp; rfl
    apply tk_ 1 (some 232) (bz_ 13 791) HT_ hHeld rfl rfl (by kernel_rfl) (fun _ _ _ h => h) (by rfl)
    · intro _ hS; go_split_ands; go_simp; with_reducible rfl
    · go_simp; rfl
    apply tk_ 3 (some 234) (bz_ 13 799) HT_ hHeld rfl rfl (by kernel_rfl) (fun _ _ _ h => h) (by rfl)
    · intro _ hS; go_split_ands; go_simp; with_reducible rfl
    · go_simp; rfl
    apply pu_ 5 (some 236) (bz_ 13 831) HT_ rfl rfl (by kernel_rfl) (fun _ _ _ h => h) (by rfl)
    · intro _; go_simp; with_reducible rfl
    · go_simp; rfl
    apply pu_ 6 (some 237) (bz_ 13 895) HT_ rfl rfl (by kernel_rfl) (fun _ _ _ h => h) (by rfl)
    · intro _; go_simp; with_reducible rfl
    · go_simp; rfl
    apply tk_ 7 (some 238) (bz_ 13 1023) HT_ hHeld rfl rfl (by kernel_rfl) (fun _ _ _ h => h) (by rfl)
    · intro _ hS; go_split_ands; go_simp; with_reducible rfl
    · go_simp; rfl
    apply pu_ 10 (some 241) (bz_ 13 2047) HT_ rfl rfl (by kernel_rfl) (fun _ _ _ h => h) (by rfl)
    · intro _; go_simp; with_reducible rfl
    · go_simp; rfl
    apply pu_ 11 (some 242) (bz_ 13 4095) HT_ rfl rfl (by kernel_rfl) (fun _ _ _ h => h) (by rfl)
    · intro _; go_simp; with_reducible rfl
    · go_simp; rfl
    refine last_ (i := 12) (N := none) (bz_ 13 8191) rfl rfl (one_of HT_.out (by kernel_rfl)) (by decide) (fun K hK => ?_)
    go_simp
    refine hK.out _ _ ?_
    clear hK K
    refine done_ (done_of HT_.out (by kernel_rfl)) ?_
    clear HT_ hHeld c1 c2 hcc hfr hM hcl2
    have H5 := Aside0.mk (H5d.coded (code' := aimed ((code.length : Int) + 1) (code ++ [(⟨3, 0⟩ : S37)]) [x.f0]) hseg.2 hseg.1)
    have HX := Aside0.mk (blk_grown HXd hseg.2 (Kd.R_ne H5d.c3.hc HXd (by decide)))
    have HC := Aside0.mk (HCd.setCell (p := ⟨gc, x.f0.toNat * 2 + 1, none⟩) (Kd.R_base H5d.c3.hc gc (by simp [Value.ownBlock])) (.int .u32 ((code.length : Int) + 1)))
    have HX9 : Aside0 ((we.setCell ⟨gc, x.f0.toNat * 2 + 1, none⟩ (.int .u32 ((code.length : Int) + 1))).heap[w4.heap.size]? = some (.cells #[.slice (some ⟨gc, 0, none⟩) (code.length + 1) yc, .slice Z1 origs.length z1, .slice Z2 dests.length z2, .slice Z3 loops.length z3, .slice (some ⟨g4, 0, none⟩) (ls.length + 1) z4] 26 (0, 0))) := ⟨HX.out⟩
    have H59 : Aside0 (C5 (we.setCell ⟨gc, x.f0.toNat * 2 + 1, none⟩ (.int .u32 ((code.length : Int) + 1))) w3.heap.size (.slice (some ⟨gc, 0, none⟩) (code.length + 1) yc) (.slice Z1 origs.length z1) (.slice Z2 dests.length z2) (.slice Z3 loops.length z3) (.slice (some ⟨g4, 0, none⟩) (ls.length + 1) z4) _ (aimed ((code.length : Int) + 1) (code ++ [(⟨3, 0⟩ : S37)]) [x.f0]) origs dests loops (ls ++ [xx])) := ⟨H5.out⟩
    have HC9 : Aside0 (Below w3.heap.size w3 (we.setCell ⟨gc, x.f0.toNat * 2 + 1, none⟩ (.int .u32 ((code.length : Int) + 1)))) := ⟨HC.out⟩
    clear H5d HXd HCd hseg r1 HX H5 HC
    have HX := HX9
    have H5 := H59
    have HC := HC9
    clear HX9 H59 HC9
    obtain ⟨oki3, vx3, hxr, t1, t2, t3, t4, hbg2, hgl, t5, t6⟩ := H5.out.lend4 rfl
    rw [hxa] at t1
    have t7 : (we.setCell ⟨gc, x.f0.toNat * 2 + 1, none⟩ (.int .u32 ((code.length : Int) + 1))).frozen? ⟨g4, ls.length * 2, none⟩ = false := t3 0
    have Hs := t6 (-1)
    rw [hxb] at Hs
    have hne : w4.heap.size ≠ g4 := fun he => by obtain ⟨cells, h2⟩ := Kd.R_typed (Kd.S_R H5.out.hs) g4 (by simp [Value.ownBlock]); rw [← he] at h2; have h3 := HX.out.symm.trans h2; injection h3 with h3; injection h3 with _ h3; exact absurd h3 (by decide)
    have HXs := blk_far HX.out (p := ⟨g4, ls.length * 2, none⟩) hne (.int .i64 (-1))
    have HCs := HC.out.setCell (p := ⟨g4, ls.length * 2, none⟩) hbg2 (.int .i64 (-1))
    obtain ⟨j0, j1, j2, j3, j4⟩ := cells5 (show (we.setCell ⟨gc, x.f0.toNat * 2 + 1, none⟩ (.int .u32 ((code.length : Int) + 1))).heap[w4.heap.size]? = some (.cells #[.slice (some ⟨gc, 0, none⟩) (code.length + 1) yc, .slice Z1 origs.length z1, .slice Z2 dests.length z2, .slice Z3 loops.length z3, .slice (some ⟨g4, 0, none⟩) (ls.length + 1) z4] _ _) from HX.out)
    clear HX H5 HC hne hxr t2 t3 t4 t5 t6 hgl
    have HX := Aside0.mk HXs
    have H5 := Aside0.mk Hs
    have HC := Aside0.mk HCs
    clear HXs Hs HCs
    have HRe := Aside0.mk ((HC.out.block _ HLT.out).trans HR.out)
    have HBe := Aside0.mk (below_step HB.out HC.out)
    have hw3 : w.heap.size ≤ w3.heap.size := HB.out.size
    obtain ⟨k0, k1, k2, k3, k4⟩ := cells5 (show ((we.setCell ⟨gc, x.f0.toNat * 2 + 1, none⟩ (.int .u32 ((code.length : Int) + 1))).setCell ⟨g4, ls.length * 2, none⟩ (.int .i64 (-1))).heap[w4.heap.size]? = some (.cells #[.slice (some ⟨gc, 0, none⟩) (code.length + 1) yc, .slice Z1 origs.length z1, .slice Z2 dests.length z2, .slice Z3 loops.length z3, .slice (some ⟨g4, 0, none⟩) (ls.length + 1) z4] _ _) from HX.out)
    obtain ⟨f0, f1, f2, f3, f4⟩ := frozen5 HRe.out
    obtain ⟨r0, r1, r2, r3, r4⟩ := cells5 (show ((we.setCell ⟨gc, x.f0.toNat * 2 + 1, none⟩ (.int .u32 ((code.length : Int) + 1))).setCell ⟨g4, ls.length * 2, none⟩ (.int .i64 (-1))).heap[w.heap.size + 1]? = some (.cells #[.slice none 0 0, .slice none 0 0, .slice none 0 0, .slice none 0 0, .slice none 0 0] _ _) from HRe.out)
    have HG4 := Aside0.mk (blk_put5 HRe.out (.slice (some ⟨gc, 0, none⟩) (code.length + 1) yc) (.slice Z1 origs.length z1) (.slice Z2 dests.length z2) (.slice Z3 loops.length z3) (.slice (some ⟨g4, 0, none⟩) (ls.length + 1) z4))
    have HBz := Aside0.mk (below_put5 HBe.out (Nat.le_succ _) (.slice (some ⟨gc, 0, none⟩) (code.length + 1) yc) (.slice Z1 origs.length z1) (.slice Z2 dests.length z2) (.slice Z3 loops.length z3) (.slice (some ⟨g4, 0, none⟩) (ls.length + 1) z4))
    have H8 := Aside0.mk (H5.out.put5 HRe.out (.slice (some ⟨gc, 0, none⟩) (code.length + 1) yc) (.slice Z1 origs.length z1) (.slice Z2 dests.length z2) (.slice Z3 loops.length z3) (.slice (some ⟨g4, 0, none⟩) (ls.length + 1) z4))
    clear HRe HBe HX H5 HC
    go_wp2_with fail
    obtain ⟨y0, y1, y2, y3, y4⟩ := cells5 HG4.out
    refine bodyPost_ret (v := .tuple #[.agg #[.slice (some ⟨gc, 0, none⟩) (code.length + 1) yc, .slice Z1 origs.length z1, .slice Z2 dests.length z2, .slice Z3 loops.length z3, .slice (some ⟨g4, 0, none⟩) (ls.length + 1) z4], .int .i64 0]) (by simp [results, Try.results11, go_sem, y0, y1, y2, y3, y4]) rfl ?_
    rw [HACT.out]
    exact apost_mk HBz.out hw3 H8.out
  · obtain rfl : K = 11 := HK.out.symm
    clear HK HKK hact q4 q5
    obtain ⟨ls, x, e, hx⟩ := lk_c (.inr rfl) HLK.out
    have e : cases = ls ++ [x] := e
    subst e
    have hl1 : (ls ++ [x]).length = ls.length + 1 := by simp
    have hi1 : ((ls.length + 1 : Nat) : Int) - 1 = (ls.length : Int) := by omega
    rw [hl1] at HX H5 hn4
    simp only [hl1, hi1]
    clear hl1 hi1
    have p6 : ((ls.length : Int) < (ls.length : Int) + 1) = True := eq_true (by omega)
    obtain ⟨g4, rfl⟩ := own_head (Kd.S_R H5.out.hs)
    obtain ⟨o', vx, h5', hxr, q1, q2⟩ := H5.out.last4 rfl
    obtain ⟨B, cB, rfl⟩ := Kd.R_slice hxr
    have HRD := Aside0.mk (h5'.readK hxr)
    have HIN : Aside0 (∀ y ∈ x.f1, 0 ≤ y ∧ y < ((code ++ [(⟨11, 0⟩ : S37)]).length : Int)) := ⟨fun y hy => by have := areP_range (HF5.out.cases x (by simp)).2 y hy; simp; omega⟩
    have p2 : (0 ≤ (ls.length : Int)) = True := eq_true (by omega)
    have p3 : ((ls.length : Int) < ((ls.length + 1 : Nat) : Int)) = True := eq_true (by omega)
    obtain ⟨j0, j1, j2, j3, j4⟩ := cells5 (show W0.heap[w4.heap.size]? = some (.cells #[.slice Y0 (code.length + 1) yc, .slice Z1 origs.length z1, .slice Z2 dests.length z2, .slice Z3 loops.length z3, .slice (some ⟨g4, 0, none⟩) (ls.length + 1) z4] _ _) from HX.out)
    replace H5 := Aside0.mk h5'
    clear h5' hxr q1
    have HXv : W0.heap[w4.heap.size]? = some (.cells #[.slice Y0 (code.length + 1) yc, .slice Z1 origs.length z1, .slice Z2 dests.length z2, .slice Z3 loops.length z3, .slice (some ⟨g4, 0, none⟩) (ls.length + 1) z4] 26 (0, 0)) := HX.out
    have HXw := Aside0.mk HXv
    clear HXv
    go_wp2_with fail
    with_reducible refine (raim_n w4.heap.size w3.heap.size (x.f1.length) cB (.slice Y0 (code.length + 1) yc) (.slice Z1 origs.length z1) (.slice Z2 dests.length z2) (.slice Z3 loops.length z3) (.slice (some ⟨g4, 0, none⟩) (ls.length + 1) z4) B (code ++ [(⟨11, 0⟩ : S37)]) x.f1 (((code.length : Int) + 1)) W0 (by simp) HXw.out H5.out.c3.hc HRD.out HIN.out (by omega) (by omega)).mono ?_
    rintro e W6 ⟨rfl, hR, hK, hB1⟩
    have HXn := Aside0.mk (blk_kept HX.out hK (Kd.R_ne H5.out.c3.hc HX.out (by decide)))
    have H5n := Aside0.mk (H5.out.codeK hK hR)
    have HCn := Aside0.mk (HC.out.trans hB1)
    clear hR hK hB1 HX H5 HC HXw
    have HX := HXn
    have H5 := H5n
    have HC := HCn
    clear HXn H5n HCn
    clear j0 j1 j2 j3 j4
    have hz4 : ls.length ≤ z4 := (Kd.R_reads' (Kd.S_R H5.out.hs)).2.1
    obtain ⟨j0, j1, j2, j3, j4⟩ := cells5 (show W6.heap[w4.heap.size]? = some (.cells #[.slice Y0 (code.length + 1) yc, .slice Z1 origs.length z1, .slice Z2 dests.length z2, .slice Z3 loops.length z3, .slice (some ⟨g4, 0, none⟩) (ls.length + 1) z4] _ _) from HX.out)
    have fz := blk_frozen HX.out 4
    have H5n := Aside0.mk (H5.out.set HX.out 4 (.slice (some ⟨g4, 0, none⟩) ls.length z4))
    have HXn := Aside0.mk (blk_put HX.out 4 (.slice (some ⟨g4, 0, none⟩) ls.length z4) rfl)
    have HCn := Aside0.mk (HC.out.setCell (p := ⟨w4.heap.size, 4, none⟩) hg (.slice (some ⟨g4, 0, none⟩) ls.length z4))
    clear HX H5 HC
    have HX := HXn
    have H5 := H5n
    have HC := HCn
    clear HXn H5n HCn
    have HACT := Aside0.mk (of_acted (d := ⟨code, origs, dests, loops, ls ++ [x]⟩) (.a15 ls x rfl hx hl))
    have e1 : ((code.length + 1 : Nat) : Int) = (code.length : Int) + 1 := by omega
    rw [e1] at HACT
    clear e1
    have HRe := Aside0.mk ((HC.out.block _ HLT.out).trans HR.out)
    have HBe := Aside0.mk (below_step HB.out HC.out)
    have hw3 : w.heap.size ≤ w3.heap.size := HB.out.size
    obtain ⟨k0, k1, k2, k3, k4⟩ := cells5 (show (W6.setCell ⟨w4.heap.size, 4, none⟩ (.slice (some ⟨g4, 0, none⟩) ls.length z4)).heap[w4.heap.size]? = some (.cells #[.slice Y0 (code.length + 1) yc, .slice Z1 origs.length z1, .slice Z2 dests.length z2, .slice Z3 loops.length z3, .slice (some ⟨g4, 0, none⟩) ls.length z4] _ _) from HX.out)
    obtain ⟨f0, f1, f2, f3, f4⟩ := frozen5 HRe.out
    obtain ⟨r0, r1, r2, r3, r4⟩ := cells5 (show (W6.setCell ⟨w4.heap.size, 4, none⟩ (.slice (some ⟨g4, 0, none⟩) ls.length z4)).heap[w.heap.size + 1]? = some (.cells #[.slice none 0 0, .slice none 0 0, .slice none 0 0, .slice none 0 0, .slice none 0 0] _ _) from HRe.out)
    have HG4 := Aside0.mk (blk_put5 HRe.out (.slice Y0 (code.length + 1) yc) (.slice Z1 origs.length z1) (.slice Z2 dests.length z2) (.slice Z3 loops.length z3) (.slice (some ⟨g4, 0, none⟩) ls.length z4))
    have HBz := Aside0.mk (below_put5 HBe.out (Nat.le_succ _) (.slice Y0 (code.length + 1) yc) (.slice Z1 origs.length z1) (.slice Z2 dests.length z2) (.slice Z3 loops.length z3) (.slice (some ⟨g4, 0, none⟩) ls.length z4))
    have H8 := Aside0.mk (H5.out.put5 HRe.out (.slice Y0 (code.length + 1) yc) (.slice Z1 origs.length z1) (.slice Z2 dests.length z2) (.slice Z3 loops.length z3) (.slice (some ⟨g4, 0, none⟩) ls.length z4))
    clear HRe HBe HX H5 HC
    go_wp2_with fail
    obtain ⟨y0, y1, y2, y3, y4⟩ := cells5 HG4.out
    refine bodyPost_ret (v := .tuple #[.agg #[.slice Y0 (code.length + 1) yc, .slice Z1 origs.length z1, .slice Z2 dests.length z2, .slice Z3 loops.length z3, .slice (some ⟨g4, 0, none⟩) ls.length z4], .int .i64 0]) (by simp [results, Try.results11, go_sem, y0, y1, y2, y3, y4]) rfl ?_
    rw [HACT.out]
    exact apost_mk HBz.out hw3 H8.out
set_option maxRecDepth 100000 in
set_option maxHeartbeats 8000000 in
theorem ract_ok0 (h : DrC w A0 A1 A2 A3 A4 c0 c1 c2 c3 c4 code origs dests loops cases) (hf : formedP code origs dests loops cases = true) (hs : Small code origs dests loops cases) (hm : Room ⟨code, origs, dests, loops, cases⟩) (ha : 1 ≤ a ∧ a ≤ 15) (hlk : lacksP ⟨code, origs, dests, loops, cases⟩ a = false) (hk : laidP a = 0) :
    Calls Try.prog 11 #[drV A0 A1 A2 A3 A4 c0 c1 c2 c3 c4 code.length origs.length dests.length loops.length cases.length, .int .i64 a] w (APost w (actP ⟨code, origs, dests, loops, cases⟩ a)) := by
  have q1 : decide (a < 1) = false := decide_eq_false (by omega)
  have q2 : decide (15 < a) = false := decide_eq_false (by omega)
  have HM := Aside0.mk hm
  have HA := Aside0.mk ha
  clear hm ha
  have HLK := Aside0.mk hlk
  have HS := Aside0.mk hs
  have HF5 := formed_iff.1 hf
  have h256 : code.length ≤ 256 := HF5.len
  replace HF5 := Aside0.mk HF5
  clear hlk hs
  have HKK := Aside0.mk hk
  clear hk
  have hsz : (w.alloc (.cells #[.slice A0 code.length c0, .slice A1 origs.length c1, .slice A2 dests.length c2, .slice A3 loops.length c3, .slice A4 cases.length c4] 26)).heap.size = w.heap.size + 1 := by simp
  have HD := Aside0.mk (blk_alloc (blk_new w (.cells #[.slice A0 code.length c0, .slice A1 origs.length c1, .slice A2 dests.length c2, .slice A3 loops.length c3, .slice A4 cases.length c4] 26)) (.cells #[.slice none 0 0, .slice none 0 0, .slice none 0 0, .slice none 0 0, .slice none 0 0] 26))
  have HR0 := blk_new (w.alloc (.cells #[.slice A0 code.length c0, .slice A1 origs.length c1, .slice A2 dests.length c2, .slice A3 loops.length c3, .slice A4 cases.length c4] 26)) (.cells #[.slice none 0 0, .slice none 0 0, .slice none 0 0, .slice none 0 0, .slice none 0 0] 26)
  rw [hsz] at HR0
  have HR := Aside0.mk HR0
  clear hsz HR0
  have HB := Aside0.mk (below_alloc (below_alloc (Below.refl w.heap.size w) (.cells #[.slice A0 code.length c0, .slice A1 origs.length c1, .slice A2 dests.length c2, .slice A3 loops.length c3, .slice A4 cases.length c4] 26)) (.cells #[.slice none 0 0, .slice none 0 0, .slice none 0 0, .slice none 0 0, .slice none 0 0] 26))
  have H := Aside0.mk h
  have HF := Aside0.mk hf
  clear h hf
  obtain ⟨k0, k1, k2, k3, k4⟩ := cells5 HD.out
  go_enter Try.func11, Try.ntmps11
  go_wp2_with fail
  clear k0 k1 k2 k3 k4
  refine (rformed_calls A0 A1 A2 A3 A4 c0 c1 c2 c3 c4 code origs dests loops cases _ (H.out.below HB.out)).mono ?_
  rintro e w1 ⟨rfl, hb1⟩
  rw [HF.out]
  replace HB := Aside0.mk (below_step HB.out hb1)
  replace HD := Aside0.mk (blk_below HD.out hb1)
  replace HR := Aside0.mk (blk_below HR.out hb1)
  replace H := Aside0.mk (H.out.below HB.out)
  clear hb1
  obtain ⟨k0, k1, k2, k3, k4⟩ := cells5 HD.out
  go_wp2_with fail
  clear k0 k1 k2 k3 k4 q1 q2
  refine (lacks_calls (d := ⟨code, origs, dests, loops, cases⟩) H.out HA.out (Nat.lt_of_lt_of_le HM.out.cases (by decide))).mono ?_
  rintro e w2 ⟨rfl, hb⟩
  replace HB := Aside0.mk (below_step HB.out hb)
  replace HD := Aside0.mk (blk_below HD.out hb)
  replace HR := Aside0.mk (blk_below HR.out hb)
  replace H := Aside0.mk (H.out.below hb)
  clear hb
  rw [HLK.out]
  go_wp2_with fail
  refine (laid_calls HA.out w2).mono ?_
  rintro e w3 ⟨rfl, hb⟩
  replace HB := Aside0.mk (below_step HB.out hb)
  replace HD := Aside0.mk (blk_below HD.out hb)
  replace HR := Aside0.mk (blk_below HR.out hb)
  replace H := Aside0.mk (H.out.below hb)
  clear hb
  obtain ⟨K, hK⟩ : ∃ K, laidP a = K := ⟨_, rfl⟩
  rw [hK]
  have HK := Aside0.mk hK
  clear hK
  have hk : K = 0 := by rw [← HK.out]; exact HKK.out
  have q4 : (K == 0) = true := by simpa using hk
  have q5 : (K != 0) = false := by simpa using hk
  clear hk
  obtain ⟨k0, k1, k2, k3, k4⟩ := cells5 HD.out
  go_wp2_with fail
  clear k0 k1 k2 k3 k4 
  refine (copy_calls A0 A1 A2 A3 A4 c0 c1 c2 c3 c4 code origs dests loops cases w3 H.out HS.out HM.out).mono ?_
  rintro e w4 ⟨Z0, Z1, Z2, Z3, Z4, z0, z1, z2, z3, z4, oz, rfl, h5, hb⟩
  have hal := below_alloc (Below.refl _ w4) (.cells #[.slice Z0 code.length z0, .slice Z1 origs.length z1, .slice Z2 dests.length z2, .slice Z3 loops.length z3, .slice Z4 cases.length z4] 26)
  have HC := Aside0.mk (below_step hb hal)
  have HX := Aside0.mk (blk_new w4 (.cells #[.slice Z0 code.length z0, .slice Z1 origs.length z1, .slice Z2 dests.length z2, .slice Z3 loops.length z3, .slice Z4 cases.length z4] 26))
  have H5 := Aside0.mk (h5.below hal)
  have hg : w3.heap.size ≤ w4.heap.size := hb.size
  have HLT := Aside0.mk (blk_lt HR.out)
  have hW : w3.heap.size ≤ (w4.alloc (.cells #[.slice Z0 code.length z0, .slice Z1 origs.length z1, .slice Z2 dests.length z2, .slice Z3 loops.length z3, .slice Z4 cases.length z4] 26)).heap.size := HC.out.size
  clear hb h5 hal HD H
  obtain ⟨j0, j1, j2, j3, j4⟩ := cells5 (show (w4.alloc (.cells #[.slice Z0 code.length z0, .slice Z1 origs.length z1, .slice Z2 dests.length z2, .slice Z3 loops.length z3, .slice Z4 cases.length z4] 26)).heap[w4.heap.size]? = some (.cells #[.slice Z0 code.length z0, .slice Z1 origs.length z1, .slice Z2 dests.length z2, .slice Z3 loops.length z3, .slice Z4 cases.length z4] _ _) from HX.out)
  clear hW
  have hn1 : origs.length < 4398046511104 - 1 := HM.out.origs
  have hn2 : dests.length < 4398046511104 - 1 := HM.out.dests
  have hn3 : loops.length < 4398046511104 - 1 := HM.out.loops
  have hn4 : cases.length < 4398046511104 - 1 := HM.out.cases
  go_wp2_with fail
  go_quiet (fail)
  clear j0 j1 j2 j3 j4
  replace HX := Aside0.mk (blk_drewN HX.out nq)
  replace H5 := Aside0.mk (H5.out.below (pw_below_drewN' (Below.refl _ _) nq))
  replace HC := Aside0.mk (pw_below_drewN' HC.out nq)
  generalize (w4.alloc (.cells #[.slice Z0 code.length z0, .slice Z1 origs.length z1, .slice Z2 dests.length z2, .slice Z3 loops.length z3, .slice Z4 cases.length z4] 26)).drewN nq = W0 at HX H5 HC ⊢
  have hact := HA.out
  rcases act_split (by omega : ¬ (a < 1 ∨ 15 < a)) with rfl | rfl | rfl | rfl | rfl | rfl | rfl | rfl | rfl | rfl | rfl | rfl | rfl | rfl | rfl
  · exact absurd HKK.out (by decide)
  · exact absurd HKK.out (by decide)
  · obtain rfl : K = 0 := HK.out.symm
    clear HK HKK hact q4 q5
    obtain ⟨xs, x, e⟩ := lk_o (.inr rfl) HLK.out
    have e : origs = xs ++ [x] := e
    subst e
    have hl1 : (xs ++ [x]).length = xs.length + 1 := by simp
    have hi1 : ((xs.length + 1 : Nat) : Int) - 1 = (xs.length : Int) := by omega
    rw [hl1] at HX H5 hn1
    simp only [hl1, hi1]
    clear hl1 hi1
    have p6 : ((xs.length : Int) < (xs.length : Int) + 1) = True := eq_true (by omega)
    obtain ⟨g1, rfl⟩ := own_head H5.out.c3.ho
    have hz1 : xs.length + 1 ≤ z1 := (Kd.R_reads' H5.out.c3.ho).2.1
    have HRD := Aside0.mk (fun W hK => one_C (int_at (R_kept H5.out.c3.ho hK (fun k q cells _ hq hc => H5.out.away (q3 hq) hc)) rfl).1 : ∀ W, Kept W0 W (fun k => some k = (Value.slice Z0 code.length z0).ownBlock) → Kd.C (Kd.int .i64) W (some ⟨g1, xs.length, none⟩) [x].length [x])
    have hin := areP_range HF5.out.origs x (by simp)
    have HIN : Aside0 (∀ y ∈ [x], 0 ≤ y ∧ y < (code.length : Int)) := ⟨fun y hy => by rw [List.mem_singleton.1 hy]; exact hin⟩
    clear hin
    obtain ⟨j0, j1, j2, j3, j4⟩ := cells5 (show W0.heap[w4.heap.size]? = some (.cells #[.slice Z0 code.length z0, .slice (some ⟨g1, 0, none⟩) (xs.length + 1) z1, .slice Z2 dests.length z2, .slice Z3 loops.length z3, .slice Z4 cases.length z4] _ _) from HX.out)
    have HXv : W0.heap[w4.heap.size]? = some (.cells #[.slice Z0 code.length z0, .slice (some ⟨g1, 0, none⟩) (xs.length + 1) z1, .slice Z2 dests.length z2, .slice Z3 loops.length z3, .slice Z4 cases.length z4] 26 (0, 0)) := HX.out
    have HXw := Aside0.mk HXv
    clear HXv
    go_wp2_with fail
    with_reducible refine (raim_n w4.heap.size w3.heap.size (1) (z1 - xs.length) (.slice Z0 code.length z0) (.slice (some ⟨g1, 0, none⟩) (xs.length + 1) z1) (.slice Z2 dests.length z2) (.slice Z3 loops.length z3) (.slice Z4 cases.length z4) (some ⟨g1, xs.length, none⟩) (code) [x] ((code.length : Int)) W0 (by simp) HXw.out H5.out.c3.hc HRD.out HIN.out (by omega) (by omega)).mono ?_
    rintro e W6 ⟨rfl, hR, hK, hB1⟩
    have HXn := Aside0.mk (blk_kept HX.out hK (Kd.R_ne H5.out.c3.hc HX.out (by decide)))
    have H5n := Aside0.mk (H5.out.codeK hK hR)
    have HCn := Aside0.mk (HC.out.trans hB1)
    clear hR hK hB1 HX H5 HC HXw
    have HX := HXn
    have H5 := H5n
    have HC := HCn
    clear HXn H5n HCn
    clear j0 j1 j2 j3 j4
    obtain ⟨j0, j1, j2, j3, j4⟩ := cells5 (show W6.heap[w4.heap.size]? = some (.cells #[.slice Z0 code.length z0, .slice (some ⟨g1, 0, none⟩) (xs.length + 1) z1, .slice Z2 dests.length z2, .slice Z3 loops.length z3, .slice Z4 cases.length z4] _ _) from HX.out)
    have fz := blk_frozen HX.out 1
    have H5n := Aside0.mk (H5.out.pop1.set HX.out 1 (.slice (some ⟨g1, 0, none⟩) xs.length z1))
    have HXn := Aside0.mk (blk_put HX.out 1 (.slice (some ⟨g1, 0, none⟩) xs.length z1) rfl)
    have HCn := Aside0.mk (HC.out.setCell (p := ⟨w4.heap.size, 1, none⟩) hg (.slice (some ⟨g1, 0, none⟩) xs.length z1))
    clear HX H5 HC
    have HX := HXn
    have H5 := H5n
    have HC := HCn
    clear HXn H5n HCn
    have HACT := Aside0.mk (of_acted (d := ⟨code, xs ++ [x], dests, loops, cases⟩) (.a3 xs x rfl))
    have HRe := Aside0.mk ((HC.out.block _ HLT.out).trans HR.out)
    have HBe := Aside0.mk (below_step HB.out HC.out)
    have hw3 : w.heap.size ≤ w3.heap.size := HB.out.size
    obtain ⟨k0, k1, k2, k3, k4⟩ := cells5 (show (W6.setCell ⟨w4.heap.size, 1, none⟩ (.slice (some ⟨g1, 0, none⟩) xs.length z1)).heap[w4.heap.size]? = some (.cells #[.slice Z0 code.length z0, .slice (some ⟨g1, 0, none⟩) xs.length z1, .slice Z2 dests.length z2, .slice Z3 loops.length z3, .slice Z4 cases.length z4] _ _) from HX.out)
    obtain ⟨f0, f1, f2, f3, f4⟩ := frozen5 HRe.out
    obtain ⟨r0, r1, r2, r3, r4⟩ := cells5 (show (W6.setCell ⟨w4.heap.size, 1, none⟩ (.slice (some ⟨g1, 0, none⟩) xs.length z1)).heap[w.heap.size + 1]? = some (.cells #[.slice none 0 0, .slice none 0 0, .slice none 0 0, .slice none 0 0, .slice none 0 0] _ _) from HRe.out)
    have HG4 := Aside0.mk (blk_put5 HRe.out (.slice Z0 code.length z0) (.slice (some ⟨g1, 0, none⟩) xs.length z1) (.slice Z2 dests.length z2) (.slice Z3 loops.length z3) (.slice Z4 cases.length z4))
    have HBz := Aside0.mk (below_put5 HBe.out (Nat.le_succ _) (.slice Z0 code.length z0) (.slice (some ⟨g1, 0, none⟩) xs.length z1) (.slice Z2 dests.length z2) (.slice Z3 loops.length z3) (.slice Z4 cases.length z4))
    have H8 := Aside0.mk (H5.out.put5 HRe.out (.slice Z0 code.length z0) (.slice (some ⟨g1, 0, none⟩) xs.length z1) (.slice Z2 dests.length z2) (.slice Z3 loops.length z3) (.slice Z4 cases.length z4))
    clear HRe HBe HX H5 HC
    go_wp2_with fail
    obtain ⟨y0, y1, y2, y3, y4⟩ := cells5 HG4.out
    refine bodyPost_ret (v := .tuple #[.agg #[.slice Z0 code.length z0, .slice (some ⟨g1, 0, none⟩) xs.length z1, .slice Z2 dests.length z2, .slice Z3 loops.length z3, .slice Z4 cases.length z4], .int .i64 0]) (by simp [results, Try.results11, go_sem, y0, y1, y2, y3, y4]) rfl ?_
    rw [HACT.out]
    exact apost_mk HBz.out hw3 H8.out
  · obtain rfl : K = 0 := HK.out.symm
    clear HK HKK hact q4 q5
    obtain ⟨j0, j1, j2, j3, j4⟩ := cells5 (show W0.heap[w4.heap.size]? = some (.cells #[.slice Z0 code.length z0, .slice Z1 origs.length z1, .slice Z2 dests.length z2, .slice Z3 loops.length z3, .slice Z4 cases.length z4] _ _) from HX.out)
    go_wp2_with (at_builtin; refine R_append_at (Kd.int .i64) (w0 := w3) (W := W0) w3.heap.size (W0.heap.size) (by simp) rfl _ _ 23 3 (.int .i64 0) 8 rfl Try.underlying23 infoI rfl (by decide) (by decide) (.slice Z2 dests.length z2) (dests) ((code.length : Int)) [.int .i64 ((code.length : Int))] (fun k => new_ W0 oz 2 k = 2) (fun _ => False) rfl rfl rfl (fun _ h => h.elim) (fun k hk => new_new hk) (R_lt_mono H5.out.c3.hd (fun k hk hl => new_old hk hl)) HC.out HC.out.size (by omega) ?_)
    intro v' W6 hR hB1 hg1
    have hR : Kd.R (Kd.int .i64) 3 W6 w3.heap.size (fun k => new_ W0 oz 2 k = 2) v' (dests ++ [(code.length : Int)]) := by simpa using hR
    have hbk := blk_grown HX.out hg1 (Kd.R_ne H5.out.c3.hd HX.out (by decide))
    obtain ⟨N6, m6, rfl⟩ := Kd.R_slice hR
    have hl1 : (dests ++ [(code.length : Int)]).length = dests.length + 1 := by simp
    rw [hl1] at hR ⊢
    clear j0 j1 j2 j3 j4
    have H5n := Aside0.mk ((H5.out.app2 hR hg1).set hbk 2 (.slice N6 (dests.length + 1) m6))
    have HXn := Aside0.mk (blk_put hbk 2 (.slice N6 (dests.length + 1) m6) rfl)
    have HCn := Aside0.mk (hB1.setCell (p := ⟨w4.heap.size, 2, none⟩) hg (.slice N6 (dests.length + 1) m6))
    have fz := blk_frozen hbk 2
    have fx : W6.cell? ⟨w4.heap.size, 2, none⟩ = some (.slice Z2 dests.length z2) := (blk_cell hbk 2).trans rfl
    clear hbk hR hB1 hg1 hl1 HX H5 HC
    have HX := HXn
    have H5 := H5n
    have HC := HCn
    clear HXn H5n HCn
    have HACT := Aside0.mk (of_acted (d := ⟨code, origs, dests, loops, cases⟩) (.a4))
    have HRe := Aside0.mk ((HC.out.block _ HLT.out).trans HR.out)
    have HBe := Aside0.mk (below_step HB.out HC.out)
    have hw3 : w.heap.size ≤ w3.heap.size := HB.out.size
    obtain ⟨k0, k1, k2, k3, k4⟩ := cells5 (show (W6.setCell ⟨w4.heap.size, 2, none⟩ (.slice N6 (dests.length + 1) m6)).heap[w4.heap.size]? = some (.cells #[.slice Z0 code.length z0, .slice Z1 origs.length z1, .slice N6 (dests.length + 1) m6, .slice Z3 loops.length z3, .slice Z4 cases.length z4] _ _) from HX.out)
    obtain ⟨f0, f1, f2, f3, f4⟩ := frozen5 HRe.out
    obtain ⟨r0, r1, r2, r3, r4⟩ := cells5 (show (W6.setCell ⟨w4.heap.size, 2, none⟩ (.slice N6 (dests.length + 1) m6)).heap[w.heap.size + 1]? = some (.cells #[.slice none 0 0, .slice none 0 0, .slice none 0 0, .slice none 0 0, .slice none 0 0] _ _) from HRe.out)
    have HG4 := Aside0.mk (blk_put5 HRe.out (.slice Z0 code.length z0) (.slice Z1 origs.length z1) (.slice N6 (dests.length + 1) m6) (.slice Z3 loops.length z3) (.slice Z4 cases.length z4))
    have HBz := Aside0.mk (below_put5 HBe.out (Nat.le_succ _) (.slice Z0 code.length z0) (.slice Z1 origs.length z1) (.slice N6 (dests.length + 1) m6) (.slice Z3 loops.length z3) (.slice Z4 cases.length z4))
    have H8 := Aside0.mk (H5.out.put5 HRe.out (.slice Z0 code.length z0) (.slice Z1 origs.length z1) (.slice N6 (dests.length + 1) m6) (.slice Z3 loops.length z3) (.slice Z4 cases.length z4))
    clear HRe HBe HX H5 HC
    go_wp2_with fail
    obtain ⟨y0, y1, y2, y3, y4⟩ := cells5 HG4.out
    refine bodyPost_ret (v := .tuple #[.agg #[.slice Z0 code.length z0, .slice Z1 origs.length z1, .slice N6 (dests.length + 1) m6, .slice Z3 loops.length z3, .slice Z4 cases.length z4], .int .i64 0]) (by simp [results, Try.results11, go_sem, y0, y1, y2, y3, y4]) rfl ?_
    rw [HACT.out]
    exact apost_mk HBz.out hw3 H8.out
  · exact absurd HKK.out (by decide)
  · exact absurd HKK.out (by decide)
  · exact absurd HKK.out (by decide)
  · exact absurd HKK.out (by decide)
  · exact absurd HKK.out (by decide)
  · exact absurd HKK.out (by decide)
  · exact absurd HKK.out (by decide)
  · obtain rfl : K = 0 := HK.out.symm
    clear HK HKK hact q4 q5
    obtain ⟨j0, j1, j2, j3, j4⟩ := cells5 (show W0.heap[w4.heap.size]? = some (.cells #[.slice Z0 code.length z0, .slice Z1 origs.length z1, .slice Z2 dests.length z2, .slice Z3 loops.length z3, .slice Z4 cases.length z4] _ _) from HX.out)
    go_wp2_with (at_builtin; refine Kd.S_append k59 (w0 := w3) (W := W0) w3.heap.size rfl _ _ 24 59 (.agg #[(.int .i64 0), (.slice none 0 0)]) 32 rfl Try.underlying24 info59 rfl (by decide) (by decide) (.slice Z4 cases.length z4) cases ⟨-1, []⟩ [.int .i64 (-1), .slice none 0 0] (fun k => new_ W0 oz 4 k = 4) (fun _ => False) rfl rfl (k59_mkM _ _ _ ⟨-1, []⟩ (Kd.R_nil _ _ _ _ _)) (fun _ h => h.elim) (fun k hk => new_new hk) (S_lt_mono H5.out.hs (fun k hk hl => ⟨new_old hk hl, fun h => h⟩)) HC.out HC.out.size (by omega) ?_)
    intro v' W6 hR hB1 hg1 hat
    clear hat
    have hbk := blk_grown HX.out hg1 (Kd.R_ne (Kd.S_R H5.out.hs) HX.out (by decide))
    obtain ⟨N6, m6, rfl⟩ := Kd.S_slice hR
    have hl1 : (cases ++ [(⟨-1, []⟩ : S59)]).length = cases.length + 1 := by simp
    rw [hl1] at hR ⊢
    clear j0 j1 j2 j3 j4
    have H5n := Aside0.mk ((H5.out.app4 hR hg1).set hbk 4 (.slice N6 (cases.length + 1) m6))
    have HXn := Aside0.mk (blk_put hbk 4 (.slice N6 (cases.length + 1) m6) rfl)
    have HCn := Aside0.mk (hB1.setCell (p := ⟨w4.heap.size, 4, none⟩) hg (.slice N6 (cases.length + 1) m6))
    have fz := blk_frozen hbk 4
    have fx : W6.cell? ⟨w4.heap.size, 4, none⟩ = some (.slice Z4 cases.length z4) := (blk_cell hbk 4).trans rfl
    clear hbk hR hB1 hg1 hl1 HX H5 HC
    have HX := HXn
    have H5 := H5n
    have HC := HCn
    clear HXn H5n HCn
    have HACT := Aside0.mk (of_acted (d := ⟨code, origs, dests, loops, cases⟩) (.a12))
    have HRe := Aside0.mk ((HC.out.block _ HLT.out).trans HR.out)
    have HBe := Aside0.mk (below_step HB.out HC.out)
    have hw3 : w.heap.size ≤ w3.heap.size := HB.out.size
    obtain ⟨k0, k1, k2, k3, k4⟩ := cells5 (show (W6.setCell ⟨w4.heap.size, 4, none⟩ (.slice N6 (cases.length + 1) m6)).heap[w4.heap.size]? = some (.cells #[.slice Z0 code.length z0, .slice Z1 origs.length z1, .slice Z2 dests.length z2, .slice Z3 loops.length z3, .slice N6 (cases.length + 1) m6] _ _) from HX.out)
    obtain ⟨f0, f1, f2, f3, f4⟩ := frozen5 HRe.out
    obtain ⟨r0, r1, r2, r3, r4⟩ := cells5 (show (W6.setCell ⟨w4.heap.size, 4, none⟩ (.slice N6 (cases.length + 1) m6)).heap[w.heap.size + 1]? = some (.cells #[.slice none 0 0, .slice none 0 0, .slice none 0 0, .slice none 0 0, .slice none 0 0] _ _) from HRe.out)
    have HG4 := Aside0.mk (blk_put5 HRe.out (.slice Z0 code.length z0) (.slice Z1 origs.length z1) (.slice Z2 dests.length z2) (.slice Z3 loops.length z3) (.slice N6 (cases.length + 1) m6))
    have HBz := Aside0.mk (below_put5 HBe.out (Nat.le_succ _) (.slice Z0 code.length z0) (.slice Z1 origs.length z1) (.slice Z2 dests.length z2) (.slice Z3 loops.length z3) (.slice N6 (cases.length + 1) m6))
    have H8 := Aside0.mk (H5.out.put5 HRe.out (.slice Z0 code.length z0) (.slice Z1 origs.length z1) (.slice Z2 dests.length z2) (.slice Z3 loops.length z3) (.slice N6 (cases.length + 1) m6))
    clear HRe HBe HX H5 HC
    go_wp2_with fail
    obtain ⟨y0, y1, y2, y3, y4⟩ := cells5 HG4.out
    refine bodyPost_ret (v := .tuple #[.agg #[.slice Z0 code.length z0, .slice Z1 origs.length z1, .slice Z2 dests.length z2, .slice Z3 loops.length z3, .slice N6 (cases.length + 1) m6], .int .i64 0]) (by simp [results, Try.results11, go_sem, y0, y1, y2, y3, y4]) rfl ?_
    rw [HACT.out]
    exact apost_mk HBz.out hw3 H8.out
  · exact absurd HKK.out (by decide)
  · exact absurd HKK.out (by decide)
  · exact absurd HKK.out (by decide)
theorem ract_calls (h : DrC w A0 A1 A2 A3 A4 c0 c1 c2 c3 c4 code origs dests loops cases) (hs : Small code origs dests loops cases) (hm : Room ⟨code, origs, dests, loops, cases⟩) :
    Calls Try.prog 11 #[drV A0 A1 A2 A3 A4 c0 c1 c2 c3 c4 code.length origs.length dests.length loops.length cases.length, .int .i64 a] w (APost w (if formedP code origs dests loops cases = true then actP ⟨code, origs, dests, loops, cases⟩ a else .inr 1)) := by
  by_cases hf : formedP code origs dests loops cases = true
  · rw [if_pos hf]
    by_cases h0 : a < 1 ∨ 15 < a
    · rw [actP_none h0]
      exact ract_range A0 A1 A2 A3 A4 c0 c1 c2 c3 c4 code origs dests loops cases a w h hf h0
    · have ha : 1 ≤ a ∧ a ≤ 15 := by omega
      cases hlk : lacksP ⟨code, origs, dests, loops, cases⟩ a with
      | true =>
        rw [lacks_act ha hlk]
        exact ract_lacks A0 A1 A2 A3 A4 c0 c1 c2 c3 c4 code origs dests loops cases a w h hf hm ha hlk
      | false =>
        by_cases hk : laidP a = 0
        · exact ract_ok0 A0 A1 A2 A3 A4 c0 c1 c2 c3 c4 code origs dests loops cases a w h hf hs hm ha hlk hk
        · by_cases hl : code.length < 256
          · exact ract_ok1 A0 A1 A2 A3 A4 c0 c1 c2 c3 c4 code origs dests loops cases a w h hf hs hm ha hlk hk hl
          · rw [long_act ha hlk hk hl]
            exact ract_long A0 A1 A2 A3 A4 c0 c1 c2 c3 c4 code origs dests loops cases a w h hf hm ha hlk hk hl
  · rw [if_neg hf]
    exact ract_bad A0 A1 A2 A3 A4 c0 c1 c2 c3 c4 code origs dests loops cases a w h (by simpa using hf)
end
end Go.Proofs.Ytmglkgjnhoojaaa.PCodeRows
