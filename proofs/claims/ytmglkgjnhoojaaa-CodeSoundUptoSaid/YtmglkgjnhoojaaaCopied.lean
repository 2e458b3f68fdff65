/- copied (22): a draft with rows of its own. -/
import Derived.Test.YtmglkgjnhoojaaaOpens
namespace Go.Proofs.Ytmglkgjnhoojaaa.PCodeRows
open Go.RowKit Go.Proofs.YtmglkgjnhoojaaaW.PrintWords Go.Proofs.YtmglkgjnhoojaaaW.PrintLast Go.Proofs.YtmglkgjnhoojaaaW.PrintMore
set_option linter.unusedVariables false
set_option linter.unusedSimpArgs false
theorem cloned_R {w w' : World} {v : Value} {l : List Int} {o : Nat → Nat} {i : Nat} (h : Cloned (Kd.int .i64) 3 l w v w') : Kd.R (Kd.int .i64) 3 w' w.heap.size (fun k => new_ w o i k = i) v l := by
  have h1 : Kd.R (Kd.int .i64) 3 w' w.heap.size (fun _ => True) v l := ⟨fun _ _ => trivial, h.1.imp_ (fun p c hp => hp)⟩
  exact Kd.R_mono (Kd.R_bound h1) (fun k hk => new_new hk.2.1)
theorem cloned_R37 {w w' : World} {v : Value} {l : List S37} (h : Cloned k37 37 l w v w') : Kd.R k37 37 w' w.heap.size (fun _ => True) v l :=
  ⟨fun _ _ => trivial, h.1.imp_ (fun p c hp => by have := k37_open hp; subst this; exact k37_mkM _ _ _ p)⟩
/-- What a draft asks to be copied. -/
structure Small (code : List S37) (origs dests : List Int) (loops cases : List S59) : Prop where
  s0 : code.length * 16 ≤ 140737488355328
  s1 : origs.length * 8 ≤ 140737488355328
  s2 : dests.length * 8 ≤ 140737488355328
  s3 : loops.length * 32 ≤ 140737488355328
  s4 : cases.length * 32 ≤ 140737488355328
  s5 : ∀ x ∈ loops, x.f1.length * 8 ≤ 140737488355328
  s6 : ∀ x ∈ cases, x.f1.length * 8 ≤ 140737488355328
theorem n26a {q : Nat} (h : q ∈ 37 :: k37.E) : q ≠ 26 := by
  have : k37.E = [] := rfl
  rw [this] at h; simp at h; omega
theorem n26b {q : Nat} (h : q ∈ 3 :: (Kd.int .i64).E) : q ≠ 26 := by have := q3 h; omega
theorem n26c {q : Nat} (h : q ∈ 59 :: k59.E) : q ≠ 26 := by have := q59 h; omega
/-- The first three rows of a copy. -/
structure C3 (w : World) (base : Nat) (v0 v1 v2 : Value) (o : Nat → Nat) (code : List S37) (origs dests : List Int) : Prop where
  hc : Kd.R k37 37 w base (fun _ => True) v0 code
  ho : Kd.R (Kd.int .i64) 3 w base (fun k => o k = 1) v1 origs
  hd : Kd.R (Kd.int .i64) 3 w base (fun k => o k = 2) v2 dests
theorem C3.below {w w1 : World} {base : Nat} {v0 v1 v2 : Value} {o : Nat → Nat} {code : List S37} {origs dests : List Int} (h : C3 w base v0 v1 v2 o code origs dests) (hb : Below w.heap.size w w1) (i : Nat) (hi : 2 < i) : C3 w1 base v0 v1 v2 (new_ w o i) code origs dests :=
  ⟨Kd.R_below h.hc hb, Kd.R_below (R_lt_mono h.ho (fun k hk hl => new_old hk hl)) hb, Kd.R_below (R_lt_mono h.hd (fun k hk hl => new_old hk hl)) hb⟩
theorem C3.set {w : World} {base g : Nat} {v0 v1 v2 : Value} {o : Nat → Nat} {code : List S37} {origs dests : List Int} {cs : Array Value} (h : C3 w base v0 v1 v2 o code origs dests) (hb : w.heap[g]? = some (.cells cs 26 (0, 0))) (j : Nat) (u : Value) : C3 (w.setCell ⟨g, j, none⟩ u) base v0 v1 v2 o code origs dests :=
  ⟨Kd.R_set h.hc hb (fun q hq => n26a hq) j u, Kd.R_set h.ho hb (fun q hq => n26b hq) j u, Kd.R_set h.hd hb (fun q hq => n26b hq) j u⟩
/-- The five rows of a copy. -/
structure C5 (w : World) (base : Nat) (v0 v1 v2 v3 v4 : Value) (o : Nat → Nat) (code : List S37) (origs dests : List Int) (loops cases : List S59) : Prop where
  c3 : C3 w base v0 v1 v2 o code origs dests
  hl : Kd.S k59 59 w base (fun k => o k = 3) v3 loops
  hs : Kd.S k59 59 w base (fun k => o k = 4) v4 cases
theorem C5.set {w : World} {base g : Nat} {v0 v1 v2 v3 v4 : Value} {o : Nat → Nat} {code : List S37} {origs dests : List Int} {loops cases : List S59} {cs : Array Value} (h : C5 w base v0 v1 v2 v3 v4 o code origs dests loops cases) (hb : w.heap[g]? = some (.cells cs 26 (0, 0))) (j : Nat) (u : Value) : C5 (w.setCell ⟨g, j, none⟩ u) base v0 v1 v2 v3 v4 o code origs dests loops cases :=
  ⟨h.c3.set hb j u, Kd.S_set h.hl hb (fun q hq => n26c hq) j u, Kd.S_set h.hs hb (fun q hq => n26c hq) j u⟩
set_option maxHeartbeats 4000000 in
theorem copied_calls (A0 A1 A2 A3 A4 : Option Addr) (c0 c1 c2 c3 c4 : Nat) (code : List S37) (origs dests : List Int) (loops cases : List S59) (w : World) (h : DrC w A0 A1 A2 A3 A4 c0 c1 c2 c3 c4 code origs dests loops cases) (hs : Small code origs dests loops cases) :
    Calls Try.prog 22 #[drV A0 A1 A2 A3 A4 c0 c1 c2 c3 c4 code.length origs.length dests.length loops.length cases.length] w fun e w' => ∃ (v0 v1 v2 v3 v4 : Value) (o : Nat → Nat), e = .returned (.agg #[v0, v1, v2, v3, v4]) ∧ C5 w' w.heap.size v0 v1 v2 v3 v4 o code origs dests loops cases ∧ Below w.heap.size w w' := by
  go_enter Try.func22, Try.ntmps22
  go_wp2_with fail
  have hsz : (w.alloc (.cells #[.slice A0 code.length c0, .slice A1 origs.length c1, .slice A2 dests.length c2, .slice A3 loops.length c3, .slice A4 cases.length c4] 26)).heap.size = w.heap.size + 1 := by simp
  have HD0 := blk_alloc (blk_new w (.cells #[.slice A0 code.length c0, .slice A1 origs.length c1, .slice A2 dests.length c2, .slice A3 loops.length c3, .slice A4 cases.length c4] 26)) (.cells #[.slice none 0 0, .slice none 0 0, .slice none 0 0, .slice none 0 0, .slice none 0 0] 26)
  have HR0 := blk_new (w.alloc (.cells #[.slice A0 code.length c0, .slice A1 origs.length c1, .slice A2 dests.length c2, .slice A3 loops.length c3, .slice A4 cases.length c4] 26)) (.cells #[.slice none 0 0, .slice none 0 0, .slice none 0 0, .slice none 0 0, .slice none 0 0] 26)
  rw [hsz] at HR0
  have HB0 := below_alloc (below_alloc (Below.refl w.heap.size w) (.cells #[.slice A0 code.length c0, .slice A1 origs.length c1, .slice A2 dests.length c2, .slice A3 loops.length c3, .slice A4 cases.length c4] 26)) (.cells #[.slice none 0 0, .slice none 0 0, .slice none 0 0, .slice none 0 0, .slice none 0 0] 26)
  clear hsz
  generalize (w.alloc (.cells #[.slice A0 code.length c0, .slice A1 origs.length c1, .slice A2 dests.length c2, .slice A3 loops.length c3, .slice A4 cases.length c4] 26)).alloc (.cells #[.slice none 0 0, .slice none 0 0, .slice none 0 0, .slice none 0 0, .slice none 0 0] 26) = wq at HD0 HR0 HB0 ⊢
  have hdr : w.heap.size ≠ w.heap.size + 1 := by omega
  have hdd : w.heap.size ≤ w.heap.size := Nat.le_refl _
  have hrr : w.heap.size ≤ w.heap.size + 1 := by omega
  have HH := Aside0.mk h
  have HSM := Aside0.mk hs
  clear h hs
  generalize hdw : w.heap.size = base at HB0 hdd hrr hdr ⊢
  rw [hdw] at HD0 HR0
  generalize hrw : base + 1 = rr at HR0 hrr hdr ⊢
  have hS : wq.cell? ⟨base, 0, none⟩ = some (.slice A0 code.length c0) ∧ wq.cell? ⟨base, 1, none⟩ = some (.slice A1 origs.length c1) ∧ wq.cell? ⟨base, 2, none⟩ = some (.slice A2 dests.length c2) := ⟨(blk_cell HD0 0).trans rfl, (blk_cell HD0 1).trans rfl, (blk_cell HD0 2).trans rfl⟩
  refine start_ (n := 15) (S := fun w' => w'.cell? ⟨base, 0, none⟩ = some (.slice A0 code.length c0) ∧ w'.cell? ⟨base, 1, none⟩ = some (.slice A1 origs.length c1) ∧ w'.cell? ⟨base, 2, none⟩ = some (.slice A2 dests.length c2)) (ds := [10, 12, 14]) #[false, false, false, false, false, false, false, false, false, false, false, false, false, false, false] (by kernel_rfl) rfl rfl (hS) (fun hHeld => ?_)
  refine with_tab (rfl : rtab .any (opsOf Try.f22 1) = rtab .any (opsOf Try.f22 1)) (fun HT_ => ?_)
  have HDd := blk_drew HD0
  have HRd := blk_drew HR0
  have HBd := below_drew HB0
  clear HD0 HR0 HB0 hS
  generalize wq.drew = wa at HDd HRd HBd hHeld ⊢
  refine pure_ (i := 0) (N := some 3) (v := ?_) (a' := ?_) #[true, false, false, false, false, false, false, false, false, false, false, false, false, false, false] rfl rfl (any_of HT_.out (by kernel_rfl)) (fun _ _ _ h => h) (Or.inl ⟨by rfl, ?_⟩) ?_ ?_
  rotate_left
  · intro w'
    go_simp
    with_reducible rfl
  rotate_left
  · simp only [Act.put, List.setIfInBounds_toArray, List.set_cons_zero, List.set_cons_succ, i64_w, i32_w]
    rfl
  refine pure_ (i := 3) (N := some 6) (v := ?_) (a' := ?_) #[true, false, false, true, false, false, false, false, false, false, false, false, false, false, false] rfl rfl (any_of HT_.out (by kernel_rfl)) (fun _ _ _ h => h) (Or.inl ⟨by rfl, ?_⟩) ?_ ?_
  rotate_left
  · intro w'
    go_simp
    with_reducible rfl
  rotate_left
  · simp only [Act.put, List.setIfInBounds_toArray, List.set_cons_zero, List.set_cons_succ, i64_w, i32_w]
    rfl
  refine pure_ (i := 6) (N := some 9) (v := ?_) (a' := ?_) #[true, false, false, true, false, false, true, false, false, false, false, false, false, false, false] rfl rfl (any_of HT_.out (by kernel_rfl)) (fun _ _ _ h => h) (Or.inl ⟨by rfl, ?_⟩) ?_ ?_
  rotate_left
  · intro w'
    go_simp
    with_reducible rfl
  rotate_left
  · simp only [Act.put, List.setIfInBounds_toArray, List.set_cons_zero, List.set_cons_succ, i64_w, i32_w]
    rfl
  refine take_ (i := 1) (N := some 4) (v := ?_) (a' := ?_) #[true, true, false, true, false, false, true, false, false, false, false, false, false, false, false] rfl rfl (take_of HT_.out (by kernel_rfl)) (fun _ _ _ h => h) (Or.inl ⟨by rfl, ?_⟩) hHeld ?_ ?_
  rotate_left
  · rintro w' hS; go_split_ands
    go_simp
    with_reducible rfl
  rotate_left
  · simp only [Act.put, List.setIfInBounds_toArray, List.set_cons_zero, List.set_cons_succ, i64_w, i32_w]
    rfl
  refine take_ (i := 4) (N := some 7) (v := ?_) (a' := ?_) #[true, true, false, true, true, false, true, false, false, false, false, false, false, false, false] rfl rfl (take_of HT_.out (by kernel_rfl)) (fun _ _ _ h => h) (Or.inl ⟨by rfl, ?_⟩) hHeld ?_ ?_
  rotate_left
  · rintro w' hS; go_split_ands
    go_simp
    with_reducible rfl
  rotate_left
  · simp only [Act.put, List.setIfInBounds_toArray, List.set_cons_zero, List.set_cons_succ, i64_w, i32_w]
    rfl
  refine take_ (i := 7) (N := some 10) (v := ?_) (a' := ?_) #[true, true, false, true, true, false, true, true, false, false, false, false, false, false, false] rfl rfl (take_of HT_.out (by kernel_rfl)) (fun _ _ _ h => h) (Or.inl ⟨by rfl, ?_⟩) hHeld ?_ ?_
  rotate_left
  · rintro w' hS; go_split_ands
    go_simp
    with_reducible rfl
  rotate_left
  · simp only [Act.put, List.setIfInBounds_toArray, List.set_cons_zero, List.set_cons_succ, i64_w, i32_w]
    rfl
  refine one_ (i := 2) (N := some 5) #[true, true, true, true, true, false, true, true, false, false, false, false, false, false, false] rfl rfl (one_of HT_.out (by kernel_rfl)) (by decide) (fun K hK => ?_)
  refine goes_ Try.func36 (by kernel_rfl) rfl #[.slice A0 code.length c0] (by rfl) rfl rfl (by simp only [List.map_toArray, List.map_cons, List.map_nil]; rfl) ?_
  with_reducible refine (clone36_calls A0 c0 code wa (Kd.C_below HH.out.r0 (by rw [hdw]; exact HBd)) HSM.out.s0).mono ?_
  rintro e w1 ⟨v0, rfl, hC0⟩
  refine ⟨_, rfl, ?_⟩
  have hz0 : base ≤ wa.heap.size := by have := HBd.size; omega
  have HD0 := blk_below HDd hC0.2
  have HR0 := blk_below HRd hC0.2
  have HB0 := below_then HBd (by have := HBd.size; omega) hC0.2
  have hS : w1.cell? ⟨base, 0, none⟩ = some (.slice A0 code.length c0) ∧ w1.cell? ⟨base, 1, none⟩ = some (.slice A1 origs.length c1) ∧ w1.cell? ⟨base, 2, none⟩ = some (.slice A2 dests.length c2) := ⟨(blk_cell HD0 0).trans rfl, (blk_cell HD0 1).trans rfl, (blk_cell HD0 2).trans rfl⟩
  clear HDd HRd HBd
  have HDd := HD0
  have HRd := HR0
  have HBd := HB0
  clear HD0 HR0 HB0
  refine hK.out _ _ (hS) (fun hHeld => ?_)
  clear hK K
  refine norm_ (a' := ?_) ?_ ?_
  rotate_left
  · show Act.put _ (some 5) _ = _
    simp only [Act.put, List.setIfInBounds_toArray, List.set_cons_zero, List.set_cons_succ, i64_w, i32_w]
    rfl
  refine pure_ (i := 9) (N := some 12) (v := ?_) (a' := ?_) #[true, true, true, true, true, false, true, true, false, true, false, false, false, false, false] rfl rfl (any_of HT_.out (by kernel_rfl)) (fun _ _ _ h => h) (Or.inl ⟨by rfl, ?_⟩) ?_ ?_
  rotate_left
  · intro w'
    go_simp
    with_reducible rfl
  rotate_left
  · simp only [Act.put, List.setIfInBounds_toArray, List.set_cons_zero, List.set_cons_succ, i64_w, i32_w]
    rfl
  refine one_ (i := 5) (N := some 8) #[true, true, true, true, true, true, true, true, false, true, false, false, false, false, false] rfl rfl (one_of HT_.out (by kernel_rfl)) (by decide) (fun K hK => ?_)
  refine goes_ Try.func37 (by kernel_rfl) rfl #[.slice A1 origs.length c1] (by rfl) rfl rfl (by simp only [List.map_toArray, List.map_cons, List.map_nil]; rfl) ?_
  with_reducible refine (clone37_calls A1 c1 origs w1 (Kd.C_below HH.out.r1 (by rw [hdw]; exact HBd)) HSM.out.s1).mono ?_
  rintro e w2 ⟨v1, rfl, hC1⟩
  refine ⟨_, rfl, ?_⟩
  have hz1 : base ≤ w1.heap.size := by have := HBd.size; omega
  have HD0 := blk_below HDd hC1.2
  have HR0 := blk_below HRd hC1.2
  have HB0 := below_then HBd (by have := HBd.size; omega) hC1.2
  have hS : w2.cell? ⟨base, 0, none⟩ = some (.slice A0 code.length c0) ∧ w2.cell? ⟨base, 1, none⟩ = some (.slice A1 origs.length c1) ∧ w2.cell? ⟨base, 2, none⟩ = some (.slice A2 dests.length c2) := ⟨(blk_cell HD0 0).trans rfl, (blk_cell HD0 1).trans rfl, (blk_cell HD0 2).trans rfl⟩
  clear HDd HRd HBd
  have HDd := HD0
  have HRd := HR0
  have HBd := HB0
  clear HD0 HR0 HB0
  refine hK.out _ _ (hS) (fun hHeld => ?_)
  clear hK K
  refine norm_ (a' := ?_) ?_ ?_
  rotate_left
  · show Act.put _ (some 8) _ = _
    simp only [Act.put, List.setIfInBounds_toArray, List.set_cons_zero, List.set_cons_succ, i64_w, i32_w]
    rfl
  refine one_ (i := 8) (N := some 11) #[true, true, true, true, true, true, true, true, true, true, false, false, false, false, false] rfl rfl (one_of HT_.out (by kernel_rfl)) (by decide) (fun K hK => ?_)
  refine goes_ Try.func37 (by kernel_rfl) rfl #[.slice A2 dests.length c2] (by rfl) rfl rfl (by simp only [List.map_toArray, List.map_cons, List.map_nil]; rfl) ?_
  with_reducible refine (clone37_calls A2 c2 dests w2 (Kd.C_below HH.out.r2 (by rw [hdw]; exact HBd)) HSM.out.s2).mono ?_
  rintro e w3 ⟨v2, rfl, hC2⟩
  refine ⟨_, rfl, ?_⟩
  have hz2 : base ≤ w2.heap.size := by have := HBd.size; omega
  have HD0 := blk_below HDd hC2.2
  have HR0 := blk_below HRd hC2.2
  have HB0 := below_then HBd (by have := HBd.size; omega) hC2.2
  have hS : w3.cell? ⟨base, 0, none⟩ = some (.slice A0 code.length c0) ∧ w3.cell? ⟨base, 1, none⟩ = some (.slice A1 origs.length c1) ∧ w3.cell? ⟨base, 2, none⟩ = some (.slice A2 dests.length c2) := ⟨(blk_cell HD0 0).trans rfl, (blk_cell HD0 1).trans rfl, (blk_cell HD0 2).trans rfl⟩
  clear HDd HRd HBd
  have HDd := HD0
  have HRd := HR0
  have HBd := HB0
  clear HD0 HR0 HB0
  obtain ⟨Av0, cv0, rfl, _⟩ := hC0.1.slice_
  obtain ⟨Av1, cv1, rfl, _⟩ := hC1.1.slice_
  obtain ⟨Av2, cv2, rfl, _⟩ := hC2.1.slice_
  have e1 := blk_put HDd 0 (.slice Av0 code.length cv0) rfl
  have e2 := blk_put e1 1 (.slice Av1 origs.length cv1) rfl
  have e3 := blk_put e2 2 (.slice Av2 dests.length cv2) rfl
  have hf0 := blk_frozen HDd 0
  have hf1 := blk_frozen e1 1
  have hf2 := blk_frozen e2 2
  have hq0 := (blk_cell HDd 0).trans rfl
  have hq1 := (blk_cell e1 1).trans rfl
  have hq2 := (blk_cell e2 2).trans rfl
  refine hK.out _ _ (hS) (fun hHeld => ?_)
  clear hK K
  refine norm_ (a' := ?_) ?_ ?_
  rotate_left
  · show Act.put _ (some 11) _ = _
    simp only [Act.put, List.setIfInBounds_toArray, List.set_cons_zero, List.set_cons_succ, i64_w, i32_w]
    rfl
  refine last_ (i := 10) (N := none) #[true, true, true, true, true, true, true, true, true, true, true, false, false, false, false] rfl rfl (one_of HT_.out (by kernel_rfl)) (by decide) (fun K hK => ?_)
  go_simp
  refine hK.out _ _ ?_
  clear hK K
  refine pure_ (i := 11) (N := some 13) (v := ?_) (a' := ?_) #[true, true, true, true, true, true, true, true, true, true, true, true, false, false, false] rfl rfl (any_of HT_.out (by kernel_rfl)) (fun _ _ _ h => h) (Or.inl ⟨by rfl, ?_⟩) ?_ ?_
  rotate_left
  · intro w'
    go_simp
    with_reducible rfl
  rotate_left
  · simp only [Act.put, List.setIfInBounds_toArray, List.set_cons_zero, List.set_cons_succ, i64_w, i32_w]
    rfl
  refine last_ (i := 12) (N := none) #[true, true, true, true, true, true, true, true, true, true, true, true, true, false, false] rfl rfl (one_of HT_.out (by kernel_rfl)) (by decide) (fun K hK => ?_)
  go_simp
  refine hK.out _ _ ?_
  clear hK K
  refine pure_ (i := 13) (N := some 14) (v := ?_) (a' := ?_) #[true, true, true, true, true, true, true, true, true, true, true, true, true, true, false] rfl rfl (any_of HT_.out (by kernel_rfl)) (fun _ _ _ h => h) (Or.inl ⟨by rfl, ?_⟩) ?_ ?_
  rotate_left
  · intro w'
    go_simp
    with_reducible rfl
  rotate_left
  · simp only [Act.put, List.setIfInBounds_toArray, List.set_cons_zero, List.set_cons_succ, i64_w, i32_w]
    rfl
  refine last_ (i := 14) (N := none) #[true, true, true, true, true, true, true, true, true, true, true, true, true, true, true] rfl rfl (one_of HT_.out (by kernel_rfl)) (by decide) (fun K hK => ?_)
  go_simp
  refine hK.out _ _ ?_
  clear hK K
  refine done_ (done_of HT_.out (by kernel_rfl)) ?_
  clear HT_ hHeld hS hf0 hf1 hf2 hq0 hq1 hq2
  have hv0 := Kd.R_below (Kd.R_below (Kd.R_lower (cloned_R37 hC0) hz0) hC1.2) hC2.2
  have hv1 := Kd.R_below (R_lt_mono (ok' := fun k => new_ w2 (new_ w1 (fun _ => 0) 1) 2 k = 1) (Kd.R_lower (cloned_R (o := fun _ => 0) (i := 1) hC1) hz1) (fun k hk hl => new_old hk hl)) hC2.2
  have hv2 := Kd.R_lower (cloned_R (o := new_ w1 (fun _ => 0) 1) (i := 2) hC2) hz2
  have h3 := (((C3.mk hv0 hv1 hv2).set HDd 0 (.slice Av0 code.length cv0)).set e1 1 (.slice Av1 origs.length cv1)).set e2 2 (.slice Av2 dests.length cv2)
  have HD4 : (((w3.setCell ⟨base, 0, none⟩ (.slice Av0 code.length cv0)).setCell ⟨base, 1, none⟩ (.slice Av1 origs.length cv1)).setCell ⟨base, 2, none⟩ (.slice Av2 dests.length cv2)).heap[base]? = some (.cells #[.slice Av0 code.length cv0, .slice Av1 origs.length cv1, .slice Av2 dests.length cv2, .slice A3 loops.length c3, .slice A4 cases.length c4] 26 (0, 0)) := e3
  have HR4 := blk_far (blk_far (blk_far HRd (p := ⟨base, 0, none⟩) (Ne.symm hdr) (.slice Av0 code.length cv0)) (p := ⟨base, 1, none⟩) (Ne.symm hdr) (.slice Av1 origs.length cv1)) (p := ⟨base, 2, none⟩) (Ne.symm hdr) (.slice Av2 dests.length cv2)
  have HB4 := ((HBd.setCell (p := ⟨base, 0, none⟩) hdd (.slice Av0 code.length cv0)).setCell (p := ⟨base, 1, none⟩) hdd (.slice Av1 origs.length cv1)).setCell (p := ⟨base, 2, none⟩) hdd (.slice Av2 dests.length cv2)
  clear hv0 hv1 hv2 e1 e2 e3 HDd HRd HBd hC0 hC1 hC2
  generalize new_ w2 (new_ w1 (fun _ => 0) 1) 2 = o2 at h3
  generalize ((w3.setCell ⟨base, 0, none⟩ (.slice Av0 code.length cv0)).setCell ⟨base, 1, none⟩ (.slice Av1 origs.length cv1)).setCell ⟨base, 2, none⟩ (.slice Av2 dests.length cv2) = w4 at h3 HD4 HR4 HB4 ⊢
  have hS : w4.cell? ⟨base, 3, none⟩ = some (.slice A3 loops.length c3) ∧ w4.cell? ⟨base, 4, none⟩ = some (.slice A4 cases.length c4) := ⟨(blk_cell HD4 3).trans rfl, (blk_cell HD4 4).trans rfl⟩
  go_wp2_with fail
  refine start_ (n := 10) (S := fun w' => w'.cell? ⟨base, 3, none⟩ = some (.slice A3 loops.length c3) ∧ w'.cell? ⟨base, 4, none⟩ = some (.slice A4 cases.length c4)) (ds := [7, 9]) #[false, false, false, false, false, false, false, false, false, false] (by kernel_rfl) rfl rfl (hS) (fun hHeld => ?_)
  refine with_tab (rfl : rtab .any (opsOf Try.f22 2) = rtab .any (opsOf Try.f22 2)) (fun HT_ => ?_)
  have HDd := blk_drew HD4
  have HRd := blk_drew HR4
  have HBd := below_drew HB4
  have h3d := h3.below (below_drew (Below.refl _ _)) 9 (by decide)
  clear HD4 HR4 HB4 hS h3
  generalize w4.drew = wb at HDd HRd HBd h3d hHeld ⊢
  generalize new_ w4 o2 9 = o3 at h3d
  refine pure_ (i := 0) (N := some 15) (v := ?_) (a' := ?_) #[true, false, false, false, false, false, false, false, false, false] rfl rfl (any_of HT_.out (by kernel_rfl)) (fun _ _ _ h => h) (Or.inl ⟨by rfl, ?_⟩) ?_ ?_
  rotate_left
  · intro w'
    go_simp
    with_reducible rfl
  rotate_left
  · simp only [Act.put, List.setIfInBounds_toArray, List.set_cons_zero, List.set_cons_succ, i64_w, i32_w]
    rfl
  refine pure_ (i := 3) (N := some 18) (v := ?_) (a' := ?_) #[true, false, false, true, false, false, false, false, false, false] rfl rfl (any_of HT_.out (by kernel_rfl)) (fun _ _ _ h => h) (Or.inl ⟨by rfl, ?_⟩) ?_ ?_
  rotate_left
  · intro w'
    go_simp
    with_reducible rfl
  rotate_left
  · simp only [Act.put, List.setIfInBounds_toArray, List.set_cons_zero, List.set_cons_succ, i64_w, i32_w]
    rfl
  refine take_ (i := 1) (N := some 16) (v := ?_) (a' := ?_) #[true, true, false, true, false, false, false, false, false, false] rfl rfl (take_of HT_.out (by kernel_rfl)) (fun _ _ _ h => h) (Or.inl ⟨by rfl, ?_⟩) hHeld ?_ ?_
  rotate_left
  · rintro w' hS; go_split_ands
    go_simp
    with_reducible rfl
  rotate_left
  · simp only [Act.put, List.setIfInBounds_toArray, List.set_cons_zero, List.set_cons_succ, i64_w, i32_w]
    rfl
  refine take_ (i := 4) (N := some 19) (v := ?_) (a' := ?_) #[true, true, false, true, true, false, false, false, false, false] rfl rfl (take_of HT_.out (by kernel_rfl)) (fun _ _ _ h => h) (Or.inl ⟨by rfl, ?_⟩) hHeld ?_ ?_
  rotate_left
  · rintro w' hS; go_split_ands
    go_simp
    with_reducible rfl
  rotate_left
  · simp only [Act.put, List.setIfInBounds_toArray, List.set_cons_zero, List.set_cons_succ, i64_w, i32_w]
    rfl
  refine one_ (i := 2) (N := some 17) #[true, true, true, true, true, false, false, false, false, false] rfl rfl (one_of HT_.out (by kernel_rfl)) (by decide) (fun K hK => ?_)
  refine goes_ Try.func38 (by kernel_rfl) rfl #[.slice A3 loops.length c3] (by rfl) rfl rfl (by simp only [List.map_toArray, List.map_cons, List.map_nil]; rfl) ?_
  with_reducible refine (opens_calls A3 c3 loops wb (Kd.C_below HH.out.r3 (by rw [hdw]; exact HBd)) HSM.out.s3 HSM.out.s5).mono ?_
  rintro e w5 ⟨v3, rfl, hl5, hb5⟩
  refine ⟨_, rfl, ?_⟩
  have hz5 : base ≤ wb.heap.size := by have := HBd.size; omega
  have hl5b := Kd.S_lower (Kd.S_mono (Kd.S_bound hl5) (ok' := fun k => new_ wb o3 3 k = 3) (fun k hk => new_new hk.2.1)) hz5
  have h35 := h3d.below hb5 3 (by decide)
  replace HDd := blk_below HDd hb5
  replace HRd := blk_below HRd hb5
  replace HBd := below_then HBd hz5 hb5
  have hS : w5.cell? ⟨base, 3, none⟩ = some (.slice A3 loops.length c3) ∧ w5.cell? ⟨base, 4, none⟩ = some (.slice A4 cases.length c4) := ⟨(blk_cell HDd 3).trans rfl, (blk_cell HDd 4).trans rfl⟩
  clear h3d hl5 hb5 hz5
  generalize new_ wb o3 3 = o5 at hl5b h35
  refine hK.out _ _ (hS) (fun hHeld => ?_)
  clear hK K
  refine norm_ (a' := ?_) ?_ ?_
  rotate_left
  · show Act.put _ (some 17) _ = _
    simp only [Act.put, List.setIfInBounds_toArray, List.set_cons_zero, List.set_cons_succ, i64_w, i32_w]
    rfl
  refine pure_ (i := 6) (N := some 21) (v := ?_) (a' := ?_) #[true, true, true, true, true, false, true, false, false, false] rfl rfl (any_of HT_.out (by kernel_rfl)) (fun _ _ _ h => h) (Or.inl ⟨by rfl, ?_⟩) ?_ ?_
  rotate_left
  · intro w'
    go_simp
    with_reducible rfl
  rotate_left
  · simp only [Act.put, List.setIfInBounds_toArray, List.set_cons_zero, List.set_cons_succ, i64_w, i32_w]
    rfl
  refine one_ (i := 5) (N := some 20) #[true, true, true, true, true, true, true, false, false, false] rfl rfl (one_of HT_.out (by kernel_rfl)) (by decide) (fun K hK => ?_)
  refine goes_ Try.func38 (by kernel_rfl) rfl #[.slice A4 cases.length c4] (by rfl) rfl rfl (by simp only [List.map_toArray, List.map_cons, List.map_nil]; rfl) ?_
  with_reducible refine (opens_calls A4 c4 cases w5 (Kd.C_below HH.out.r4 (by rw [hdw]; exact HBd)) HSM.out.s4 HSM.out.s6).mono ?_
  rintro e w6 ⟨v4, rfl, hl6, hb6⟩
  refine ⟨_, rfl, ?_⟩
  have hz6 : base ≤ w5.heap.size := by have := HBd.size; omega
  have hl6b := Kd.S_lower (Kd.S_mono (Kd.S_bound hl6) (ok' := fun k => new_ w5 o5 4 k = 4) (fun k hk => new_new hk.2.1)) hz6
  have h36 := h35.below hb6 4 (by decide)
  have hl66 : Kd.S k59 59 w6 base (fun k => new_ w5 o5 4 k = 3) v3 loops := Kd.S_below (S_lt_mono hl5b (fun k hk hl => new_old hk hl)) hb6
  replace HDd := blk_below HDd hb6
  replace HRd := blk_below HRd hb6
  replace HBd := below_then HBd hz6 hb6
  have hS : w6.cell? ⟨base, 3, none⟩ = some (.slice A3 loops.length c3) ∧ w6.cell? ⟨base, 4, none⟩ = some (.slice A4 cases.length c4) := ⟨(blk_cell HDd 3).trans rfl, (blk_cell HDd 4).trans rfl⟩
  clear h35 hl5b hl6 hb6 hz6
  have h5 := C5.mk h36 hl66 hl6b
  clear h36 hl66 hl6b
  obtain ⟨Av3, cv3, rfl⟩ := Kd.S_slice h5.hl
  obtain ⟨Av4, cv4, rfl⟩ := Kd.S_slice h5.hs
  have e1 := blk_put HDd 3 (.slice Av3 loops.length cv3) rfl
  have e2 := blk_put e1 4 (.slice Av4 cases.length cv4) rfl
  have hf0 := blk_frozen HDd 3
  have hf1 := blk_frozen e1 4
  have hq0 := (blk_cell HDd 3).trans rfl
  have hq1 := (blk_cell e1 4).trans rfl
  refine hK.out _ _ (hS) (fun hHeld => ?_)
  clear hK K
  refine norm_ (a' := ?_) ?_ ?_
  rotate_left
  · show Act.put _ (some 20) _ = _
    simp only [Act.put, List.setIfInBounds_toArray, List.set_cons_zero, List.set_cons_succ, i64_w, i32_w]
    rfl
  refine last_ (i := 7) (N := none) #[true, true, true, true, true, true, true, true, false, false] rfl rfl (one_of HT_.out (by kernel_rfl)) (by decide) (fun K hK => ?_)
  go_simp
  refine hK.out _ _ ?_
  clear hK K
  refine pure_ (i := 8) (N := some 22) (v := ?_) (a' := ?_) #[true, true, true, true, true, true, true, true, true, false] rfl rfl (any_of HT_.out (by kernel_rfl)) (fun _ _ _ h => h) (Or.inl ⟨by rfl, ?_⟩) ?_ ?_
  rotate_left
  · intro w'
    go_simp
    with_reducible rfl
  rotate_left
  · simp only [Act.put, List.setIfInBounds_toArray, List.set_cons_zero, List.set_cons_succ, i64_w, i32_w]
    rfl
  refine last_ (i := 9) (N := none) #[true, true, true, true, true, true, true, true, true, true] rfl rfl (one_of HT_.out (by kernel_rfl)) (by decide) (fun K hK => ?_)
  go_simp
  refine hK.out _ _ ?_
  clear hK K
  refine done_ (done_of HT_.out (by kernel_rfl)) ?_
  clear HT_ hHeld hS hf0 hf1 hq0 hq1
  have h7 := (h5.set HDd 3 (.slice Av3 loops.length cv3)).set e1 4 (.slice Av4 cases.length cv4)
  have HD7 : ((w6.setCell ⟨base, 3, none⟩ (.slice Av3 loops.length cv3)).setCell ⟨base, 4, none⟩ (.slice Av4 cases.length cv4)).heap[base]? = some (.cells #[.slice Av0 code.length cv0, .slice Av1 origs.length cv1, .slice Av2 dests.length cv2, .slice Av3 loops.length cv3, .slice Av4 cases.length cv4] 26 (0, 0)) := e2
  have HR7 := blk_far (blk_far HRd (p := ⟨base, 3, none⟩) (Ne.symm hdr) (.slice Av3 loops.length cv3)) (p := ⟨base, 4, none⟩) (Ne.symm hdr) (.slice Av4 cases.length cv4)
  have HB7 := (HBd.setCell (p := ⟨base, 3, none⟩) hdd (.slice Av3 loops.length cv3)).setCell (p := ⟨base, 4, none⟩) hdd (.slice Av4 cases.length cv4)
  clear e1 e2 HDd HRd HBd h5
  generalize (w6.setCell ⟨base, 3, none⟩ (.slice Av3 loops.length cv3)).setCell ⟨base, 4, none⟩ (.slice Av4 cases.length cv4) = w7 at h7 HD7 HR7 HB7 ⊢
  have k0 : w7.cell? ⟨base, 0, none⟩ = some (.slice Av0 code.length cv0) := (blk_cell HD7 0).trans rfl
  have k1 : w7.cell? ⟨base, 1, none⟩ = some (.slice Av1 origs.length cv1) := (blk_cell HD7 1).trans rfl
  have k2 : w7.cell? ⟨base, 2, none⟩ = some (.slice Av2 dests.length cv2) := (blk_cell HD7 2).trans rfl
  have k3 : w7.cell? ⟨base, 3, none⟩ = some (.slice Av3 loops.length cv3) := (blk_cell HD7 3).trans rfl
  have k4 : w7.cell? ⟨base, 4, none⟩ = some (.slice Av4 cases.length cv4) := (blk_cell HD7 4).trans rfl
  have f0 := blk_frozen HR7 0
  have f1 := blk_frozen HR7 1
  have f2 := blk_frozen HR7 2
  have f3 := blk_frozen HR7 3
  have f4 := blk_frozen HR7 4
  have r0 : w7.cell? ⟨rr, 0, none⟩ = some (.slice none 0 0) := (blk_cell HR7 0).trans rfl
  have r1 : w7.cell? ⟨rr, 1, none⟩ = some (.slice none 0 0) := (blk_cell HR7 1).trans rfl
  have r2 : w7.cell? ⟨rr, 2, none⟩ = some (.slice none 0 0) := (blk_cell HR7 2).trans rfl
  have r3 : w7.cell? ⟨rr, 3, none⟩ = some (.slice none 0 0) := (blk_cell HR7 3).trans rfl
  have r4 : w7.cell? ⟨rr, 4, none⟩ = some (.slice none 0 0) := (blk_cell HR7 4).trans rfl
  have g0 := blk_put HR7 0 (.slice Av0 code.length cv0) rfl
  have g1 := blk_put g0 1 (.slice Av1 origs.length cv1) rfl
  have g2 := blk_put g1 2 (.slice Av2 dests.length cv2) rfl
  have g3 := blk_put g2 3 (.slice Av3 loops.length cv3) rfl
  have g4 := blk_put g3 4 (.slice Av4 cases.length cv4) rfl
  have h8 := ((((h7.set HR7 0 (.slice Av0 code.length cv0)).set g0 1 (.slice Av1 origs.length cv1)).set g1 2 (.slice Av2 dests.length cv2)).set g2 3 (.slice Av3 loops.length cv3)).set g3 4 (.slice Av4 cases.length cv4)
  have HB8 := (((((HB7.setCell (p := ⟨rr, 0, none⟩) hrr (.slice Av0 code.length cv0)).setCell (p := ⟨rr, 1, none⟩) hrr (.slice Av1 origs.length cv1)).setCell (p := ⟨rr, 2, none⟩) hrr (.slice Av2 dests.length cv2)).setCell (p := ⟨rr, 3, none⟩) hrr (.slice Av3 loops.length cv3)).setCell (p := ⟨rr, 4, none⟩) hrr (.slice Av4 cases.length cv4))
  have HG4 := Aside0.mk g4
  have H8 := Aside0.mk h8
  have HB9 := Aside0.mk HB8
  clear g0 g1 g2 g3 g4 h8 HB8 h7 HD7 HR7 HB7 hdd hrr hdr hrw HH HSM
  go_wp2_with fail
  have y0 := (blk_cell HG4.out 0).trans rfl
  have y1 := (blk_cell HG4.out 1).trans rfl
  have y2 := (blk_cell HG4.out 2).trans rfl
  have y3 := (blk_cell HG4.out 3).trans rfl
  have y4 := (blk_cell HG4.out 4).trans rfl
  exact bodyPost_ret (v := .agg #[.slice Av0 code.length cv0, .slice Av1 origs.length cv1, .slice Av2 dests.length cv2, .slice Av3 loops.length cv3, .slice Av4 cases.length cv4]) (by simp [results, Try.results22, go_sem, y0, y1, y2, y3, y4]) rfl (by rw [hdw]; exact ⟨_, _, _, _, _, _, rfl, H8.out, HB9.out⟩)
end Go.Proofs.Ytmglkgjnhoojaaa.PCodeRows
