/- The builder's aim. -/
import Derived.Test.YtmglkgjnhoojaaaClone
namespace Go.Proofs.Ytmglkgjnhoojaaa.PCodeRows
open Go.RowKit Go.Proofs.YtmglkgjnhoojaaaW.PrintWords Go.Proofs.YtmglkgjnhoojaaaW.PrintLast Go.Proofs.YtmglkgjnhoojaaaW.PrintMore
set_option linter.unusedVariables false
set_option linter.unusedSimpArgs false
def aim1 (t : Int) (code : List S37) (n : Int) : List S37 := code.set n.toNat ⟨(rd_T37 code n).f0, t⟩
def aimed (t : Int) (code : List S37) (l : List Int) : List S37 := l.foldl (aim1 t) code
theorem aimed_len (t : Int) (l : List Int) : ∀ code : List S37, (aimed t code l).length = code.length := by
  induction l with
  | nil => intro code; rfl
  | cons x xs ih => intro code; exact (ih _).trans (by simp [aim1])
theorem aimed_snoc (t : Int) (code : List S37) (l : List Int) (x : Int) : aimed t code (l ++ [x]) = aim1 t (aimed t code l) x := by simp [aimed]
set_option maxHeartbeats 4000000 in
theorem aim_calls (bb base base2 : Nat) (v0 v1 v2 v3 v4 vl : Value) (code : List S37) (okc okl : Nat → Prop) (l : List Int) (w : World)
    (hB : w.heap[bb]? = some (.cells #[v0, v1, v2, v3, v4] 53 (0, 0))) (hR : Kd.R k37 37 w base okc v0 code) (hL : Kd.R (Kd.int .i64) 3 w base2 okl vl l) (hin : ∀ x ∈ l, 0 ≤ x ∧ x < (code.length : Int)) (h256 : code.length ≤ 256) :
    Calls Try.prog 40 #[.pointer (some ⟨bb, 0, none⟩), vl] w fun e w' => e = .returned (.tuple #[]) ∧ Kd.R k37 37 w' base okc v0 (aimed code.length code l) ∧ Kept w w' (fun k => some k = v0.ownBlock) ∧ Below base w w' := by
  obtain ⟨A, c, rfl, hc, hC⟩ := Kd.R_reads hR
  obtain ⟨L, cl, rfl, hcl, hCL⟩ := Kd.R_reads hL
  have hlen := hCL.2.1
  have hne : some bb ≠ (Value.slice A code.length c).ownBlock := Kd.R_ne hR hB (by decide)
  go_enter Try.func40, Try.ntmps40
  go_wp2_with fail
  go_loopg [8] l.length (fun gg s8 wr => ∃ kk : Nat, kk ≤ l.length ∧ l.length - kk ≤ gg ∧ s8 = .int .i64 kk ∧ Aside0 (Kd.R k37 37 wr base okc (.slice A code.length c) (aimed code.length code (l.take kk))) ∧ Aside0 (Kept w wr (fun k => some k = (Value.slice A code.length c).ownBlock)) ∧ Aside0 (Below base w wr) ∧ Aside0 (Kd.R (Kd.int .i64) 3 wr base2 okl (.slice L l.length cl) l))
  case atStart => exact ⟨0, Nat.zero_le _, by omega, rfl, ⟨hR⟩, ⟨Kept.refl _ _⟩, ⟨Below.refl _ _⟩, ⟨hL⟩⟩
  case round =>
    obtain ⟨kk, hkk, hg, rfl, HR, HK, HBW, HL⟩ := hrel
    by_cases hlt : kk < l.length
    · have hltz : (kk : Int) < (l.length : Int) := by omega
      have hxm : l[kk]'hlt ∈ l := List.getElem_mem hlt
      obtain ⟨hx0, hx1⟩ := hin _ hxm
      have htake : l.take (kk + 1) = l.take kk ++ [l[kk]'hlt] := by rw [List.take_add_one, List.getElem?_eq_getElem hlt]; rfl
      obtain ⟨L2, cl2, eL, _, hCL2⟩ := Kd.R_reads HL.out
      injection eL with eL1 _ eL3
      subst eL1 eL3
      obtain ⟨ad, e, g0⟩ := Kd.at_int hCL2 (kk : Int) (by omega) hltz
      cases e
      rw [Int.toNat_natCast] at g0
      have hrd : rd l (kk : Int) = l[kk]'hlt := by simp [rd, List.getD_eq_getElem?_getD, hlt]
      rw [hrd] at g0
      clear hrd hCL2 hxm
      generalize l[kk]'hlt = x at g0 hx0 hx1 htake
      obtain ⟨g, rfl⟩ : ∃ g, A = some ⟨g, 0, none⟩ := by
        cases A with
        | none =>
          obtain ⟨ad', e', _⟩ := hC.2.2 (by omega)
          cases e'
        | some a =>
          obtain ⟨g, e⟩ := Kd.R_head hR
          exact ⟨g, by rw [e]⟩
      obtain ⟨cc, hcl2, hM, hcc, hfr⟩ := Kd.R_elem HR.out z37 x hx0 hx1
      have hz := k37_openM hM
      subst hz
      have hBr : wr.heap[bb]? = some (.cells #[.slice (some ⟨g, 0, none⟩) code.length c, v1, v2, v3, v4] 53 (0, 0)) := (HK.out.2 bb (blk_lt hB) hne).trans hB
      have hb0 : wr.cell? ⟨bb, 0, none⟩ = some (.slice (some ⟨g, 0, none⟩) code.length c) := (blk_cell hBr 0).trans rfl
      have hb1 : wr.drew.cell? ⟨bb, 0, none⟩ = some (.slice (some ⟨g, 0, none⟩) code.length c) := hb0
      have hc1 : wr.drew.cell? ⟨g, x.toNat * 2 + 1, none⟩ = some (.int .u32 ((aimed code.length code (l.take kk)).getD x.toNat z37).f1) := hcc 1 _ rfl
      have hf1 : wr.drew.frozen? ⟨g, x.toNat * 2 + 1, none⟩ = false := hfr 1
      have p0 : (0 ≤ x) = True := eq_true hx0
      have p1 : (x < (code.length : Int)) = True := eq_true hx1
      have m0 : (code.length : Int) % 4294967296 = code.length := by omega
      have hseg := Kd.R_seg HR.out x hx0 hx1 (seg := [.int .u32 code.length]) (j := 1) hcl2 hcc (by show 1 + 1 ≤ 2; omega) (x' := ⟨((aimed code.length code (l.take kk)).getD x.toNat z37).f0, code.length⟩) (okp := fun _ => False) (k37_mkM _ _ _ _) (fun _ h => h.elim)
      go_wp2_with fail
      refine start_ (n := 16) (S := fun w' => w'.cell? ⟨bb, 0, none⟩ = some (.slice (some ⟨g, 0, none⟩) code.length c)) (ds := [15]) #[false, false, false, false, false, false, false, false, false, false, false, false, false, false, false, false] (by kernel_rfl) rfl rfl (hb0) (fun hHeld => ?_)
      refine with_tab (rfl : rtab .any (opsOf Try.f40 3) = rtab .any (opsOf Try.f40 3)) (fun HT_ => ?_)
      refine pure_ (i := 0) (N := some 12) (v := ?_) (a' := ?_) #[true, false, false, false, false, false, false, false, false, false, false, false, false, false, false, false] rfl rfl (any_of HT_.out (by kernel_rfl)) (fun _ _ _ h => h) (Or.inl ⟨by rfl, ?_⟩) ?_ ?_
      rotate_left
      · intro w'
        go_simp
        with_reducible rfl
      rotate_left
      · simp only [Act.put, List.setIfInBounds_toArray, List.set_cons_zero, List.set_cons_succ, i64_w, i32_w]
        rfl
      refine pure_ (i := 1) (N := some 13) (v := ?_) (a' := ?_) #[true, true, false, false, false, false, false, false, false, false, false, false, false, false, false, false] rfl rfl (any_of HT_.out (by kernel_rfl)) (fun _ _ _ h => h) (Or.inl ⟨by rfl, ?_⟩) ?_ ?_
      rotate_left
      · intro w'
        go_simp
        with_reducible rfl
      rotate_left
      · simp only [Act.put, List.setIfInBounds_toArray, List.set_cons_zero, List.set_cons_succ, i64_w, i32_w]
        rfl
      refine pure_ (i := 2) (N := some 14) (v := ?_) (a' := ?_) #[true, true, true, false, false, false, false, false, false, false, false, false, false, false, false, false] rfl rfl (any_of HT_.out (by kernel_rfl)) (fun _ _ _ h => h) (Or.inl ⟨by rfl, ?_⟩) ?_ ?_
      rotate_left
      · intro w'
        go_simp
        with_reducible rfl
      rotate_left
      · simp only [Act.put, List.setIfInBounds_toArray, List.set_cons_zero, List.set_cons_succ, i64_w, i32_w]
        rfl
      refine pure_ (i := 3) (N := some 15) (v := ?_) (a' := ?_) #[true, true, true, true, false, false, false, false, false, false, false, false, false, false, false, false] rfl rfl (any_of HT_.out (by kernel_rfl)) (fun _ _ _ h => h) (Or.inl ⟨by rfl, ?_⟩) ?_ ?_
      rotate_left
      · intro w'
        go_simp
        with_reducible rfl
      rotate_left
      · simp only [Act.put, List.setIfInBounds_toArray, List.set_cons_zero, List.set_cons_succ, i64_w, i32_w]
        rfl
      refine pure_ (i := 5) (N := some 17) (v := ?_) (a' := ?_) #[true, true, true, true, false, true, false, false, false, false, false, false, false, false, false, false] rfl rfl (any_of HT_.out (by kernel_rfl)) (fun _ _ _ h => h) (Or.inl ⟨by rfl, ?_⟩) ?_ ?_
      rotate_left
      · intro w'
        go_simp
        with_reducible rfl
      rotate_left
      · simp only [Act.put, List.setIfInBounds_toArray, List.set_cons_zero, List.set_cons_succ, i64_w, i32_w]
        rfl
      refine pure_ (i := 6) (N := some 18) (v := ?_) (a' := ?_) #[true, true, true, true, false, true, true, false, false, false, false, false, false, false, false, false] rfl rfl (any_of HT_.out (by kernel_rfl)) (fun _ _ _ h => h) (Or.inl ⟨by rfl, ?_⟩) ?_ ?_
      rotate_left
      · intro w'
        go_simp
        with_reducible rfl
      rotate_left
      · simp only [Act.put, List.setIfInBounds_toArray, List.set_cons_zero, List.set_cons_succ, i64_w, i32_w]
        rfl
      refine pure_ (i := 7) (N := some 19) (v := ?_) (a' := ?_) #[true, true, true, true, false, true, true, true, false, false, false, false, false, false, false, false] rfl rfl (any_of HT_.out (by kernel_rfl)) (fun _ _ _ h => h) (Or.inl ⟨by rfl, ?_⟩) ?_ ?_
      rotate_left
      · intro w'
        go_simp
        with_reducible rfl
      rotate_left
      · simp only [Act.put, List.setIfInBounds_toArray, List.set_cons_zero, List.set_cons_succ, i64_w, i32_w]
        rfl
      refine pure_ (i := 8) (N := some 20) (v := ?_) (a' := ?_) #[true, true, true, true, false, true, true, true, true, false, false, false, false, false, false, false] rfl rfl (any_of HT_.out (by kernel_rfl)) (fun _ _ _ h => h) (Or.inl ⟨by rfl, ?_⟩) ?_ ?_
      rotate_left
      · intro w'
        go_simp
        with_reducible rfl
      rotate_left
      · simp only [Act.put, List.setIfInBounds_toArray, List.set_cons_zero, List.set_cons_succ, i64_w, i32_w]
        rfl
      refine pure_ (i := 9) (N := some 21) (v := ?_) (a' := ?_) #[true, true, true, true, false, true, true, true, true, true, false, false, false, false, false, false] rfl rfl (any_of HT_.out (by kernel_rfl)) (fun _ _ _ h => h) (Or.inl ⟨by rfl, ?_⟩) ?_ ?_
      rotate_left
      · intro w'
        go_simp
        with_reducible rfl
      rotate_left
      · simp only [Act.put, List.setIfInBounds_toArray, List.set_cons_zero, List.set_cons_succ, i64_w, i32_w]
        rfl
      refine take_ (i := 4) (N := some 16) (v := ?_) (a' := ?_) #[true, true, true, true, true, true, true, true, true, true, false, false, false, false, false, false] rfl rfl (take_of HT_.out (by kernel_rfl)) (fun _ _ _ h => h) (Or.inl ⟨by rfl, ?_⟩) hHeld ?_ ?_
      rotate_left
      · rintro w' hS; go_split_ands
        go_simp
        with_reducible rfl
      rotate_left
      · simp only [Act.put, List.setIfInBounds_toArray, List.set_cons_zero, List.set_cons_succ, i64_w, i32_w]
        rfl
      refine take_ (i := 10) (N := some 22) (v := ?_) (a' := ?_) #[true, true, true, true, true, true, true, true, true, true, true, false, false, false, false, false] rfl rfl (take_of HT_.out (by kernel_rfl)) (fun _ _ _ h => h) (Or.inl ⟨by rfl, ?_⟩) hHeld ?_ ?_
      rotate_left
      · rintro w' hS; go_split_ands
        go_simp
        with_reducible rfl
      rotate_left
      · simp only [Act.put, List.setIfInBounds_toArray, List.set_cons_zero, List.set_cons_succ, i64_w, i32_w]
        rfl
      refine pure_ (i := 11) (N := some 23) (v := ?_) (a' := ?_) #[true, true, true, true, true, true, true, true, true, true, true, true, false, false, false, false] rfl rfl (any_of HT_.out (by kernel_rfl)) (fun _ _ _ h => h) (Or.inl ⟨by rfl, ?_⟩) ?_ ?_
      rotate_left
      · intro w'
        go_simp
        with_reducible rfl
      rotate_left
      · simp only [Act.put, List.setIfInBounds_toArray, List.set_cons_zero, List.set_cons_succ, i64_w, i32_w]
        rfl
      refine pure_ (i := 12) (N := some 24) (v := ?_) (a' := ?_) #[true, true, true, true, true, true, true, true, true, true, true, true, true, false, false, false] rfl rfl (any_of HT_.out (by kernel_rfl)) (fun _ _ _ h => h) (Or.inl ⟨by rfl, ?_⟩) ?_ ?_
      rotate_left
      · intro w'
        go_simp
        with_reducible rfl
      rotate_left
      · simp only [Act.put, List.setIfInBounds_toArray, List.set_cons_zero, List.set_cons_succ, i64_w, i32_w]
        rfl
      refine pure_ (i := 13) (N := some 25) (v := ?_) (a' := ?_) #[true, true, true, true, true, true, true, true, true, true, true, true, true, true, false, false] rfl rfl (any_of HT_.out (by kernel_rfl)) (fun _ _ _ h => h) (Or.inl ⟨by rfl, ?_⟩) ?_ ?_
      rotate_left
      · intro w'
        go_simp
        with_reducible rfl
      rotate_left
      · simp only [Act.put, List.setIfInBounds_toArray, List.set_cons_zero, List.set_cons_succ, i64_w, i32_w]
        rfl
      refine pure_ (i := 14) (N := some 26) (v := ?_) (a' := ?_) #[true, true, true, true, true, true, true, true, true, true, true, true, true, true, true, false] rfl rfl (any_of HT_.out (by kernel_rfl)) (fun _ _ _ h => h) (Or.inl ⟨by rfl, ?_⟩) ?_ ?_
      rotate_left
      · intro w'
        go_simp
        with_reducible rfl
      rotate_left
      · simp only [Act.put, List.setIfInBounds_toArray, List.set_cons_zero, List.set_cons_succ, i64_w, i32_w]
        rfl
      refine last_ (i := 15) (N := none) #[true, true, true, true, true, true, true, true, true, true, true, true, true, true, true, true] rfl rfl (one_of HT_.out (by kernel_rfl)) (by decide) (fun K hK => ?_)
      go_simp
      refine hK.out _ _ ?_
      clear hK K
      refine done_ (done_of HT_.out (by kernel_rfl)) ?_
      clear HT_ hHeld hb1 hc1 hf1
      go_wp2_with fail
      have hg2 : wr.grownBy (wr.setCell ⟨g, x.toNat * 2 + 1, none⟩ (.int .u32 code.length)) (some g) := hseg.2
      have hbase : base ≤ g := Kd.R_base HR.out g (by simp [Value.ownBlock])
      go_roundg (l.length - (kk + 1))
      case measure => omega
      case rel =>
        refine ⟨kk + 1, by omega, by omega, by go_num, ⟨Kd.R_drew ?_⟩, ⟨?_⟩, ⟨(HBW.out.setCell hbase _).drew⟩, ⟨Kd.R_drew ?_⟩⟩
        · rw [htake, aimed_snoc]
          exact hseg.1
        · refine HK.out.then_ (S2 := fun k => some k = (Value.slice (some ⟨g, 0, none⟩) code.length c).ownBlock) ⟨hg2.size, fun k hk hn => hg2.block k hk (fun h => hn h)⟩ (fun k hk => .inl hk)
        · obtain ⟨gl, ecl, hgl⟩ : ∃ cells, wr.heap[g]? = some (.cells cells 37 (0, 0)) ∧ True := by
            obtain ⟨cells, h⟩ := Kd.R_typed HR.out g (by simp [Value.ownBlock])
            exact ⟨cells, h, trivial⟩
          exact Kd.R_set HL.out ecl (by decide) _ _
    · have hltz : ¬ (kk : Int) < (l.length : Int) := by omega
      have : kk = l.length := by omega
      subst this
      rw [List.take_length] at HR
      clear hC hCL
      go_wp2_with fail
      exact bodyPost_end (results_none rfl _ _ _) rfl ⟨rfl, HR.out, HK.out, HBW.out⟩
end Go.Proofs.Ytmglkgjnhoojaaa.PCodeRows
