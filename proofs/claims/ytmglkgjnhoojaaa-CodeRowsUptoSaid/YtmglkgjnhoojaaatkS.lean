/- The reference's lacks and laid (plain), and their calls. -/
import Derived.Test.YtmglkgjnhoojaaatkF
import Derived.Test.YtmglkgjnhoojaaatQ3
import Derived.Test.YtmglkgjnhoojaaatQ4
import Derived.Test.YtmglkgjnhoojaaatkA
import Derived.Test.YtmglkgjnhoojaaatkI
import Derived.Test.YtmglkgjnhoojaaatkB
namespace Go.Proofs.Ytmglkgjnhoojaaa.PCodeRows
open Go.RowKit Go.Proofs.YtmglkgjnhoojaaaW.PrintWords Go.Proofs.YtmglkgjnhoojaaaW.PrintLast Go.Proofs.YtmglkgjnhoojaaaW.PrintMore
set_option linter.unusedVariables false
set_option linter.unusedSimpArgs false
def laidP (a : Int) : Int := if a = 1 ∨ a = 6 then 4 else if a = 2 ∨ a = 5 ∨ a = 14 then 3 else if a = 7 then 5 else if a = 8 then 6 else if a = 9 then 7 else if a = 10 then 8 else if a = 11 then 9 else if a = 13 then 10 else if a = 15 then 11 else 0
theorem laid_f {a : Int} (h : 1 ≤ a ∧ a ≤ 15) : tinderref10_laid.f 3 a = some (laidP a) := by
  rcases act_split (by omega : ¬ (a < 1 ∨ 15 < a)) with rfl | rfl | rfl | rfl | rfl | rfl | rfl | rfl | rfl | rfl | rfl | rfl | rfl | rfl | rfl <;> rfl
theorem laid_calls {a : Int} (h : 1 ≤ a ∧ a ≤ 15) (w : World) : Calls Try.prog 27 #[.int .i64 a] w fun e w' => e = .returned (.int .i64 (laidP a)) ∧ Below w.heap.size w w' :=
  (tinderref10_laid.calls 3 a (laidP a) w (laid_f h)).mono fun e w' hp => ⟨hp.1, hp.2.below⟩
def noOpen (l : List S59) (f : S59 → Bool) : Bool := match l.getLast? with
  | none => true
  | some x => f x
theorem noOpen_nil (f : S59 → Bool) : noOpen [] f = true := rfl
theorem noOpen_snoc (ls : List S59) (x : S59) (f : S59 → Bool) : noOpen (ls ++ [x]) f = f x := by simp [noOpen]
def lacksP (d : Dr) (a : Int) : Bool :=
  if a = 2 ∨ a = 3 then d.origs.length == 0 else if a = 5 ∨ a = 6 then d.dests.length == 0 else if a = 9 ∨ a = 10 ∨ a = 11 then d.loops.length == 0
  else if a = 13 ∨ a = 15 then noOpen d.cases (fun x => x.f0 != -1) else if a = 14 then noOpen d.cases (fun x => x.f0 == -1) else false
theorem last_f (ls : List S59) (x : S59) (hl : ls.length < 4398046511104) : wrap64 (((ls ++ [x]).length : Int) - 1) = (ls.length : Int) ∧ rd_T59 (ls ++ [x]) (ls.length : Int) = x := by
  constructor
  · simp
    unfold wrap64
    omega
  · unfold rd_T59
    rw [Int.toNat_natCast, List.getD_eq_getElem?_getD, List.getElem?_append_right (Nat.le_refl _), Nat.sub_self]
    rfl
theorem j3_a (k : Nat) (a : Int) (c : List S37) (o b : List Int) (l ls : List S59) (x : S59) (hl : ls.length < 4398046511104) : tinderref10_lacks.j3 (k + 1) a true c o b l (ls ++ [x]) = some (x.f0 != -1) := by
  obtain ⟨q1, q2⟩ := last_f ls x hl
  rw [tinderref10_lacks.j3, if_pos rfl, if_neg (by simp; omega), q1, if_pos (by omega), if_pos (by simp; omega), q2]
theorem j3_b (k : Nat) (c : List S37) (o b : List Int) (l ls : List S59) (x : S59) (hl : ls.length < 4398046511104) : tinderref10_lacks.j3 (k + 1) 14 false c o b l (ls ++ [x]) = some (x.f0 == -1) := by
  obtain ⟨q1, q2⟩ := last_f ls x hl
  rw [tinderref10_lacks.j3, if_neg (by decide), if_pos rfl, if_neg (by simp; omega), q1, if_pos (by omega), if_pos (by simp; omega), q2]
theorem lacks_f (d : Dr) {a : Int} (h : 1 ≤ a ∧ a ≤ 15) (hl : d.cases.length < 4398046511104) : tinderref10_lacks.f 6 d.code d.origs d.dests d.loops d.cases a = some (lacksP d a) := by
  have hb : ∀ n : Nat, ((n : Int) == 0) = (n == 0) := fun n => by
    rw [Bool.eq_iff_iff]; simp
  have hc : (∀ f : S59 → Bool, d.cases = [] → noOpen d.cases f = true) := fun f e => by rw [e]; rfl
  rcases act_split (by omega : ¬ (a < 1 ∨ 15 < a)) with rfl | rfl | rfl | rfl | rfl | rfl | rfl | rfl | rfl | rfl | rfl | rfl | rfl | rfl | rfl
  case inr.inr.inr.inr.inr.inr.inr.inr.inr.inr.inr.inr.inl =>
    rcases List.eq_nil_or_concat d.cases with e | ⟨ls, x, e⟩
    · simp [tinderref10_lacks.f, tinderref10_lacks.j0, tinderref10_lacks.j1, tinderref10_lacks.j2, tinderref10_lacks.j3, lacksP, e, noOpen_nil]
    · rw [List.concat_eq_append] at e
      have hl2 : ls.length < 4398046511104 := by rw [e] at hl; simp at hl; omega
      simp [tinderref10_lacks.f, tinderref10_lacks.j0, tinderref10_lacks.j1, tinderref10_lacks.j2, lacksP, e, noOpen_snoc, j3_a _ _ _ _ _ _ _ _ hl2, j3_b _ _ _ _ _ _ _ hl2]
  case inr.inr.inr.inr.inr.inr.inr.inr.inr.inr.inr.inr.inr.inl =>
    rcases List.eq_nil_or_concat d.cases with e | ⟨ls, x, e⟩
    · simp [tinderref10_lacks.f, tinderref10_lacks.j0, tinderref10_lacks.j1, tinderref10_lacks.j2, tinderref10_lacks.j3, lacksP, e, noOpen_nil]
    · rw [List.concat_eq_append] at e
      have hl2 : ls.length < 4398046511104 := by rw [e] at hl; simp at hl; omega
      simp [tinderref10_lacks.f, tinderref10_lacks.j0, tinderref10_lacks.j1, tinderref10_lacks.j2, lacksP, e, noOpen_snoc, j3_a _ _ _ _ _ _ _ _ hl2, j3_b _ _ _ _ _ _ _ hl2]
  case inr.inr.inr.inr.inr.inr.inr.inr.inr.inr.inr.inr.inr.inr =>
    rcases List.eq_nil_or_concat d.cases with e | ⟨ls, x, e⟩
    · simp [tinderref10_lacks.f, tinderref10_lacks.j0, tinderref10_lacks.j1, tinderref10_lacks.j2, tinderref10_lacks.j3, lacksP, e, noOpen_nil]
    · rw [List.concat_eq_append] at e
      have hl2 : ls.length < 4398046511104 := by rw [e] at hl; simp at hl; omega
      simp [tinderref10_lacks.f, tinderref10_lacks.j0, tinderref10_lacks.j1, tinderref10_lacks.j2, lacksP, e, noOpen_snoc, j3_a _ _ _ _ _ _ _ _ hl2, j3_b _ _ _ _ _ _ _ hl2]
  all_goals simp [tinderref10_lacks.f, tinderref10_lacks.j0, tinderref10_lacks.j1, tinderref10_lacks.j2, tinderref10_lacks.j3, lacksP, hb]
theorem lacks_calls {A0 A1 A2 A3 A4 : Option Addr} {c0 c1 c2 c3 c4 : Nat} {d : Dr} {w : World} (h : DrC w A0 A1 A2 A3 A4 c0 c1 c2 c3 c4 d.code d.origs d.dests d.loops d.cases) {a : Int} (ha : 1 ≤ a ∧ a ≤ 15) (hl : d.cases.length < 4398046511104) :
    Calls Try.prog 26 #[drV A0 A1 A2 A3 A4 c0 c1 c2 c3 c4 d.code.length d.origs.length d.dests.length d.loops.length d.cases.length, .int .i64 a] w fun e w' => e = .returned (.bool (lacksP d a)) ∧ Below w.heap.size w w' :=
  tinderref10_lacks.calls 6 A0 c0 _ A1 c1 _ A2 c2 _ A3 c3 _ A4 c4 _ a _ w h.r0 h.l0 h.r1 h.l1 h.r2 h.l2 h.r3 h.l3 h.r4 h.l4 (lacks_f d ha hl)
theorem lacks_act {d : Dr} {a : Int} (h : 1 ≤ a ∧ a ≤ 15) (hl : lacksP d a = true) : actP d a = .inr 13 := by
  rcases act_split (by omega : ¬ (a < 1 ∨ 15 < a)) with rfl | rfl | rfl | rfl | rfl | rfl | rfl | rfl | rfl | rfl | rfl | rfl | rfl | rfl | rfl <;> simp [lacksP] at hl <;> simp [actP, hl, popP_nil]
  all_goals
    rcases List.eq_nil_or_concat d.cases with e | ⟨ls, x, e⟩
    · rw [e]; rfl
    · rw [List.concat_eq_append] at e
      rw [e] at hl ⊢
      rw [noOpen_snoc] at hl
      rw [popP_snoc]
      simp at hl
      simp [hl]
theorem long_act {d : Dr} {a : Int} (h : 1 ≤ a ∧ a ≤ 15) (hl : lacksP d a = false) (hk : laidP a ≠ 0) (hc : ¬ d.code.length < 256) : actP d a = .inr 3 := by
  have hp : ∀ {k n : Int} {f : List S37 → Dr}, layP d.code k n f = .inr 3 := by intro k n f; unfold layP; rw [if_neg hc]
  have ho : ∀ {α : Type} {l : List α}, ¬ l.length = 0 → ∃ xs x, l = xs ++ [x] := fun {α l} hn => by
    rcases List.eq_nil_or_concat l with e | ⟨xs, x, e⟩
    · exact absurd (by rw [e]; rfl) hn
    · exact ⟨xs, x, by rw [e, List.concat_eq_append]⟩
  have hcs : ∀ f : S59 → Bool, noOpen d.cases f = false → ∃ ls x, d.cases = ls ++ [x] ∧ f x = false := fun f hn => by
    rcases List.eq_nil_or_concat d.cases with e | ⟨xs, x, e⟩
    · rw [e] at hn; cases hn
    · rw [List.concat_eq_append] at e
      rw [e, noOpen_snoc] at hn
      exact ⟨xs, x, e, hn⟩
  rcases act_split (by omega : ¬ (a < 1 ∨ 15 < a)) with rfl | rfl | rfl | rfl | rfl | rfl | rfl | rfl | rfl | rfl | rfl | rfl | rfl | rfl | rfl
  case inl => simp [actP, hp]
  case inr.inl => obtain ⟨xs, x, e⟩ := ho (l := d.origs) (by simpa [lacksP] using hl); simp [actP, e, popP_snoc, hp]
  case inr.inr.inl => exact absurd rfl hk
  case inr.inr.inr.inl => exact absurd rfl hk
  case inr.inr.inr.inr.inl => obtain ⟨xs, x, e⟩ := ho (l := d.dests) (by simpa [lacksP] using hl); simp [actP, e, popP_snoc, hp]
  case inr.inr.inr.inr.inr.inl => obtain ⟨xs, x, e⟩ := ho (l := d.dests) (by simpa [lacksP] using hl); simp [actP, e, popP_snoc, hp]
  case inr.inr.inr.inr.inr.inr.inl => simp [actP, hp]
  case inr.inr.inr.inr.inr.inr.inr.inl => simp [actP, hp]
  case inr.inr.inr.inr.inr.inr.inr.inr.inl => obtain ⟨xs, x, e⟩ := ho (l := d.loops) (by simpa [lacksP] using hl); simp [actP, e, popP_snoc, hp]
  case inr.inr.inr.inr.inr.inr.inr.inr.inr.inl => obtain ⟨xs, x, e⟩ := ho (l := d.loops) (by simpa [lacksP] using hl); simp [actP, e, popP_snoc, hp]
  case inr.inr.inr.inr.inr.inr.inr.inr.inr.inr.inl => obtain ⟨xs, x, e⟩ := ho (l := d.loops) (by simpa [lacksP] using hl); simp [actP, e, popP_snoc, hp]
  case inr.inr.inr.inr.inr.inr.inr.inr.inr.inr.inr.inl => exact absurd rfl hk
  case inr.inr.inr.inr.inr.inr.inr.inr.inr.inr.inr.inr.inl => obtain ⟨xs, x, e, hx⟩ := hcs _ (by simpa [lacksP] using hl); simp at hx; simp [actP, e, popP_snoc, hp, hx]
  case inr.inr.inr.inr.inr.inr.inr.inr.inr.inr.inr.inr.inr.inl => obtain ⟨xs, x, e, hx⟩ := hcs _ (by simpa [lacksP] using hl); simp at hx; simp [actP, e, popP_snoc, hp, hx]
  case inr.inr.inr.inr.inr.inr.inr.inr.inr.inr.inr.inr.inr.inr => obtain ⟨xs, x, e, hx⟩ := hcs _ (by simpa [lacksP] using hl); simp at hx; simp [actP, e, popP_snoc, hp, hx]
end Go.Proofs.Ytmglkgjnhoojaaa.PCodeRows
/- The reference's aim (28). -/
namespace Go.Proofs.Ytmglkgjnhoojaaa.PCodeRows
open Go.RowKit Go.Proofs.YtmglkgjnhoojaaaW.PrintWords Go.Proofs.YtmglkgjnhoojaaaW.PrintLast Go.Proofs.YtmglkgjnhoojaaaW.PrintMore
set_option linter.unusedVariables false
set_option linter.unusedSimpArgs false
set_option maxHeartbeats 4000000 in
theorem raim_calls (bb base : Nat) (v0 v1 v2 v3 v4 : Value) (L : Option Addr) (cl : Nat) (code : List S37) (okc : Nat → Prop) (l : List Int) (t : Int) (w : World)
    (hB : w.heap[bb]? = some (.cells #[v0, v1, v2, v3, v4] 26 (0, 0))) (hR : Kd.R k37 37 w base okc v0 code) (hL : ∀ W, Kept w W (fun k => some k = v0.ownBlock) → Kd.C (Kd.int .i64) W L l.length l) (hin : ∀ x ∈ l, 0 ≤ x ∧ x < (code.length : Int)) (ht0 : 0 ≤ t) (ht1 : t < 4294967296) :
    Calls Try.prog 28 #[.pointer (some ⟨bb, 0, none⟩), .slice L l.length cl, .int .i64 t] w fun e w' => e = .returned (.tuple #[]) ∧ Kd.R k37 37 w' base okc v0 (aimed t code l) ∧ Kept w w' (fun k => some k = v0.ownBlock) ∧ Below base w w' := by
  obtain ⟨A, c, rfl, hc, hC⟩ := Kd.R_reads hR
  have hlen := (hL w (Kept.refl _ _)).2.1
  have HL := Aside0.mk hL
  have hne : some bb ≠ (Value.slice A code.length c).ownBlock := Kd.R_ne hR hB (by decide)
  clear hL
  go_enter Try.func28, Try.ntmps28
  go_wp2_with fail
  go_loopg [6] l.length (fun gg s6 wr => ∃ kk : Nat, kk ≤ l.length ∧ l.length - kk ≤ gg ∧ s6 = .int .i64 kk ∧ Aside0 (Kd.R k37 37 wr base okc (.slice A code.length c) (aimed t code (l.take kk))) ∧ Aside0 (Kept w wr (fun k => some k = (Value.slice A code.length c).ownBlock)) ∧ Aside0 (Below base w wr))
  case atStart => exact ⟨0, Nat.zero_le _, by omega, rfl, ⟨hR⟩, ⟨Kept.refl _ _⟩, ⟨Below.refl _ _⟩⟩
  case round =>
    obtain ⟨kk, hkk, hg, rfl, HR, HK, HBW⟩ := hrel
    by_cases hlt : kk < l.length
    · have hltz : (kk : Int) < (l.length : Int) := by omega
      have hxm : l[kk]'hlt ∈ l := List.getElem_mem hlt
      obtain ⟨hx0, hx1⟩ := hin _ hxm
      have htake : l.take (kk + 1) = l.take kk ++ [l[kk]'hlt] := by rw [List.take_add_one, List.getElem?_eq_getElem hlt]; rfl
      obtain ⟨ad, e, g0⟩ := Kd.at_int (HL.out wr HK.out) (kk : Int) (by omega) hltz
      cases e
      rw [Int.toNat_natCast] at g0
      have hrd : rd l (kk : Int) = l[kk]'hlt := by simp [rd, List.getD_eq_getElem?_getD, hlt]
      rw [hrd] at g0
      clear hrd hxm
      generalize l[kk]'hlt = x at g0 hx0 hx1 htake
      obtain ⟨g, rfl⟩ : ∃ g, A = some ⟨g, 0, none⟩ := by
        cases A with
        | none =>
          obtain ⟨ad', e', _⟩ := hC.2.2 (by omega)
          cases e'
        | some a =>
          obtain ⟨g, e⟩ := Kd.R_head hR
          exact ⟨g, by rw [e]⟩
      obtain ⟨cc, hcl2, hM, hcc, hfr⟩ := Kd.R_elem HR.out z37 x hx0 hx1
      have hz := k37_openM hM
      subst hz
      have hBr : wr.heap[bb]? = some (.cells #[.slice (some ⟨g, 0, none⟩) code.length c, v1, v2, v3, v4] 26 (0, 0)) := (HK.out.2 bb (blk_lt hB) hne).trans hB
      have hb0 : wr.cell? ⟨bb, 0, none⟩ = some (.slice (some ⟨g, 0, none⟩) code.length c) ∧ wr.cell? (ad.add kk) = some (.int .i64 x) := ⟨(blk_cell hBr 0).trans rfl, g0⟩
      have hc1 : wr.drew.cell? ⟨g, x.toNat * 2 + 1, none⟩ = some (.int .u32 ((aimed t code (l.take kk)).getD x.toNat z37).f1) := hcc 1 _ rfl
      have hf1 : wr.drew.frozen? ⟨g, x.toNat * 2 + 1, none⟩ = false := hfr 1
      have p0 : (0 ≤ x) = True := eq_true hx0
      have p1 : (x < (code.length : Int)) = True := eq_true hx1
      have p2 : (0 ≤ (kk : Int)) = True := eq_true (by omega)
      have p3 : ((kk : Int) < (l.length : Int)) = True := eq_true hltz
      have m0 : t % 4294967296 = t := by omega
      have hseg := Kd.R_seg HR.out x hx0 hx1 (seg := [.int .u32 t]) (j := 1) hcl2 hcc (by show 1 + 1 ≤ 2; omega) (x' := ⟨((aimed t code (l.take kk)).getD x.toNat z37).f0, t⟩) (okp := fun _ => False) (k37_mkM _ _ _ _) (fun _ h => h.elim)
      go_wp2_with fail
      refine start_ (n := 13) (S := fun w' => w'.cell? ⟨bb, 0, none⟩ = some (.slice (some ⟨g, 0, none⟩) code.length c) ∧ w'.cell? (ad.add kk) = some (.int .i64 x)) (ds := [12]) (bz_ 13 0) (by kernel_rfl) rfl rfl (hb0) (fun hHeld => ?_)
      refine with_tab (rfl : rtab .any (opsOf Try.f28 3) = rtab .any (opsOf Try.f28 3)) (fun HT_ => ?_)
      apply pu_ 0 (some 13) (bz_ 13 1) HT_ rfl rfl (by kernel_rfl) (fun _ _ _ h => h) (by rfl)
      · intro _; go_simp; with_reducible rfl
      · go_simp; rfl
      apply pu_ 1 (some 14) (bz_ 13 3) HT_ rfl rfl (by kernel_rfl) (fun _ _ _ h => h) (by rfl)
      · intro _; go_simp; with_reducible rfl
      · go_simp; rfl
      apply pu_ 2 (some 15) (bz_ 13 7) HT_ rfl rfl (by kernel_rfl) (fun _ _ _ h => h) (by rfl)
      · intro _; go_simp; with_reducible rfl
      · go_simp; rfl
      apply pu_ 4 (some 17) (bz_ 13 23) HT_ rfl rfl (by kernel_rfl) (fun _ _ _ h => h) (by rfl)
      · intro _; go_simp; with_reducible rfl
      · go_simp; rfl
      apply pu_ 5 (some 18) (bz_ 13 55) HT_ rfl rfl (by kernel_rfl) (fun _ _ _ h => h) (by rfl)
      · intro _; go_simp; with_reducible rfl
      · go_simp; rfl
      apply pu_ 6 (some 19) (bz_ 13 119) HT_ rfl rfl (by kernel_rfl) (fun _ _ _ h => h) (by rfl)
      · intro _; go_simp; with_reducible rfl
      · go_simp; rfl
      apply pu_ 8 (some 21) (bz_ 13 375) HT_ rfl rfl (by kernel_rfl) (fun _ _ _ h => h) (by rfl)
      · intro _; go_simp; with_reducible rfl
      · go_simp; rfl
      apply pu_ 9 (some 22) (bz_ 13 887) HT_ rfl rfl (by kernel_rfl) (fun _ _ _ h => h) (by rfl)
      · intro _; go_simp; with_reducible rfl
      · go_simp; rfl
      apply tk_ 3 (some 16) (bz_ 13 895) HT_ hHeld rfl rfl (by kernel_rfl) (fun _ _ _ h => h) (by rfl)
      · intro _ hS; go_split_ands; go_simp; with_reducible rfl
      · go_simp; rfl
      apply tk_ 7 (some 20) (bz_ 13 1023) HT_ hHeld rfl rfl (by kernel_rfl) (fun _ _ _ h => h) (by rfl)
      · intro _ hS; go_split_ands; go_simp; with_reducible rfl
      · go_simp; rfl
      apply pu_ 10 (some 23) (bz_ 13 2047) HT_ rfl rfl (by kernel_rfl) (fun _ _ _ h => h) (by rfl)
      · intro _; go_simp; with_reducible rfl
      · go_simp; rfl
      apply pu_ 11 (some 24) (bz_ 13 4095) HT_ rfl rfl (by kernel_rfl) (fun _ _ _ h => h) (by rfl)
      · intro _; go_simp; with_reducible rfl
      · go_simp; rfl
      refine last_ (i := 12) (N := none) (bz_ 13 8191) rfl rfl (one_of HT_.out (by kernel_rfl)) (by decide) (fun K hK => ?_)
      go_simp
      refine hK.out _ _ ?_
      clear hK K
      refine done_ (done_of HT_.out (by kernel_rfl)) ?_
      clear HT_ hHeld hc1 hf1
      go_wp2_with fail
      have hg2 : wr.grownBy (wr.setCell ⟨g, x.toNat * 2 + 1, none⟩ (.int .u32 t)) (some g) := hseg.2
      have hbase : base ≤ g := Kd.R_base HR.out g (by simp [Value.ownBlock])
      go_roundg (l.length - (kk + 1))
      case measure => omega
      case rel =>
        refine ⟨kk + 1, by omega, by omega, by go_num, ⟨Kd.R_drew ?_⟩, ⟨?_⟩, ⟨(HBW.out.setCell hbase _).drew⟩⟩
        · rw [htake, aimed_snoc]
          exact hseg.1
        · refine HK.out.then_ (S2 := fun k => some k = (Value.slice (some ⟨g, 0, none⟩) code.length c).ownBlock) ⟨hg2.size, fun k hk hn => hg2.block k hk (fun h => hn h)⟩ (fun k hk => .inl hk)
    · have hltz : ¬ (kk : Int) < (l.length : Int) := by omega
      have : kk = l.length := by omega
      subst this
      rw [List.take_length] at HR
      clear hC
      go_wp2_with fail
      exact bodyPost_end (results_none rfl _ _ _) rfl ⟨rfl, HR.out, HK.out, HBW.out⟩
end Go.Proofs.Ytmglkgjnhoojaaa.PCodeRows
/- What may be done to the five rows of a copy: appends, elements set, rows cut. -/
namespace Go.Proofs.Ytmglkgjnhoojaaa.PCodeRows
open Go.RowKit Go.Proofs.YtmglkgjnhoojaaaW.PrintWords Go.Proofs.YtmglkgjnhoojaaaW.PrintLast Go.Proofs.YtmglkgjnhoojaaaW.PrintMore
set_option linter.unusedVariables false
set_option linter.unusedSimpArgs false
section
variable {w w1 : World} {base g n c m : Nat} {A : Option Addr} {v0 v1 v2 v3 v4 v' vx : Value} {o : Nat → Nat} {code code' : List S37} {origs dests xs : List Int} {loops cases ls : List S59} {row : Option Nat} {i j : Nat} {v : Value} {x : S59}
theorem new_same {w : World} {o : Nat → Nat} {i k : Nat} (h : o k = i) : new_ w o i k = i := by unfold new_; split <;> simp [h]
theorem othR (h : Kd.R (Kd.int .i64) 3 w base (fun k => o k = i) v xs) (hi : i ≠ j) (hg : w.grownBy w1 row) (hr : ∀ k, row = some k → o k = j ∧ k < w.heap.size) : Kd.R (Kd.int .i64) 3 w1 base (fun k => new_ w o j k = i) v xs := by
  refine Kd.R_grown (ok := fun k => new_ w o j k = i) (R_lt_mono h (fun k hk hl => new_old hk hl)) hg (fun k hk he => ?_)
  obtain ⟨h1, h2⟩ := hr k he.symm
  rw [new_old h1 h2] at hk
  exact hi hk.symm
theorem othS (h : Kd.S k59 59 w base (fun k => o k = i) v ls) (hi : i ≠ j) (hg : w.grownBy w1 row) (hr : ∀ k, row = some k → o k = j ∧ k < w.heap.size) : Kd.S k59 59 w1 base (fun k => new_ w o j k = i) v ls := by
  refine Kd.S_grown (ok := fun k => new_ w o j k = i) (S_lt_mono h (fun k hk hl => new_old hk hl)) hg (fun k hk he => ?_)
  obtain ⟨h1, h2⟩ := hr k he.symm
  rw [new_old h1 h2] at hk
  exact hi hk.symm
theorem othC (h : Kd.R k37 37 w base (fun _ => True) v code) (hg : w.grownBy w1 row) (hr : ∀ k, row = some k → ∃ cells q, w.heap[k]? = some (.cells cells q (0, 0)) ∧ q ≠ 37) : Kd.R k37 37 w1 base (fun _ => True) v code := by
  have hK : Kept w w1 (fun k => some k = row) := ⟨hg.size, fun k hk hn => hg.block k hk hn⟩
  refine R_kept h hK (fun k q cells _ hq hc hk => ?_)
  obtain ⟨c2, q2, h2, hn⟩ := hr k hk.symm
  rw [ne53c hq] at hc
  have := h2.symm.trans hc
  injection this with this
  injection this with _ h3
  exact hn h3
theorem row_of_R (h : Kd.R (Kd.int .i64) 3 w base (fun k => o k = i) v xs) : ∀ k, v.ownBlock = some k → o k = i ∧ k < w.heap.size := fun k hk => ⟨h.1 k hk, Kd.R_lt h k hk⟩
theorem row_of_S (h : Kd.S k59 59 w base (fun k => o k = i) v ls) : ∀ k, v.ownBlock = some k → o k = i ∧ k < w.heap.size := fun k hk => ⟨(Kd.S_R h).1 k hk, Kd.R_lt (Kd.S_R h) k hk⟩
theorem typ_of_R {ok : Nat → Prop} (h : Kd.R (Kd.int .i64) 3 w base ok v xs) : ∀ k, v.ownBlock = some k → ∃ cells q, w.heap[k]? = some (.cells cells q (0, 0)) ∧ q ≠ 37 := fun k hk => by
  obtain ⟨cells, h2⟩ := Kd.R_typed h k hk
  exact ⟨cells, 3, h2, by decide⟩
theorem typ_of_S {ok : Nat → Prop} (h : Kd.S k59 59 w base ok v ls) : ∀ k, v.ownBlock = some k → ∃ cells q, w.heap[k]? = some (.cells cells q (0, 0)) ∧ q ≠ 37 := fun k hk => by
  obtain ⟨cells, h2⟩ := Kd.R_typed (Kd.S_R h) k hk
  exact ⟨cells, 59, h2, by decide⟩
theorem C5.app1 (h : C5 w base v0 v1 v2 v3 v4 o code origs dests loops cases) (hR : Kd.R (Kd.int .i64) 3 w1 base (fun k => new_ w o 1 k = 1) v' xs) (hg : w.grownBy w1 v1.ownBlock) : C5 w1 base v0 v' v2 v3 v4 (new_ w o 1) code xs dests loops cases :=
  ⟨⟨othC h.c3.hc hg (typ_of_R h.c3.ho), hR, othR h.c3.hd (by decide) hg (row_of_R h.c3.ho)⟩, othS h.hl (by decide) hg (row_of_R h.c3.ho), othS h.hs (by decide) hg (row_of_R h.c3.ho)⟩
theorem C5.app2 (h : C5 w base v0 v1 v2 v3 v4 o code origs dests loops cases) (hR : Kd.R (Kd.int .i64) 3 w1 base (fun k => new_ w o 2 k = 2) v' xs) (hg : w.grownBy w1 v2.ownBlock) : C5 w1 base v0 v1 v' v3 v4 (new_ w o 2) code origs xs loops cases :=
  ⟨⟨othC h.c3.hc hg (typ_of_R h.c3.hd), othR h.c3.ho (by decide) hg (row_of_R h.c3.hd), hR⟩, othS h.hl (by decide) hg (row_of_R h.c3.hd), othS h.hs (by decide) hg (row_of_R h.c3.hd)⟩
theorem C5.app3 (h : C5 w base v0 v1 v2 v3 v4 o code origs dests loops cases) (hR : Kd.S k59 59 w1 base (fun k => new_ w o 3 k = 3) v' ls) (hg : w.grownBy w1 v3.ownBlock) : C5 w1 base v0 v1 v2 v' v4 (new_ w o 3) code origs dests ls cases :=
  ⟨⟨othC h.c3.hc hg (typ_of_S h.hl), othR h.c3.ho (by decide) hg (row_of_S h.hl), othR h.c3.hd (by decide) hg (row_of_S h.hl)⟩, hR, othS h.hs (by decide) hg (row_of_S h.hl)⟩
theorem C5.app4 (h : C5 w base v0 v1 v2 v3 v4 o code origs dests loops cases) (hR : Kd.S k59 59 w1 base (fun k => new_ w o 4 k = 4) v' ls) (hg : w.grownBy w1 v4.ownBlock) : C5 w1 base v0 v1 v2 v3 v' (new_ w o 4) code origs dests loops ls :=
  ⟨⟨othC h.c3.hc hg (typ_of_S h.hs), othR h.c3.ho (by decide) hg (row_of_S h.hs), othR h.c3.hd (by decide) hg (row_of_S h.hs)⟩, othS h.hl (by decide) hg (row_of_S h.hs), hR⟩
theorem C5.set1 (h : C5 w base v0 v1 v2 v3 v4 o code origs dests loops cases) (hR : Kd.R (Kd.int .i64) 3 w1 base (fun k => o k = 1) v1 xs) (hg : w.grownBy w1 v1.ownBlock) : C5 w1 base v0 v1 v2 v3 v4 (new_ w o 1) code xs dests loops cases :=
  h.app1 (Kd.R_mono hR (fun k hk => new_same hk)) hg
theorem cut_R {ok : Nat → Prop} {x : Int} (h : Kd.R (Kd.int .i64) 3 w base ok (.slice A (n + 1) c) (xs ++ [x])) : Kd.R (Kd.int .i64) 3 w base ok (.slice A n c) xs := by
  have hn : n = xs.length := by have := (Kd.R_reads' h).1; simpa using this
  have := Kd.R_take h (m := n) (by simp [hn])
  rwa [hn, List.take_left, ← hn] at this
theorem C5.pop1 {x : Int} (h : C5 w base v0 (.slice A (n + 1) c) v2 v3 v4 o code (xs ++ [x]) dests loops cases) : C5 w base v0 (.slice A n c) v2 v3 v4 o code xs dests loops cases := ⟨⟨h.c3.hc, cut_R h.c3.ho, h.c3.hd⟩, h.hl, h.hs⟩
theorem C5.pop2 {x : Int} (h : C5 w base v0 v1 (.slice A (n + 1) c) v3 v4 o code origs (xs ++ [x]) loops cases) : C5 w base v0 v1 (.slice A n c) v3 v4 o code origs xs loops cases := ⟨⟨h.c3.hc, h.c3.ho, cut_R h.c3.hd⟩, h.hl, h.hs⟩
/-- An append to a row that belongs to none of the five. -/
theorem C5.app5 (h : C5 w base v0 v1 v2 v3 v4 o code origs dests loops cases) {ok : Nat → Prop} (hx : Kd.R (Kd.int .i64) 3 w base (fun k => o k = 5) vx xs) (hg : w.grownBy w1 vx.ownBlock) : C5 w1 base v0 v1 v2 v3 v4 (new_ w o 5) code origs dests loops cases :=
  ⟨⟨othC h.c3.hc hg (typ_of_R hx), othR h.c3.ho (by decide) hg (row_of_R hx), othR h.c3.hd (by decide) hg (row_of_R hx)⟩, othS h.hl (by decide) hg (row_of_R hx), othS h.hs (by decide) hg (row_of_R hx)⟩
theorem set_last {α : Type} (ls : List α) (x y : α) : (ls ++ [x]).set ls.length y = ls ++ [y] := by rw [List.set_append_right _ _ (Nat.le_refl _), Nat.sub_self]; rfl
theorem get_last {α : Type} (ls : List α) (x z : α) : (ls ++ [x]).getD ls.length z = x := by rw [List.getD_eq_getElem?_getD, List.getElem?_append_right (Nat.le_refl _), Nat.sub_self]; rfl
/-- The newest of row 3: its outs lent, to be appended to and stored. -/
theorem C5.lend3 (h : C5 w base v0 v1 v2 (.slice (some ⟨g, 0, none⟩) (n + 1) c) v4 o code origs dests (ls ++ [x]) cases) (hn : ls.length = n) : ∃ (oki : Nat → Prop) (vx : Value), Kd.R (Kd.int .i64) 3 w base oki vx x.f1 ∧ w.cell? ⟨g, n * 2, none⟩ = some (.int .i64 x.f0) ∧ w.cell? ⟨g, n * 2 + 1, none⟩ = some vx ∧ (∀ j, w.frozen? ⟨g, n * 2 + j, none⟩ = false) ∧ (∀ k, oki k → o k = 3 ∧ k < w.heap.size ∧ k ≠ g) ∧ base ≤ g ∧ g < w.heap.size ∧
    (∀ {w1 : World} {v' : Value} {xs : List Int}, w.grownBy w1 vx.ownBlock → Kd.R (Kd.int .i64) 3 w1 base (fun k => oki k ∨ w.heap.size ≤ k) v' xs → C5 (w1.setCell ⟨g, n * 2 + 1, none⟩ v') base v0 v1 v2 (.slice (some ⟨g, 0, none⟩) (n + 1) c) v4 (new_ w o 3) code origs dests (ls ++ [⟨x.f0, xs⟩]) cases) ∧
    (∀ a : Int, C5 (w.setCell ⟨g, n * 2, none⟩ (.int .i64 a)) base v0 v1 v2 (.slice (some ⟨g, 0, none⟩) (n + 1) c) v4 (new_ w o 3) code origs dests (ls ++ [⟨a, x.f1⟩]) cases) := by
  subst hn
  have hb := Kd.S_mono (ok' := fun k => o k = 3 ∧ k < w.heap.size) (Kd.S_bound h.hl) (fun k hk => ⟨hk.1, hk.2.2.1⟩)
  have hlen : (ls.length : Int) < ((ls.length + 1 : Nat) : Int) := by omega
  obtain ⟨oki, cs, hcl, hM, hcc, hfr, hoki, hH⟩ := Kd.S_elem hb z59 (ls.length : Int) (by omega) hlen
  rw [Int.toNat_natCast] at hM hcc hfr
  rw [get_last] at hM
  obtain ⟨vx, rfl, hx⟩ := k59_openM hM
  have hog := row_of_S h.hl g (by simp [Value.ownBlock])
  have hgo : o g = 3 := hog.1
  have hbg : base ≤ g := Kd.R_base (Kd.S_R h.hl) g (by simp [Value.ownBlock])
  refine ⟨oki, vx, hx, hcc 0 _ rfl, hcc 1 _ rfl, hfr, fun k hk => ⟨(hoki k hk).1.1, (hoki k hk).1.2, (hoki k hk).2⟩, hbg, hog.2, ?_, ?_⟩
  · intro w1 v' xs hg hR
    have hrow : ∀ k, vx.ownBlock = some k → oki k := fun k hk => hx.1 k hk
    have hrl : ∀ k, vx.ownBlock = some k → o k = 3 ∧ k < w.heap.size := fun k hk => (hoki k (hrow k hk)).1
    have hH1 := Kd.H_mono (ok' := fun k => new_ w o 3 k = 3 ∧ ¬ w.heap.size ≤ k) (Kd.H_grown hH hg hrow) (fun k hk => ⟨new_old hk.1 hk.2, by omega⟩)
    have hseg := Kd.S_seg (okg := fun k => w.heap.size ≤ k) hH1 (by omega) hlen (seg := [v']) (j := 1) (by show 1 + 1 ≤ 2; omega) (x' := ⟨x.f0, xs⟩) (okp := fun k => oki k ∨ w.heap.size ≤ k) (k59_mkM w1 base _ ⟨x.f0, xs⟩ hR) (fun k hk => hk) (fun k hk => ⟨new_new hk, by have := hog.2; omega⟩)
    rw [Int.toNat_natCast, set_last] at hseg
    have hng : new_ w o 3 g = 3 := new_old hog.1 hog.2
    have hcc0 := othC h.c3.hc hg (typ_of_R hx)
    have hbk : ∃ cells, w1.heap[g]? = some (.cells cells 59 (0, 0)) := by
      obtain ⟨cells, h2⟩ := Kd.R_typed (Kd.S_R h.hl) g (by simp [Value.ownBlock])
      exact ⟨cells, blk_grown h2 hg (fun he => (hoki g (hrow g he.symm)).2 rfl)⟩
    obtain ⟨cells, hbk⟩ := hbk
    exact ⟨⟨Kd.R_set hcc0 hbk (fun q hq => by rw [ne53c hq]; decide) _ _, Kd.R_far (p := ⟨g, ls.length * 2 + 1, none⟩) (othR h.c3.ho (by decide) hg hrl) (fun k hk he => by subst he; rw [hng] at hk; cases hk) _, Kd.R_far (p := ⟨g, ls.length * 2 + 1, none⟩) (othR h.c3.hd (by decide) hg hrl) (fun k hk he => by subst he; rw [hng] at hk; cases hk) _⟩, hseg.1, Kd.S_far (p := ⟨g, ls.length * 2 + 1, none⟩) (othS h.hs (by decide) hg hrl) (fun k hk he => by subst he; rw [hng] at hk; cases hk) _⟩
  · intro a
    have hH1 := Kd.H_mono (ok' := fun k => new_ w o 3 k = 3) hH (fun k hk => new_same hk.1)
    have hseg := Kd.S_seg0 hH1 (by omega) hlen (seg := [.int .i64 a]) (j := 0) (by show 0 + 1 ≤ 2; omega) (x' := ⟨a, x.f1⟩) (okp := oki) (k59_mkM w base _ ⟨a, x.f1⟩ hx) (fun k hk => hk)
    rw [Int.toNat_natCast, set_last] at hseg
    have hrl : ∀ k, some g = some k → o k = 3 ∧ k < w.heap.size := fun k hk => by injection hk with hk; subst hk; exact hog
    obtain ⟨cells, hbk⟩ := Kd.R_typed (Kd.S_R h.hl) g (by simp [Value.ownBlock])
    exact ⟨⟨othC h.c3.hc hseg.2 (fun k hk => by injection hk with hk; subst hk; exact ⟨cells, 59, hbk, by decide⟩), othR h.c3.ho (by decide) hseg.2 hrl, othR h.c3.hd (by decide) hseg.2 hrl⟩, hseg.1, othS h.hs (by decide) hseg.2 hrl⟩
/-- The newest of row 3 taken off: its outs become a row of its own. -/
theorem C5.last3 (h : C5 w base v0 v1 v2 (.slice (some ⟨g, 0, none⟩) (n + 1) c) v4 o code origs dests (ls ++ [x]) cases) (hn : ls.length = n) : ∃ (o' : Nat → Nat) (vx : Value), C5 w base v0 v1 v2 (.slice (some ⟨g, 0, none⟩) n c) v4 o' code origs dests ls cases ∧ Kd.R (Kd.int .i64) 3 w base (fun k => o' k = 5) vx x.f1 ∧ w.cell? ⟨g, n * 2, none⟩ = some (.int .i64 x.f0) ∧ w.cell? ⟨g, n * 2 + 1, none⟩ = some vx := by
  classical
  subst hn
  obtain ⟨okx, cs, hS, hM, hox, hcl, hcc⟩ := S_last (z := z59) h.hl rfl
  obtain ⟨vx, rfl, hx⟩ := k59_openM hM
  have hno : ∀ k i, o k = i → i ≠ 3 → ¬ okx k := fun k i hk hi hkx => hi (by rw [← hk]; exact hox k hkx)
  refine ⟨fun k => if okx k then 5 else o k, vx, ⟨⟨h.c3.hc, Kd.R_mono h.c3.ho (fun k hk => ?_), Kd.R_mono h.c3.hd (fun k hk => ?_)⟩, Kd.S_mono hS (fun k hk => ?_), Kd.S_mono h.hs (fun k hk => ?_)⟩, Kd.R_mono hx (fun k hk => ?_), ?_, ?_⟩
  · rw [if_neg (hno k 1 hk (by decide))]; exact hk
  · rw [if_neg (hno k 2 hk (by decide))]; exact hk
  · show (if okx k then 5 else o k) = 3; rw [if_neg hk.2]; exact hk.1
  · rw [if_neg (hno k 4 hk (by decide))]; exact hk
  · show (if okx k then 5 else o k) = 5
    rw [if_pos hk]
  · have := hcc 0 _ rfl
    rwa [add_at, Nat.zero_add] at this
  · have := hcc 1 _ rfl
    rwa [add_at, Nat.zero_add] at this
/-- The newest of row 4: its outs lent, to be appended to and stored. -/
theorem C5.lend4 (h : C5 w base v0 v1 v2 v3 (.slice (some ⟨g, 0, none⟩) (n + 1) c) o code origs dests loops (ls ++ [x])) (hn : ls.length = n) : ∃ (oki : Nat → Prop) (vx : Value), Kd.R (Kd.int .i64) 3 w base oki vx x.f1 ∧ w.cell? ⟨g, n * 2, none⟩ = some (.int .i64 x.f0) ∧ w.cell? ⟨g, n * 2 + 1, none⟩ = some vx ∧ (∀ j, w.frozen? ⟨g, n * 2 + j, none⟩ = false) ∧ (∀ k, oki k → o k = 4 ∧ k < w.heap.size ∧ k ≠ g) ∧ base ≤ g ∧ g < w.heap.size ∧
    (∀ {w1 : World} {v' : Value} {xs : List Int}, w.grownBy w1 vx.ownBlock → Kd.R (Kd.int .i64) 3 w1 base (fun k => oki k ∨ w.heap.size ≤ k) v' xs → C5 (w1.setCell ⟨g, n * 2 + 1, none⟩ v') base v0 v1 v2 v3 (.slice (some ⟨g, 0, none⟩) (n + 1) c) (new_ w o 4) code origs dests loops (ls ++ [⟨x.f0, xs⟩])) ∧
    (∀ a : Int, C5 (w.setCell ⟨g, n * 2, none⟩ (.int .i64 a)) base v0 v1 v2 v3 (.slice (some ⟨g, 0, none⟩) (n + 1) c) (new_ w o 4) code origs dests loops (ls ++ [⟨a, x.f1⟩])) := by
  subst hn
  have hb := Kd.S_mono (ok' := fun k => o k = 4 ∧ k < w.heap.size) (Kd.S_bound h.hs) (fun k hk => ⟨hk.1, hk.2.2.1⟩)
  have hlen : (ls.length : Int) < ((ls.length + 1 : Nat) : Int) := by omega
  obtain ⟨oki, cs, hcl, hM, hcc, hfr, hoki, hH⟩ := Kd.S_elem hb z59 (ls.length : Int) (by omega) hlen
  rw [Int.toNat_natCast] at hM hcc hfr
  rw [get_last] at hM
  obtain ⟨vx, rfl, hx⟩ := k59_openM hM
  have hog := row_of_S h.hs g (by simp [Value.ownBlock])
  have hgo : o g = 4 := hog.1
  have hbg : base ≤ g := Kd.R_base (Kd.S_R h.hs) g (by simp [Value.ownBlock])
  refine ⟨oki, vx, hx, hcc 0 _ rfl, hcc 1 _ rfl, hfr, fun k hk => ⟨(hoki k hk).1.1, (hoki k hk).1.2, (hoki k hk).2⟩, hbg, hog.2, ?_, ?_⟩
  · intro w1 v' xs hg hR
    have hrow : ∀ k, vx.ownBlock = some k → oki k := fun k hk => hx.1 k hk
    have hrl : ∀ k, vx.ownBlock = some k → o k = 4 ∧ k < w.heap.size := fun k hk => (hoki k (hrow k hk)).1
    have hH1 := Kd.H_mono (ok' := fun k => new_ w o 4 k = 4 ∧ ¬ w.heap.size ≤ k) (Kd.H_grown hH hg hrow) (fun k hk => ⟨new_old hk.1 hk.2, by omega⟩)
    have hseg := Kd.S_seg (okg := fun k => w.heap.size ≤ k) hH1 (by omega) hlen (seg := [v']) (j := 1) (by show 1 + 1 ≤ 2; omega) (x' := ⟨x.f0, xs⟩) (okp := fun k => oki k ∨ w.heap.size ≤ k) (k59_mkM w1 base _ ⟨x.f0, xs⟩ hR) (fun k hk => hk) (fun k hk => ⟨new_new hk, by have := hog.2; omega⟩)
    rw [Int.toNat_natCast, set_last] at hseg
    have hng : new_ w o 4 g = 4 := new_old hog.1 hog.2
    have hcc0 := othC h.c3.hc hg (typ_of_R hx)
    have hbk : ∃ cells, w1.heap[g]? = some (.cells cells 59 (0, 0)) := by
      obtain ⟨cells, h2⟩ := Kd.R_typed (Kd.S_R h.hs) g (by simp [Value.ownBlock])
      exact ⟨cells, blk_grown h2 hg (fun he => (hoki g (hrow g he.symm)).2 rfl)⟩
    obtain ⟨cells, hbk⟩ := hbk
    exact ⟨⟨Kd.R_set hcc0 hbk (fun q hq => by rw [ne53c hq]; decide) _ _, Kd.R_far (p := ⟨g, ls.length * 2 + 1, none⟩) (othR h.c3.ho (by decide) hg hrl) (fun k hk he => by subst he; rw [hng] at hk; cases hk) _, Kd.R_far (p := ⟨g, ls.length * 2 + 1, none⟩) (othR h.c3.hd (by decide) hg hrl) (fun k hk he => by subst he; rw [hng] at hk; cases hk) _⟩, Kd.S_far (p := ⟨g, ls.length * 2 + 1, none⟩) (othS h.hl (by decide) hg hrl) (fun k hk he => by subst he; rw [hng] at hk; cases hk) _, hseg.1⟩
  · intro a
    have hH1 := Kd.H_mono (ok' := fun k => new_ w o 4 k = 4) hH (fun k hk => new_same hk.1)
    have hseg := Kd.S_seg0 hH1 (by omega) hlen (seg := [.int .i64 a]) (j := 0) (by show 0 + 1 ≤ 2; omega) (x' := ⟨a, x.f1⟩) (okp := oki) (k59_mkM w base _ ⟨a, x.f1⟩ hx) (fun k hk => hk)
    rw [Int.toNat_natCast, set_last] at hseg
    have hrl : ∀ k, some g = some k → o k = 4 ∧ k < w.heap.size := fun k hk => by injection hk with hk; subst hk; exact hog
    obtain ⟨cells, hbk⟩ := Kd.R_typed (Kd.S_R h.hs) g (by simp [Value.ownBlock])
    exact ⟨⟨othC h.c3.hc hseg.2 (fun k hk => by injection hk with hk; subst hk; exact ⟨cells, 59, hbk, by decide⟩), othR h.c3.ho (by decide) hseg.2 hrl, othR h.c3.hd (by decide) hseg.2 hrl⟩, othS h.hl (by decide) hseg.2 hrl, hseg.1⟩
/-- The newest of row 4 taken off: its outs become a row of its own. -/
theorem C5.last4 (h : C5 w base v0 v1 v2 v3 (.slice (some ⟨g, 0, none⟩) (n + 1) c) o code origs dests loops (ls ++ [x])) (hn : ls.length = n) : ∃ (o' : Nat → Nat) (vx : Value), C5 w base v0 v1 v2 v3 (.slice (some ⟨g, 0, none⟩) n c) o' code origs dests loops ls ∧ Kd.R (Kd.int .i64) 3 w base (fun k => o' k = 5) vx x.f1 ∧ w.cell? ⟨g, n * 2, none⟩ = some (.int .i64 x.f0) ∧ w.cell? ⟨g, n * 2 + 1, none⟩ = some vx := by
  classical
  subst hn
  obtain ⟨okx, cs, hS, hM, hox, hcl, hcc⟩ := S_last (z := z59) h.hs rfl
  obtain ⟨vx, rfl, hx⟩ := k59_openM hM
  have hno : ∀ k i, o k = i → i ≠ 4 → ¬ okx k := fun k i hk hi hkx => hi (by rw [← hk]; exact hox k hkx)
  refine ⟨fun k => if okx k then 5 else o k, vx, ⟨⟨h.c3.hc, Kd.R_mono h.c3.ho (fun k hk => ?_), Kd.R_mono h.c3.hd (fun k hk => ?_)⟩, Kd.S_mono h.hl (fun k hk => ?_), Kd.S_mono hS (fun k hk => ?_)⟩, Kd.R_mono hx (fun k hk => ?_), ?_, ?_⟩
  · rw [if_neg (hno k 1 hk (by decide))]; exact hk
  · rw [if_neg (hno k 2 hk (by decide))]; exact hk
  · rw [if_neg (hno k 3 hk (by decide))]; exact hk
  · show (if okx k then 5 else o k) = 4; rw [if_neg hk.2]; exact hk.1
  · show (if okx k then 5 else o k) = 5
    rw [if_pos hk]
  · have := hcc 0 _ rfl
    rwa [add_at, Nat.zero_add] at this
  · have := hcc 1 _ rfl
    rwa [add_at, Nat.zero_add] at this
theorem raim_n (bb base n cl : Nat) (v0 v1 v2 v3 v4 : Value) (L : Option Addr) (code : List S37) (l : List Int) (t : Int) (w : World) (hn : l.length = n)
    (hB : w.heap[bb]? = some (.cells #[v0, v1, v2, v3, v4] 26 (0, 0))) (hR : Kd.R k37 37 w base (fun _ => True) v0 code) (hL : ∀ W, Kept w W (fun k => some k = v0.ownBlock) → Kd.C (Kd.int .i64) W L l.length l) (hin : ∀ x ∈ l, 0 ≤ x ∧ x < (code.length : Int)) (ht0 : 0 ≤ t) (ht1 : t < 4294967296) :
    Calls Try.prog 28 #[.pointer (some ⟨bb, 0, none⟩), .slice L n cl, .int .i64 t] w fun e w' => e = .returned (.tuple #[]) ∧ Kd.R k37 37 w' base (fun _ => True) v0 (aimed t code l) ∧ Kept w w' (fun k => some k = v0.ownBlock) ∧ Below base w w' := by
  subst hn
  exact raim_calls bb base v0 v1 v2 v3 v4 L cl code (fun _ => True) l t w hB hR hL hin ht0 ht1
theorem C5.away (h : C5 w base v0 v1 v2 v3 v4 o code origs dests loops cases) {k q : Nat} {cells : Array Value} (hq : q = 3 ∨ q = 59) (hk : w.heap[k]? = some (.cells cells q (0, 0))) : ¬ some k = v0.ownBlock := by
  intro hk2
  obtain ⟨c2, h2⟩ := Kd.R_typed h.c3.hc k hk2.symm
  have := h2.symm.trans hk
  injection this with this
  injection this with _ h3
  rcases hq with rfl | rfl <;> exact absurd h3 (by decide)
theorem C5.codeK (h : C5 w base v0 v1 v2 v3 v4 o code origs dests loops cases) (hK : Kept w w1 (fun k => some k = v0.ownBlock)) (hR : Kd.R k37 37 w1 base (fun _ => True) v' code') : C5 w1 base v' v1 v2 v3 v4 o code' origs dests loops cases :=
  ⟨⟨hR, R_kept h.c3.ho hK (fun k q cells _ hq hc => h.away (q3 hq) hc), R_kept h.c3.hd hK (fun k q cells _ hq hc => h.away (q3 hq) hc)⟩, S_kept h.hl hK (fun k q cells _ hq hc => h.away (q59 hq) hc), S_kept h.hs hK (fun k q cells _ hq hc => h.away (q59 hq) hc)⟩
/-- A row of numbers, read behind what was done to the code's row. -/
theorem C5.readK (h : C5 w base v0 v1 v2 v3 v4 o code origs dests loops cases) {ok : Nat → Prop} {L : Option Addr} {l : List Int} {cl : Nat} (hx : Kd.R (Kd.int .i64) 3 w base ok (.slice L l.length cl) l) : ∀ W, Kept w W (fun k => some k = v0.ownBlock) → Kd.C (Kd.int .i64) W L l.length l := fun W hK =>
  (Kd.R_reads' (R_kept hx hK (fun k q cells _ hq hc => h.away (q3 hq) hc))).2.2
theorem one_C {W : World} {g n : Nat} {x : Int} (h : W.cell? ⟨g, n, none⟩ = some (.int .i64 x)) : Kd.C (Kd.int .i64) W (some ⟨g, n, none⟩) [x].length [x] :=
  Kd.C_of_reads (d := 0) ⟨rfl, by simp, fun _ => ⟨_, rfl, fun j hj => by
    have : j = 0 := by simp at hj; omega
    subst this
    rw [add_at, Nat.add_zero]
    exact h⟩⟩
end
end Go.Proofs.Ytmglkgjnhoojaaa.PCodeRows
