-- written by a program of this session (xprint.py) out of the translation
import Derived.Test.YtnnhpbghimjhiaaQScanTx0
import Derived.Test.YtnnhpbghimjhiaaQScanTx5
namespace Go.Proofs.Ytnnhpbghimjhiaa.QScanT
open Go.RowKit Go.Proofs.YtnnhpbghimjhiaaW.PrintWords Go.Proofs.YtnnhpbghimjhiaaW.PrintLast Go.Proofs.YtnnhpbghimjhiaaW.PrintMore
attribute [local go_sem] max2_int min2_int max_two min_two max_three min_three max_four min_four   -- for this text's walks alone
set_option linter.unusedVariables false
set_option linter.unusedSimpArgs false

/-! ### scan_Show: function 12 -/
def hexd (n : Nat) : UInt8 := ([48, 49, 50, 51, 52, 53, 54, 55, 56, 57, 97, 98, 99, 100, 101, 102] : List UInt8).getD n 0
def showB (c : UInt8) : List UInt8 := if c.toNat = 34 ∨ c.toNat < 32 ∨ 126 < c.toNat then [34, 40, hexd (c.toNat / 16), hexd (c.toNat % 16), 41] else [c]
def preL (k : Int) : List UInt8 := if k = 3 then [46] else []
def partL (x : S30) : List UInt8 := (preL x.f0 ++ [34, 32]) ++ x.f1.data.toList.flatMap showB ++ [34]
theorem BW_drew {b : Nat} {p v : Value} {xs : List UInt8} {W : World} (h : BW b p v xs W) : BW b p v xs W.drew := ⟨h.1, own_keep h.2 (fun _ _ => rfl)⟩
theorem used_ptr (b : Nat) : used (.pointer (some ⟨b, 0, none⟩)) b := Or.inr rfl
theorem size5 (a b : UInt8) : (⟨#[34, 40, a, b, 41]⟩ : ByteArray).size = 5 := by kernel_rfl
theorem hexSlice : ∀ h : Nat, h < 16 → ∀ W : World, (Instr.slice 9 (.string ⟨#[48, 49, 50, 51, 52, 53, 54, 55, 56, 57, 97, 98, 99, 100, 101, 102]⟩) (some (.int .u8 (h : Int))) (some (.int .u8 ((h : Int) + 1))) none).run Try.prog W = .ok (.string ⟨#[hexd h]⟩) W
  | 0, _, W => by kernel_rfl
  | 1, _, W => by kernel_rfl
  | 2, _, W => by kernel_rfl
  | 3, _, W => by kernel_rfl
  | 4, _, W => by kernel_rfl
  | 5, _, W => by kernel_rfl
  | 6, _, W => by kernel_rfl
  | 7, _, W => by kernel_rfl
  | 8, _, W => by kernel_rfl
  | 9, _, W => by kernel_rfl
  | 10, _, W => by kernel_rfl
  | 11, _, W => by kernel_rfl
  | 12, _, W => by kernel_rfl
  | 13, _, W => by kernel_rfl
  | 14, _, W => by kernel_rfl
  | 15, _, W => by kernel_rfl
  | n + 16, h, _ => absurd h (by omega)
theorem and15 (c : UInt8) : Go.bits .and .u8 (c.toNat : Int) 15 = ((c.toNat % 16 : Nat) : Int) := by
  have key : ∀ n : Fin 256, Go.bits .and .u8 (n.val : Int) 15 = ((n.val % 16 : Nat) : Int) := by decide +kernel
  exact key ⟨c.toNat, UInt8.toNat_lt c⟩
theorem wrap8 (h : Nat) (hh : h < 16) : IntKind.u8.wrap ((h : Int) + 1) = (h : Int) + 1 := by
  have key : ∀ n : Fin 16, IntKind.u8.wrap ((n.val : Int) + 1) = (n.val : Int) + 1 := by decide +kernel
  exact key ⟨h, hh⟩
theorem hexHi (c : UInt8) (W : World) : (Instr.slice 9 (.string ⟨#[48, 49, 50, 51, 52, 53, 54, 55, 56, 57, 97, 98, 99, 100, 101, 102]⟩) (some (.int .u8 ((c.toNat : Int) / 16))) (some (.int .u8 (IntKind.u8.wrap ((c.toNat : Int) / 16 + 1)))) none).run Try.prog W = .ok (.string ⟨#[hexd (c.toNat / 16)]⟩) W := by
  have h1 : c.toNat / 16 < 16 := by have := UInt8.toNat_lt c; omega
  have e1 : (c.toNat : Int) / 16 = ((c.toNat / 16 : Nat) : Int) := by omega
  rw [e1, wrap8 _ h1]
  exact hexSlice _ h1 W
theorem hexLo (c : UInt8) (W : World) : (Instr.slice 9 (.string ⟨#[48, 49, 50, 51, 52, 53, 54, 55, 56, 57, 97, 98, 99, 100, 101, 102]⟩) (some (.int .u8 (Go.bits .and .u8 (c.toNat : Int) 15))) (some (.int .u8 (IntKind.u8.wrap (Go.bits .and .u8 (c.toNat : Int) 15 + 1)))) none).run Try.prog W = .ok (.string ⟨#[hexd (c.toNat % 16)]⟩) W := by
  have h1 : c.toNat % 16 < 16 := by omega
  rw [and15, wrap8 _ h1]
  exact hexSlice _ h1 W
theorem cat1 (a : UInt8) (W : World) : (binOp .add 9 (.string ⟨#[34, 40]⟩) (.string ⟨#[a]⟩)).run Try.prog W = .ok (.string ⟨#[34, 40, a]⟩) W := by kernel_rfl
theorem cat2 (a b : UInt8) (W : World) : (binOp .add 9 (.string ⟨#[34, 40, a]⟩) (.string ⟨#[b]⟩)).run Try.prog W = .ok (.string ⟨#[34, 40, a, b]⟩) W := by kernel_rfl
theorem cat3 (a b : UInt8) (W : World) : (binOp .add 9 (.string ⟨#[34, 40, a, b]⟩) (.string ⟨#[41]⟩)).run Try.prog W = .ok (.string ⟨#[34, 40, a, b, 41]⟩) W := by kernel_rfl
theorem show_len (l : List UInt8) : (l.flatMap showB).length ≤ 5 * l.length := by
  induction l with
  | nil => simp
  | cons c l ih =>
    rw [List.flatMap_cons, List.length_append]
    have : (showB c).length ≤ 5 := by unfold showB; split <;> simp
    simp only [List.length_cons]
    omega
def scan_Show.go (k : Nat) : List S30 → List ByteArray → Option (ByteArray × Int)
  | [], ps => if ps.length ≤ 140737488355328 ∧ (Lib.join (ps.map (·.data.toList)) [32]).length ≤ 140737488355328 then some (⟨(Lib.join (ps.map (·.data.toList)) [32]).toArray⟩, 0) else none
  | x :: l, ps => (scan_right.f k x.f0 x.f1 x.f2).bind fun b => if b = true then (if ps.length < 8796093022208 then scan_Show.go k l (ps ++ [if x.f0 = 1 then x.f1 else ⟨(partL x).toArray⟩]) else none) else some (⟨#[]⟩, 1)
def scan_Show.f (k : Nat) (l0 : List S30) : Option (ByteArray × Int) := scan_Show.go k l0 []
theorem scan_Show.info9 : (Try.prog.info? 9).map (fun i => (i.zero, i.size, i.bytes)) = some (some (.string ⟨#[]⟩), 1, 16) := by kernel_rfl
theorem scan_Show.mono_go : ∀ (l : List S30) (ps : List ByteArray) k, LeO (scan_Show.go k l ps) (scan_Show.go (k + 1) l ps)
  | [], ps, k => LeO.refl _
  | x :: l, ps, k => by
    unfold scan_Show.go
    exact LeO.bind (scan_right.mono _ _ _ _) (fun _ => LeO.ite (LeO.ite (scan_Show.mono_go l _ k) (LeO.refl _)) (LeO.refl _))
theorem scan_Show.mono : ∀ l0 k, LeO (scan_Show.f k l0) (scan_Show.f (k + 1) l0) := fun l0 k => scan_Show.mono_go l0 [] k
set_option maxHeartbeats 8000000 in
set_option maxRecDepth 100000 in
theorem scan_Show.calls (k : Nat) (A0 : Option Addr) (c0 : Nat) (l0 : List (S30)) (r1 : ByteArray) (r2 : Int) (w : World) (hr0 : Kd.C k30 w A0 l0.length l0) (hc0 : l0.length ≤ c0) (h : scan_Show.f k l0 = some (r1, r2)) :
    Calls Try.prog 12 #[.slice A0 l0.length c0] w fun e w' => e = .returned (.tuple #[.string r1, .int .i64 r2]) ∧ Below w.heap.size w w' := by
  have H := Aside0.mk (show scan_Show.go k (l0.drop 0) [] = some (r1, r2) from h)
  have HR := Aside0.mk hr0
  have hlen := hr0.2.1
  clear h hr0
  go_enter Try.func12, Try.ntmps12
  go_wp2_with fail
  go_loopg [4, 12] l0.length (fun gg v4 s12 wr => ∃ (kk : Nat) (ps : List ByteArray), kk ≤ l0.length ∧ l0.length - kk ≤ gg ∧ s12 = .int .i64 kk ∧ Aside0 (scan_Show.go k (l0.drop kk) ps = some (r1, r2)) ∧ Aside0 (Kd.R Kd.string 9 wr w.heap.size (fun _ => True) v4 ps) ∧ Aside0 (Below w.heap.size w wr))
  case atStart => exact ⟨0, [], Nat.zero_le _, by omega, rfl, H, ⟨Kd.R_nil _ _ _ _ _⟩, ⟨Below.refl _ _⟩⟩
  case round =>
    clear H
    obtain ⟨kk, ps, hkk, hg, rfl, H, HO, HB⟩ := hrel
    by_cases hlt : kk < l0.length
    case neg =>
      have hke : kk = l0.length := by omega
      subst hke
      have hltz : ¬ ((l0.length : Int) < (l0.length : Int)) := by omega
      rw [List.drop_length] at H
      have Hn := H.out
      unfold scan_Show.go at Hn
      split at Hn
      case isFalse => cases Hn
      rename_i hjj
      obtain ⟨hjn, hjl⟩ := hjj
      injection Hn with Hn
      injection Hn with e1 e2
      subst e1 e2
      obtain ⟨A, c, hv, hc, hC⟩ := Kd.R_reads HO.out
      rw [hv] at HO ⊢
      clear hv H
      cases ps with
      | nil =>
        go_wp2_with fail
        refine (Try.strings_Join_none A c ⟨#[32]⟩ _).mono ?_
        rintro e w9 ⟨rfl, rfl⟩
        go_wp2_with fail
        exact bodyPost_ret (v := .tuple #[.string ⟨#[]⟩, .int .i64 0]) (by simp [results, Try.results12, go_sem]) rfl ⟨rfl, HB.out⟩
      | cons y ys =>
        obtain ⟨ad, ea, hcell⟩ := hC.2.2 (by simp)
        subst ea
        obtain ⟨g, eg⟩ := Kd.R_head HO.out
        subst eg
        have hcells : ∀ (j : Nat) x, (y :: ys)[j]? = some x → wr.cell? ⟨g, 0 + j, none⟩ = some (.string x) := by
          intro j x hx
          obtain ⟨cs, h1, h2, h3⟩ := hcell j x hx
          have h4 : cs = [.string x] := h2
          subst h4
          have h5 := h3 0 _ rfl
          rw [show j * Kd.string.sz + 0 = j from by show j * 1 + 0 = j; omega] at h5
          rw [← h5]
          congr 1
          unfold Addr.add
          by_cases e0 : j = 0
          · simp [e0]
          · simp [e0]
        have hbk : g < wr.heap.size := by
          have := hcells 0 y rfl
          exact World.block_lt_of_cell? wr _ this
        have HJ := Aside0.mk (Try.strings_Join g 0 c (y :: ys) ⟨#[32]⟩ wr hcells hbk hjn hc hjl)
        clear hcells hcell hC hbk hjl
        go_wp2_with fail
        refine HJ.out.mono ?_
        rintro e w9 ⟨rfl, hb⟩
        go_wp2_with fail
        exact bodyPost_ret (v := .tuple #[.string _, .int .i64 0]) (by simp [results, Try.results12, go_sem]) rfl ⟨rfl, below_step HB.out hb⟩
    have hltz : (kk : Int) < (l0.length : Int) := by omega
    obtain ⟨ad, e, g0, g1, g2⟩ := at_T30 HR.out (kk : Int) (by omega) hltz
    cases e
    have hdrop : l0.drop kk = rd_T30 l0 (kk : Int) :: l0.drop (kk + 1) := by
      rw [List.drop_eq_getElem_cons hlt]
      congr 1
      simp [rd_T30, List.getD_eq_getElem?_getD, hlt]
    rw [hdrop] at H
    clear hdrop
    generalize rd_T30 l0 (kk : Int) = x at g0 g1 g2 H
    rw [Int.toNat_natCast] at g0 g1 g2
    have h0 := (HB.out.cell (World.block_lt_of_cell? w _ g0)).trans g0
    have h1 := (HB.out.cell (World.block_lt_of_cell? w _ g1)).trans g1
    have h2 := (HB.out.cell (World.block_lt_of_cell? w _ g2)).trans g2
    clear g0 g1 g2
    have Hn := H.out
    unfold scan_Show.go at Hn
    replace Hn := Option.bind_eq_some_iff.mp Hn
    obtain ⟨rt, A10, Hn⟩ := Hn
    have A1 := Aside0.mk A10
    have H' := Aside0.mk Hn
    clear A10 Hn H
    have p2 : (0 ≤ (kk : Int)) = True := eq_true (by omega)
    have p3 : ((kk : Int) < (l0.length : Int)) = True := eq_true (by omega)
    go_upto_region 5 with (fail)
    have HP := Aside0.mk (blk_new wr (.cells #[.int .i64 x.f0, .string x.f1, .int .i64 x.f2] 30))
    have HO1 := Aside0.mk (Kd.R_alloc HO.out (.cells #[.int .i64 x.f0, .string x.f1, .int .i64 x.f2] 30))
    have HB1 := Aside0.mk (below_alloc HB.out (.cells #[.int .i64 x.f0, .string x.f1, .int .i64 x.f2] 30))
    clear HO HB h0 h1 h2 p2 p3
    generalize wr.alloc (.cells #[.int .i64 x.f0, .string x.f1, .int .i64 x.f2] 30) = wa at HP HO1 HB1 ⊢
    generalize wr.heap.size = p at HP ⊢
    have h0 : wa.cell? ⟨p, 0, none⟩ = some (.int .i64 x.f0) := (blk_cell HP.out 0).trans rfl
    have h1 : wa.cell? ⟨p, 1, none⟩ = some (.string x.f1) := (blk_cell HP.out 1).trans rfl
    have h2 : wa.cell? ⟨p, 2, none⟩ = some (.int .i64 x.f2) := (blk_cell HP.out 2).trans rfl
    go_wp2_with fail
    refine (scan_right.calls k x.f0 x.f1 x.f2 rt _ A1.out).mono ?_
    rintro e wb ⟨rfl, hb⟩
    have HP2 := Aside0.mk (blk_below HP.out hb)
    have HO := Aside0.mk (Kd.R_below HO1.out hb)
    have HB := Aside0.mk (below_step HB1.out hb)
    clear HP HO1 HB1 hb h0 h1 h2
    have HP := HP2
    clear HP2
    have Hn := H'.out
    clear H'
    cases rt with
    | false =>
      rw [if_neg (by decide)] at Hn
      injection Hn with Hn
      injection Hn with e1 e2
      subst e1 e2
      go_wp2_with fail
      exact bodyPost_ret (v := .tuple #[.string ⟨#[]⟩, .int .i64 1]) (by simp [results, Try.results12, go_sem]) rfl ⟨rfl, HB.out⟩
    | true =>
      rw [if_pos rfl] at Hn
      by_cases c1 : ps.length < 8796093022208
      case neg => rw [if_neg c1] at Hn; cases Hn
      rw [if_pos c1] at Hn
      have LM := Aside0.mk c1
      clear c1
      have h0 : wb.cell? ⟨p, 0, none⟩ = some (.int .i64 x.f0) := (blk_cell HP.out 0).trans rfl
      have h1 : wb.cell? ⟨p, 1, none⟩ = some (.string x.f1) := (blk_cell HP.out 1).trans rfl
      have h2 : wb.cell? ⟨p, 2, none⟩ = some (.int .i64 x.f2) := (blk_cell HP.out 2).trans rfl
      by_cases c2 : x.f0 = 1
      · rw [if_pos c2] at Hn
        have H := Aside0.mk Hn
        have c3 : (x.f0 == 1) = true := by simpa using c2
        clear Hn c2
        go_wp2_with (at_builtin; refine Kd.R_append Kd.string (w0 := w) w.heap.size rfl (.tmp 22) (.tmp 25) 47 9 (.string ⟨#[]⟩) 16 rfl Try.underlying47 scan_Show.info9 rfl (by decide) (by decide) u4 ps x.f1 [.string x.f1] (fun _ => True) (fun _ => False) rfl rfl ?aP (fun _ hk => hk.elim) ?aF ?aO ?aB ?aS ?aL ?_; (case aP => exact rfl); (case aF => exact fun _ _ => trivial); (case aO => exact HO.out); (case aB => exact HB.out); (case aS => exact HB.out.size); (case aL => have := LM.out; omega); intro v5 w5 ho hb hg hat; have HO9 := Aside0.mk ho; have HB9 := Aside0.mk hb; clear ho hb hg hat)
        go_roundg (l0.length - (kk + 1))
        case measure => omega
        case rel => exact ⟨kk + 1, _, by omega, by omega, by go_num, H, HO9, HB9⟩
      · rw [if_neg c2] at Hn
        have H := Aside0.mk Hn
        have c3 : (x.f0 == 1) = false := by simpa using c2
        have hsz : x.f1.size ≤ 255 := by
          have a := A1.out
          unfold scan_right.f at a
          by_cases z : x.f0 = 2 ∨ x.f0 = 3
          · rw [if_pos z] at a; exact of_decide_eq_true (Option.some.inj a)
          · rw [if_neg z, if_neg c2] at a; cases a
        clear Hn c2 A1
        go_upto_region 10 with (fail)
        have BW0 := Aside0.mk (show BW wb.heap.size (.pointer none) (.slice none 0 0) [] (wb.alloc (.cells #[.pointer none, .slice none 0 0] 52)) from ⟨blk_new _ _, own_nil _ _ _ _⟩)
        have HK := Aside0.mk (below_alloc (Below.refl wb.heap.size wb) (.cells #[.pointer none, .slice none 0 0] 52))
        have HP1 := Aside0.mk (blk_alloc HP.out (.cells #[.pointer none, .slice none 0 0] 52))
        have hbl : wb.heap.size < (wb.alloc (.cells #[.pointer none, .slice none 0 0] 52)).heap.size := blk_lt (blk_new _ _)
        have hpb := blk_lt HP.out
        clear h0 h1 h2
        generalize wb.alloc (.cells #[.pointer none, .slice none 0 0] 52) = wB at BW0 HK HP1 hbl ⊢
        have h0 : wB.cell? ⟨p, 0, none⟩ = some (.int .i64 x.f0) := (blk_cell HP1.out 0).trans rfl
        generalize hbe : wb.heap.size = b at BW0 HK hbl hpb ⊢
        go_upto_if 29 with (fail)
        go_cut [] (fun wc => ∃ q v, used q b ∧ Aside0 (BW b q v (preL x.f0) wc) ∧ Aside0 (Below b wb wc))
        case first =>
          by_cases c4 : x.f0 = 3
          · have c5 : (x.f0 == 3) = true := by simpa using c4
            go_wp2_with fail
            refine (writeByte_calls b _ _ [] 46 _ BW0.out (.inl rfl) (by simp)).mono ?_
            rintro e w5 ⟨rfl, ⟨v', hw⟩, hk⟩
            go_wp2_with fail
            go_meet
            case rel => exact ⟨_, v', .inr rfl, ⟨by rw [show preL x.f0 = [46] by unfold preL; rw [if_pos c4]]; exact hw⟩, ⟨HK.out.trans hk.1⟩⟩
          · have c5 : (x.f0 == 3) = false := by simpa using c4
            go_wp2_with fail
            go_meet
            case rel => exact ⟨_, _, .inl rfl, ⟨by rw [show preL x.f0 = [] by unfold preL; rw [if_neg c4]]; exact BW0.out⟩, HK⟩
        case rest =>
          clear BW0 HK HP1 hbl h0
          obtain ⟨q, v, hq, HW, HK⟩ := hcut
          have HPre := Aside0.mk (show (preL x.f0).length ≤ 1 by unfold preL; split <;> simp)
          generalize hpre : preL x.f0 = pre at HW HPre
          have hw1 := writeStr_calls b q v pre ⟨#[34, 32]⟩ wc HW.out hq (by have := HPre.out; show pre.length + 2 ≤ _; omega)
          go_wp2_with fail
          refine hw1.mono ?_
          rintro e w5 ⟨rfl, ⟨v5, hw5⟩, hk5⟩
          have HW5 := Aside0.mk hw5
          have HK5 := Aside0.mk (HK.out.trans hk5.1)
          have hpb5 : w5.heap[p]? = some (.cells #[.int .i64 x.f0, .string x.f1, .int .i64 x.f2] 30 (0, 0)) := (HK5.out.block p hpb).trans HP.out
          have h1 : w5.cell? ⟨p, 1, none⟩ = some (.string x.f1) := (blk_cell hpb5 1).trans rfl
          clear hw1 hw5 hk5 HW HK hpb5 hq
          have hcv := fun w => run_bytes_of_string (P := Try.prog) w 9 50 5 x.f1 Try.underlying9 Try.underlying50 Try.underlying5
          go_wp2_with fail
          clear hcv h1
          generalize grownCap w5 x.f1.size 0 5 = C
          have hb5 := blk_lt HW5.out.1
          have HKB := Aside0.mk (show KB b w5 ((w5.alloc (.cells (bytesRow x.f1 C) 5 ((bytesRow x.f1 C).size, (bytesRow x.f1 C).size + 1))).drew) from ((KB.refl b w5).alloc hb5 _).drew)
          have HG := Aside0.mk (show ((w5.alloc (.cells (bytesRow x.f1 C) 5 ((bytesRow x.f1 C).size, (bytesRow x.f1 C).size + 1))).drew).heap[w5.heap.size]? = some (.cells (smC x.f1 C 0) 5 ((bytesRow x.f1 C).size, (bytesRow x.f1 C).size + 1)) from by rw [← smC_zero]; exact blk_new _ _)
          have HW6 := Aside0.mk (show BW b (.pointer (some ⟨b, 0, none⟩)) v5 (pre ++ [34, 32]) ((w5.alloc (.cells (bytesRow x.f1 C) 5 ((bytesRow x.f1 C).size, (bytesRow x.f1 C).size + 1))).drew) from ⟨blk_alloc HW5.out.1 _, HW5.out.2.alloc _⟩)
          have HGB := Aside0.mk (show w5.heap.size ≠ b from fun e => by omega)
          generalize (bytesRow x.f1 C).size = N at HKB HG HW6 ⊢
          generalize (w5.alloc (.cells (bytesRow x.f1 C) 5 (N, N + 1))).drew = w6 at HKB HG HW6 ⊢
          have HK6 := Aside0.mk (HK5.out.trans HKB.out.1)
          clear HKB HK5 HW5 hb5
          generalize w5.heap.size = g at HG HGB ⊢
          go_loopg [36] x.f1.size (fun gg s36 wr => ∃ (j : Nat), j ≤ x.f1.size ∧ x.f1.size - j ≤ gg ∧ s36 = .int .i64 j ∧ Aside0 (∃ v, BW b (.pointer (some ⟨b, 0, none⟩)) v (pre ++ [34, 32] ++ (x.f1.data.toList.take j).flatMap showB) wr) ∧ Aside0 (KB b w6 wr))
          case atStart => exact ⟨0, Nat.zero_le _, by omega, rfl, ⟨⟨_, by rw [List.take_zero]; simpa using HW6.out⟩⟩, ⟨KB.refl _ _⟩⟩
          case round =>
            clear HW6
            obtain ⟨j, hj, hgg, rfl, HWX, HKI⟩ := hrel
            by_cases hjl : j < x.f1.size
            case neg =>
              have hje : j = x.f1.size := by omega
              subst hje
              have hjz : ¬ ((x.f1.size : Int) < (x.f1.size : Int)) := by omega
              rw [List.take_of_length_le (by simp)] at HWX
              obtain ⟨vi, hwi⟩ := HWX.out
              have hl1 := show_len x.f1.data.toList
              have hl2 := HPre.out
              have hw8 := writeByte_calls b _ _ _ 34 wr hwi (.inr rfl) (by
                simp only [List.length_append, List.length_cons, List.length_nil, Array.length_toList] at hl1 ⊢
                have : x.f1.data.size = x.f1.size := rfl
                omega)
              clear hwi HWX hl1 hl2 HG
              go_wp2_with fail
              refine hw8.mono ?_
              rintro e w8 ⟨rfl, ⟨v8, h8⟩, hk8⟩
              have hst := string_calls b _ _ _ w8 h8 (.inr rfl)
              have HK8 := Aside0.mk (HK6.out.trans (HKI.out.1.trans hk8.1))
              have HPE := Aside0.mk (show pre ++ [34, 32] ++ x.f1.data.toList.flatMap showB ++ [34] = partL x by rw [← hpre]; rfl)
              rw [HPE.out] at hst
              clear hw8 h8 hk8 HKI HK6
              go_wp2_with fail
              refine hst.mono ?_
              rintro e w9 ⟨rfl, hb9⟩
              have HO9 := Aside0.mk (Kd.R_below HO.out (by rw [hbe]; exact HK8.out.trans hb9))
              have HB9 := Aside0.mk (below_step HB.out (by rw [hbe]; exact HK8.out.trans hb9))
              clear hst HK8 hb9 HO HB
              go_wp2_with (at_builtin; refine Kd.R_append Kd.string (w0 := w) w.heap.size rfl (.tmp 70) (.tmp 72) 47 9 (.string ⟨#[]⟩) 16 rfl Try.underlying47 scan_Show.info9 rfl (by decide) (by decide) u4 ps ⟨(partL x).toArray⟩ [.string ⟨(partL x).toArray⟩] (fun _ => True) (fun _ => False) rfl rfl ?aP (fun _ hk => hk.elim) ?aF ?aO ?aB ?aS ?aL ?_; (case aP => exact rfl); (case aF => exact fun _ _ => trivial); (case aO => exact HO9.out); (case aB => exact HB9.out); (case aS => exact HB9.out.size); (case aL => have := LM.out; omega); intro v10 w10 ho hb hg2 hat; have HO10 := Aside0.mk ho; have HB10 := Aside0.mk hb; clear ho hb hg2 hat)
              go_roundg (l0.length - (kk + 1))
              case measure => omega
              case rel => exact ⟨kk + 1, _, by omega, by omega, by go_num, H, HO10, HB10⟩
            have hjz : (j : Int) < (x.f1.size : Int) := by omega
            obtain ⟨vi, hwi⟩ := HWX.out
            have HW := Aside0.mk hwi
            have HGi := Aside0.mk (HKI.out.blk HG.out HGB.out (fun cur e => by injection e with _ _ e2; injection e2 with e3 e4; omega))
            clear HWX hwi
            have hjl' : j < x.f1.data.toList.length := by simpa using hjl
            have g0 : wr.cell? ⟨g, j, none⟩ = some (.int .u8 ((x.f1.data.toList.getD j 0).toNat : Int)) := by
              rw [blk_at HGi.out, smC_at _ _ _ _ hjl, if_neg (by omega)]
            have htake : x.f1.data.toList.take (j + 1) = x.f1.data.toList.take j ++ [x.f1.data.toList.getD j 0] := by
              rw [List.take_add_one, List.getElem?_eq_getElem hjl', List.getD_eq_getElem?_getD, List.getElem?_eq_getElem hjl']; rfl
            have HT := Aside0.mk htake
            have HLN := Aside0.mk (show (pre ++ [34, 32] ++ (x.f1.data.toList.take j).flatMap showB).length + 10 ≤ 100000000 from by
              have h1 := show_len (x.f1.data.toList.take j)
              have h2 := HPre.out
              have h3 : (x.f1.data.toList.take j).length ≤ j := List.length_take_le _ _
              simp only [List.length_append, List.length_cons, List.length_nil]
              omega)
            generalize x.f1.data.toList.getD j 0 = c at g0 HT
            clear htake hjl'
            have hcb := UInt8.toNat_lt c
            have p2 : (0 ≤ (j : Int)) = True := eq_true (by omega)
            have p3 : ((j : Int) < (x.f1.size : Int)) = True := eq_true (by omega)
            go_upto_region 16 with (fail)
            go_cut [49] (fun s49 wc => s49 = .bool (decide (c.toNat = 34 ∨ c.toNat < 32 ∨ 126 < c.toNat)) ∧ wc = wr)
            case first =>
              by_cases c1 : c.toNat = 34
              · have d1 : ((c.toNat : Int) == 34) = true := by simp; omega
                have dd := decide_eq_true (show c.toNat = 34 ∨ c.toNat < 32 ∨ 126 < c.toNat from .inl c1)
                have DD := Aside0.mk dd
                clear dd c1
                go_wp2_with fail
                go_meet
                case rel => exact ⟨by rw [DD.out], rfl⟩
              · have d1 : ((c.toNat : Int) == 34) = false := by simp; omega
                by_cases c2 : c.toNat < 32
                · have d2 : decide ((c.toNat : Int) < 32) = true := decide_eq_true (by omega)
                  have dd := decide_eq_true (show c.toNat = 34 ∨ c.toNat < 32 ∨ 126 < c.toNat from .inr (.inl c2))
                  have DD := Aside0.mk dd
                  clear dd c1 c2
                  go_wp2_with fail
                  go_meet
                  case rel => exact ⟨by rw [DD.out], rfl⟩
                · have d2 : decide ((c.toNat : Int) < 32) = false := decide_eq_false (by omega)
                  by_cases c4 : 126 < c.toNat
                  · have d3 : decide (126 < (c.toNat : Int)) = true := decide_eq_true (by omega)
                    have dd := decide_eq_true (show c.toNat = 34 ∨ c.toNat < 32 ∨ 126 < c.toNat from .inr (.inr c4))
                    have DD := Aside0.mk dd
                    clear dd c1 c2 c4
                    go_wp2_with fail
                    go_meet
                    case rel => exact ⟨by rw [DD.out], rfl⟩
                  · have d3 : decide (126 < (c.toNat : Int)) = false := decide_eq_false (by omega)
                    have dd := decide_eq_false (show ¬ (c.toNat = 34 ∨ c.toNat < 32 ∨ 126 < c.toNat) by omega)
                    have DD := Aside0.mk dd
                    clear dd c1 c2 c4
                    go_wp2_with fail
                    go_meet
                    case rel => exact ⟨by rw [DD.out], rfl⟩
            case rest =>
              obtain ⟨rfl, rfl⟩ := hcut
              by_cases cc : c.toNat = 34 ∨ c.toNat < 32 ∨ 126 < c.toNat
              · rw [decide_eq_true cc]
                have CS := Aside0.mk (show showB c = [34, 40, hexd (c.toNat / 16), hexd (c.toNat % 16), 41] by unfold showB; rw [if_pos cc])
                have q1 := hexHi c
                have q2 := hexLo c
                have q3 := cat1 (hexd (c.toNat / 16))
                have q4 := cat2 (hexd (c.toNat / 16)) (hexd (c.toNat % 16))
                have q5 := cat3 (hexd (c.toNat / 16)) (hexd (c.toNat % 16))
                clear cc g0
                go_wp2_with fail
                refine start_ (n := 16) (S := fun w' => True) (ds := []) #[false, false, false, false, false, false, false, false, false, false, false, false, false, false, false, false] (by kernel_rfl) rfl rfl (trivial) (fun hHeld => ?_)
                refine with_tab (rfl : rtab .any (opsOf Try.f12 17) = rtab .any (opsOf Try.f12 17)) (fun HT_ => ?_)
                refine pure_ (i := 0) (N := some 50) (v := ?_) (a' := ?_) #[true, false, false, false, false, false, false, false, false, false, false, false, false, false, false, false] rfl rfl (any_of HT_.out (by kernel_rfl)) (fun _ _ _ h => h) (Or.inl ⟨by rfl, ?_⟩) ?_ ?_
                rotate_left
                · intro w'
                  go_simp
                  with_reducible rfl
                rotate_left
                · simp only [Act.put, List.setIfInBounds_toArray, List.set_cons_zero, List.set_cons_succ, i64_w, i32_w]
                  rfl
                refine pure_ (i := 1) (N := some 51) (v := ?_) (a' := ?_) #[true, true, false, false, false, false, false, false, false, false, false, false, false, false, false, false] rfl rfl (any_of HT_.out (by kernel_rfl)) (fun _ _ _ h => h) (Or.inl ⟨by rfl, ?_⟩) ?_ ?_
                rotate_left
                · intro w'
                  go_simp
                  with_reducible rfl
                rotate_left
                · simp only [Act.put, List.setIfInBounds_toArray, List.set_cons_zero, List.set_cons_succ, i64_w, i32_w]
                  rfl
                refine pure_ (i := 2) (N := some 52) (v := ?_) (a' := ?_) #[true, true, true, false, false, false, false, false, false, false, false, false, false, false, false, false] rfl rfl (any_of HT_.out (by kernel_rfl)) (fun _ _ _ h => h) (Or.inl ⟨by rfl, ?_⟩) ?_ ?_
                rotate_left
                · intro w'
                  go_simp
                  with_reducible rfl
                rotate_left
                · simp only [Act.put, List.setIfInBounds_toArray, List.set_cons_zero, List.set_cons_succ, i64_w, i32_w]
                  rfl
                refine pure_ (i := 3) (N := some 53) (v := ?_) (a' := ?_) #[true, true, true, true, false, false, false, false, false, false, false, false, false, false, false, false] rfl rfl (any_of HT_.out (by kernel_rfl)) (fun _ _ _ h => h) (Or.inl ⟨by rfl, ?_⟩) ?_ ?_
                rotate_left
                · intro w'
                  go_simp
                  with_reducible rfl
                rotate_left
                · simp only [Act.put, List.setIfInBounds_toArray, List.set_cons_zero, List.set_cons_succ, i64_w, i32_w]
                  rfl
                refine pure_ (i := 4) (N := some 54) (v := ?_) (a' := ?_) #[true, true, true, true, true, false, false, false, false, false, false, false, false, false, false, false] rfl rfl (any_of HT_.out (by kernel_rfl)) (fun _ _ _ h => h) (Or.inl ⟨by rfl, ?_⟩) ?_ ?_
                rotate_left
                · intro w'
                  go_simp
                  with_reducible rfl
                rotate_left
                · simp only [Act.put, List.setIfInBounds_toArray, List.set_cons_zero, List.set_cons_succ, i64_w, i32_w]
                  rfl
                refine pure_ (i := 5) (N := some 55) (v := ?_) (a' := ?_) #[true, true, true, true, true, true, false, false, false, false, false, false, false, false, false, false] rfl rfl (any_of HT_.out (by kernel_rfl)) (fun _ _ _ h => h) (Or.inl ⟨by rfl, ?_⟩) ?_ ?_
                rotate_left
                · intro w'
                  go_simp
                  with_reducible rfl
                rotate_left
                · simp only [Act.put, List.setIfInBounds_toArray, List.set_cons_zero, List.set_cons_succ, i64_w, i32_w]
                  rfl
                refine pure_ (i := 6) (N := some 56) (v := ?_) (a' := ?_) #[true, true, true, true, true, true, true, false, false, false, false, false, false, false, false, false] rfl rfl (any_of HT_.out (by kernel_rfl)) (fun _ _ _ h => h) (Or.inl ⟨by rfl, ?_⟩) ?_ ?_
                rotate_left
                · intro w'
                  go_simp
                  with_reducible rfl
                rotate_left
                · simp only [Act.put, List.setIfInBounds_toArray, List.set_cons_zero, List.set_cons_succ, i64_w, i32_w]
                  rfl
                refine pure_ (i := 7) (N := some 57) (v := ?_) (a' := ?_) #[true, true, true, true, true, true, true, true, false, false, false, false, false, false, false, false] rfl rfl (any_of HT_.out (by kernel_rfl)) (fun _ _ _ h => h) (Or.inl ⟨by rfl, ?_⟩) ?_ ?_
                rotate_left
                · intro w'
                  go_simp
                  with_reducible rfl
                rotate_left
                · simp only [Act.put, List.setIfInBounds_toArray, List.set_cons_zero, List.set_cons_succ, i64_w, i32_w]
                  rfl
                refine pure_ (i := 8) (N := some 58) (v := ?_) (a' := ?_) #[true, true, true, true, true, true, true, true, true, false, false, false, false, false, false, false] rfl rfl (any_of HT_.out (by kernel_rfl)) (fun _ _ _ h => h) (Or.inl ⟨by rfl, ?_⟩) ?_ ?_
                rotate_left
                · intro w'
                  go_simp
                  with_reducible rfl
                rotate_left
                · simp only [Act.put, List.setIfInBounds_toArray, List.set_cons_zero, List.set_cons_succ, i64_w, i32_w]
                  rfl
                refine pure_ (i := 9) (N := some 59) (v := ?_) (a' := ?_) #[true, true, true, true, true, true, true, true, true, true, false, false, false, false, false, false] rfl rfl (any_of HT_.out (by kernel_rfl)) (fun _ _ _ h => h) (Or.inl ⟨by rfl, ?_⟩) ?_ ?_
                rotate_left
                · intro w'
                  go_simp
                  with_reducible rfl
                rotate_left
                · simp only [Act.put, List.setIfInBounds_toArray, List.set_cons_zero, List.set_cons_succ, i64_w, i32_w]
                  rfl
                refine pure_ (i := 10) (N := some 60) (v := ?_) (a' := ?_) #[true, true, true, true, true, true, true, true, true, true, true, false, false, false, false, false] rfl rfl (any_of HT_.out (by kernel_rfl)) (fun _ _ _ h => h) (Or.inl ⟨by rfl, ?_⟩) ?_ ?_
                rotate_left
                · intro w'
                  go_simp
                  with_reducible rfl
                rotate_left
                · simp only [Act.put, List.setIfInBounds_toArray, List.set_cons_zero, List.set_cons_succ, i64_w, i32_w]
                  rfl
                refine pure_ (i := 11) (N := some 61) (v := ?_) (a' := ?_) #[true, true, true, true, true, true, true, true, true, true, true, true, false, false, false, false] rfl rfl (any_of HT_.out (by kernel_rfl)) (fun _ _ _ h => h) (Or.inl ⟨by rfl, ?_⟩) ?_ ?_
                rotate_left
                · intro w'
                  go_simp
                  with_reducible rfl
                rotate_left
                · simp only [Act.put, List.setIfInBounds_toArray, List.set_cons_zero, List.set_cons_succ, i64_w, i32_w]
                  rfl
                refine pure_ (i := 12) (N := some 62) (v := ?_) (a' := ?_) #[true, true, true, true, true, true, true, true, true, true, true, true, true, false, false, false] rfl rfl (any_of HT_.out (by kernel_rfl)) (fun _ _ _ h => h) (Or.inl ⟨by rfl, ?_⟩) ?_ ?_
                rotate_left
                · intro w'
                  go_simp
                  with_reducible rfl
                rotate_left
                · simp only [Act.put, List.setIfInBounds_toArray, List.set_cons_zero, List.set_cons_succ, i64_w, i32_w]
                  rfl
                refine pure_ (i := 13) (N := some 63) (v := ?_) (a' := ?_) #[true, true, true, true, true, true, true, true, true, true, true, true, true, true, false, false] rfl rfl (any_of HT_.out (by kernel_rfl)) (fun _ _ _ h => h) (Or.inl ⟨by rfl, ?_⟩) ?_ ?_
                rotate_left
                · intro w'
                  go_simp
                  with_reducible rfl
                rotate_left
                · simp only [Act.put, List.setIfInBounds_toArray, List.set_cons_zero, List.set_cons_succ, i64_w, i32_w]
                  rfl
                refine pure_ (i := 14) (N := some 64) (v := ?_) (a' := ?_) #[true, true, true, true, true, true, true, true, true, true, true, true, true, true, true, false] rfl rfl (any_of HT_.out (by kernel_rfl)) (fun _ _ _ h => h) (Or.inl ⟨by rfl, ?_⟩) ?_ ?_
                rotate_left
                · intro w'
                  go_simp
                  with_reducible rfl
                rotate_left
                · simp only [Act.put, List.setIfInBounds_toArray, List.set_cons_zero, List.set_cons_succ, i64_w, i32_w]
                  rfl
                refine one_ (i := 15) (N := some 65) #[true, true, true, true, true, true, true, true, true, true, true, true, true, true, true, true] rfl rfl (one_of HT_.out (by kernel_rfl)) (by decide) (fun K hK => ?_)
                refine goes_ Try.func25 (by kernel_rfl) rfl #[.pointer (some ⟨b, 0, none⟩), .string ⟨#[34, 40, hexd (c.toNat / 16), hexd (c.toNat % 16), 41]⟩] (by rfl) rfl rfl (by simp only [List.map_toArray, List.map_cons, List.map_nil]; rfl) ?_
                with_reducible refine (writeStr_calls b _ _ _ ⟨#[34, 40, hexd (c.toNat / 16), hexd (c.toNat % 16), 41]⟩ _ (BW_drew HW.out) (used_ptr b) (by have := HLN.out; have e5 := size5 (hexd (c.toNat / 16)) (hexd (c.toNat % 16)); omega)).mono ?_
                rintro e w7 ⟨rfl, hw7, hk7⟩
                refine ⟨_, rfl, ?_⟩
                have HW7 := Aside0.mk hw7
                have HK7 := Aside0.mk (HKI.out.drew.trans hk7)
                clear HW HKI hw7 hk7
                refine hK.out _ _ (trivial) (fun hHeld => ?_)
                clear hK K
                refine norm_ (a' := ?_) ?_ ?_
                rotate_left
                · show Act.put _ (some 65) _ = _
                  simp only [Act.put, List.setIfInBounds_toArray, List.set_cons_zero, List.set_cons_succ, i64_w, i32_w]
                  rfl
                refine done_ (done_of HT_.out (by kernel_rfl)) ?_
                clear HT_ hHeld
                go_wp2_with fail
                go_roundg (x.f1.size - (j + 1))
                case measure => omega
                case rel => exact ⟨j + 1, by omega, by omega, by go_num, ⟨by obtain ⟨v7, h7⟩ := HW7.out; exact ⟨v7, by rw [HT.out, List.flatMap_append, ← List.append_assoc, List.flatMap_singleton, CS.out]; exact h7⟩⟩, HK7⟩

              · rw [decide_eq_false cc]
                have CS := Aside0.mk (show showB c = [c] by unfold showB; rw [if_neg cc])
                clear cc g0
                go_wp2_with fail
                refine (writeByte_calls b _ _ _ c _ HW.out (.inr rfl) (by have := HLN.out; omega)).mono ?_
                rintro e w7 ⟨rfl, hw7, hk7⟩
                have HW7 := Aside0.mk hw7
                have HK7 := Aside0.mk (HKI.out.trans hk7)
                clear HW HKI hw7 hk7
                go_wp2_with fail
                go_roundg (x.f1.size - (j + 1))
                case measure => omega
                case rel => exact ⟨j + 1, by omega, by omega, by go_num, ⟨by obtain ⟨v7, h7⟩ := HW7.out; exact ⟨v7, by rw [HT.out, List.flatMap_append, ← List.append_assoc, List.flatMap_singleton, CS.out]; exact h7⟩⟩, HK7⟩

/-! ### tinderref06_blank: function 18 -/
def tinderref06_blank.f (a0 : ByteArray) (a1 : Int) : Option (Bool) := if a1 ≥ 0 then (if a1 < (a0.size : Int) then (if 0 ≤ a1 then (some (decide ((bt a0 a1) ≤ 32))) else (none)) else (some false)) else (some false)
set_option maxHeartbeats 8000000 in
set_option maxRecDepth 100000 in
theorem tinderref06_blank.calls (a0 : ByteArray) (a1 : Int) (r : Bool) (w : World) (h : tinderref06_blank.f a0 a1 = some r) :
    Calls Try.prog 18 #[.string a0, .int .i64 a1] w fun e w' => e = .returned (.bool r) ∧ Drawn0 w w' := by
  have H : (if a1 ≥ 0 then (if a1 < (a0.size : Int) then (if 0 ≤ a1 then (some (decide ((bt a0 a1) ≤ 32))) else (none)) else (some false)) else (some false)) = some r := h
  clear h
  by_cases c3 : a1 ≥ 0
  · rw [if_pos c3] at H
    have c3b0 : decide (0 ≤ a1) = true := decide_eq_true c3
    clear c3
    by_cases c4 : a1 < (a0.size : Int)
    · rw [if_pos c4] at H
      have c4b0 : decide (a1 < (a0.size : Int)) = true := decide_eq_true c4
      clear c4
      by_cases c5 : 0 ≤ a1
      · rw [if_pos c5] at H
        have c5b0 : decide (0 ≤ a1) = true := decide_eq_true c5
        clear c5
        obtain rfl := Option.some.inj H
        have p6 : 0 ≤ (a1 : Int) := of_decide_eq_true (by first | (with_reducible assumption) | assumption)
        have q6 : a1 < (a0.size : Int) := of_decide_eq_true (by first | (with_reducible assumption) | assumption)
        have hx6 := bt_at a0 a1
        replace p6 := eq_true p6
        replace q6 := eq_true q6
        go_enter Try.func18, Try.ntmps18
        go_wp2
        go_ret
        exact ⟨by first | rfl | (simp; done) | (simp [*]; done) | (simp <;> omega) | (simp [*] <;> omega), by repeat (first | exact Drawn0.refl _ | apply Drawn0.step)⟩
      · rw [if_neg c5] at H
        exact absurd H (by simp)
    · rw [if_neg c4] at H
      have c4b0 : decide (a1 < (a0.size : Int)) = false := decide_eq_false c4
      clear c4
      obtain rfl := Option.some.inj H
      go_enter Try.func18, Try.ntmps18
      go_wp2
      go_ret
      exact ⟨by first | rfl | (simp; done) | (simp [*]; done) | (simp <;> omega) | (simp [*] <;> omega), by repeat (first | exact Drawn0.refl _ | apply Drawn0.step)⟩
  · rw [if_neg c3] at H
    have c3b0 : decide (0 ≤ a1) = false := decide_eq_false c3
    clear c3
    obtain rfl := Option.some.inj H
    go_enter Try.func18, Try.ntmps18
    go_wp2
    go_ret
    exact ⟨by first | rfl | (simp; done) | (simp [*]; done) | (simp <;> omega) | (simp [*] <;> omega), by repeat (first | exact Drawn0.refl _ | apply Drawn0.step)⟩

/-! ### tinderref06_Special: function 19 -/
def tinderref06_Special.f (a0 : ByteArray) : Option (Bool) := if a0.toList = ([92] : List UInt8) then (some true) else (if a0.toList = ([40] : List UInt8) then (some true) else (if a0.toList = ([46, 40] : List UInt8) then (some true) else (if a0.toList = ([34] : List UInt8) then (some true) else (some (a0.toList == ([46, 34] : List UInt8))))))
set_option maxHeartbeats 8000000 in
set_option maxRecDepth 100000 in
theorem tinderref06_Special.calls (a0 : ByteArray) (r : Bool) (w : World) (h : tinderref06_Special.f a0 = some r) :
    Calls Try.prog 19 #[.string a0] w fun e w' => e = .returned (.bool r) ∧ Drawn0 w w' := by
  have H : (if a0.toList = ([92] : List UInt8) then (some true) else (if a0.toList = ([40] : List UInt8) then (some true) else (if a0.toList = ([46, 40] : List UInt8) then (some true) else (if a0.toList = ([34] : List UInt8) then (some true) else (some (a0.toList == ([46, 34] : List UInt8))))))) = some r := h
  clear h
  by_cases c2 : a0.toList = ([92] : List UInt8)
  · rw [if_pos c2] at H
    have c2b0 : (a0.toList == ([92] : List UInt8)) = true := beq_iff_eq.mpr c2
    have c2b1 : (a0.toList != ([92] : List UInt8)) = false := bne_eq_false_iff_eq.mpr c2
    clear c2
    obtain rfl := Option.some.inj H
    go_enter Try.func19, Try.ntmps19
    go_wp2
    go_ret
    exact ⟨by first | rfl | (simp; done) | (simp [*]; done) | (simp <;> omega) | (simp [*] <;> omega), by repeat (first | exact Drawn0.refl _ | apply Drawn0.step)⟩
  · rw [if_neg c2] at H
    have c2b0 : (a0.toList == ([92] : List UInt8)) = false := beq_eq_false_iff_ne.mpr c2
    have c2b1 : (a0.toList != ([92] : List UInt8)) = true := bne_iff_ne.mpr c2
    by_cases c3 : a0.toList = ([40] : List UInt8)
    · rw [if_pos c3] at H
      have c3b0 : (a0.toList == ([40] : List UInt8)) = true := beq_iff_eq.mpr c3
      have c3b1 : (a0.toList != ([40] : List UInt8)) = false := bne_eq_false_iff_eq.mpr c3
      clear c3
      obtain rfl := Option.some.inj H
      go_enter Try.func19, Try.ntmps19
      go_wp2
      go_ret
      exact ⟨by first | rfl | (simp; done) | (simp [*]; done) | (simp <;> omega) | (simp [*] <;> omega), by repeat (first | exact Drawn0.refl _ | apply Drawn0.step)⟩
    · rw [if_neg c3] at H
      have c3b0 : (a0.toList == ([40] : List UInt8)) = false := beq_eq_false_iff_ne.mpr c3
      have c3b1 : (a0.toList != ([40] : List UInt8)) = true := bne_iff_ne.mpr c3
      by_cases c4 : a0.toList = ([46, 40] : List UInt8)
      · rw [if_pos c4] at H
        have c4b0 : (a0.toList == ([46, 40] : List UInt8)) = true := beq_iff_eq.mpr c4
        have c4b1 : (a0.toList != ([46, 40] : List UInt8)) = false := bne_eq_false_iff_eq.mpr c4
        clear c4
        obtain rfl := Option.some.inj H
        go_enter Try.func19, Try.ntmps19
        go_wp2
        go_ret
        exact ⟨by first | rfl | (simp; done) | (simp [*]; done) | (simp <;> omega) | (simp [*] <;> omega), by repeat (first | exact Drawn0.refl _ | apply Drawn0.step)⟩
      · rw [if_neg c4] at H
        have c4b0 : (a0.toList == ([46, 40] : List UInt8)) = false := beq_eq_false_iff_ne.mpr c4
        have c4b1 : (a0.toList != ([46, 40] : List UInt8)) = true := bne_iff_ne.mpr c4
        by_cases c5 : a0.toList = ([34] : List UInt8)
        · rw [if_pos c5] at H
          have c5b0 : (a0.toList == ([34] : List UInt8)) = true := beq_iff_eq.mpr c5
          have c5b1 : (a0.toList != ([34] : List UInt8)) = false := bne_eq_false_iff_eq.mpr c5
          clear c5
          obtain rfl := Option.some.inj H
          go_enter Try.func19, Try.ntmps19
          go_wp2
          go_ret
          exact ⟨by first | rfl | (simp; done) | (simp [*]; done) | (simp <;> omega) | (simp [*] <;> omega), by repeat (first | exact Drawn0.refl _ | apply Drawn0.step)⟩
        · rw [if_neg c5] at H
          have c5b0 : (a0.toList == ([34] : List UInt8)) = false := beq_eq_false_iff_ne.mpr c5
          have c5b1 : (a0.toList != ([34] : List UInt8)) = true := bne_iff_ne.mpr c5
          obtain rfl := Option.some.inj H
          go_enter Try.func19, Try.ntmps19
          go_wp2
          go_ret
          exact ⟨by first | rfl | (simp; done) | (simp [*]; done) | (simp <;> omega) | (simp [*] <;> omega), by repeat (first | exact Drawn0.refl _ | apply Drawn0.step)⟩

/-! ### tinderref02_Small: function 33 -/
def tinderref02_Small.f (a0 : Int) : Option (Int) := if a0 ≥ 65 then (if a0 ≤ 90 then (some ((a0 + 32) % 256)) else (some a0)) else (some a0)
set_option maxHeartbeats 8000000 in
set_option maxRecDepth 100000 in
theorem tinderref02_Small.calls (a0 : Int) (r : Int) (w : World) (h : tinderref02_Small.f a0 = some r) :
    Calls Try.prog 33 #[.int .u8 a0] w fun e w' => e = .returned (.int .u8 r) ∧ Drawn0 w w' := by
  have H : (if a0 ≥ 65 then (if a0 ≤ 90 then (some ((a0 + 32) % 256)) else (some a0)) else (some a0)) = some r := h
  clear h
  by_cases c2 : a0 ≥ 65
  · rw [if_pos c2] at H
    have c2b0 : decide (65 ≤ a0) = true := decide_eq_true c2
    clear c2
    by_cases c3 : a0 ≤ 90
    · rw [if_pos c3] at H
      have c3b0 : decide (a0 ≤ 90) = true := decide_eq_true c3
      clear c3
      obtain rfl := Option.some.inj H
      go_enter Try.func33, Try.ntmps33
      go_wp2
      go_ret
      exact ⟨by first | rfl | (simp; done) | (simp [*]; done) | (simp <;> omega) | (simp [*] <;> omega), by repeat (first | exact Drawn0.refl _ | apply Drawn0.step)⟩
    · rw [if_neg c3] at H
      have c3b0 : decide (a0 ≤ 90) = false := decide_eq_false c3
      clear c3
      obtain rfl := Option.some.inj H
      go_enter Try.func33, Try.ntmps33
      go_wp2
      go_ret
      exact ⟨by first | rfl | (simp; done) | (simp [*]; done) | (simp <;> omega) | (simp [*] <;> omega), by repeat (first | exact Drawn0.refl _ | apply Drawn0.step)⟩
  · rw [if_neg c2] at H
    have c2b0 : decide (65 ≤ a0) = false := decide_eq_false c2
    clear c2
    obtain rfl := Option.some.inj H
    go_enter Try.func33, Try.ntmps33
    go_wp2
    go_ret
    exact ⟨by first | rfl | (simp; done) | (simp [*]; done) | (simp <;> omega) | (simp [*] <;> omega), by repeat (first | exact Drawn0.refl _ | apply Drawn0.step)⟩

/-! ### tinderref06_small: function 20 -/
def tinderref06_small.l0 : Nat → ByteArray → List Int → Int → Option (ByteArray)
  | 0, _, _, _ => none
  | k + 1, x0, x3, x4 => if x4 < (x0.size : Int) then (if 0 ≤ x4 then ((tinderref02_Small.f (bt x0 x4)).bind fun t169 => (if x3.length < 140737488355328 then (tinderref06_small.l0 k x0 (x3 ++ [t169]) (wrap64 (x4 + 1))) else (none))) else (none)) else (some (strOfNums x3))
def tinderref06_small.f (k : Nat) (a0 : ByteArray) : Option (ByteArray) := tinderref06_small.l0 k a0 ([] : List Int) 0
theorem tinderref06_small.mono_l : ∀ k, (∀ y0 y1 y2, LeO (tinderref06_small.l0 k y0 y1 y2) (tinderref06_small.l0 (k + 1) y0 y1 y2))
  | 0 => fun _ _ _ r h => by simp [tinderref06_small.l0] at h
  | k + 1 => by
    have ih0 := tinderref06_small.mono_l k
    · intro y0 y1 y2
      unfold tinderref06_small.l0
      repeat' first
      | (with_reducible exact ih0 _ _ _)
      | (with_reducible exact LeO.refl _)
      | (with_reducible exact LeO.none _)
      | (with_reducible refine LeO.ite ?_ ?_)
      | (with_reducible refine LeO.bind ?_ (fun _ => ?_))
      | exact ih0 _ _ _
      | exact LeO.none _
      | refine LeO.ite ?_ ?_
      | refine LeO.bind ?_ (fun _ => ?_)
theorem tinderref06_small.mono : ∀ a0 k, LeO (tinderref06_small.f k a0) (tinderref06_small.f (k + 1) a0) := by
  intro a0 k
  have ih0 := tinderref06_small.mono_l k
  unfold tinderref06_small.f
  repeat' first
      | (with_reducible exact ih0 _ _ _)
      | (with_reducible exact LeO.refl _)
      | (with_reducible exact LeO.none _)
      | (with_reducible refine LeO.ite ?_ ?_)
      | (with_reducible refine LeO.bind ?_ (fun _ => ?_))
      | exact ih0 _ _ _
      | exact LeO.none _
      | refine LeO.ite ?_ ?_
      | refine LeO.bind ?_ (fun _ => ?_)
set_option maxHeartbeats 8000000 in
set_option maxRecDepth 100000 in
theorem tinderref06_small.calls (k : Nat) (a0 : ByteArray) (r : ByteArray) (w : World) (h : tinderref06_small.f k a0 = some r) :
    Calls Try.prog 20 #[.string a0] w fun e w' => e = .returned (.string r) ∧ Below w.heap.size w w' := by
  have HB := Aside0.mk (Below.refl w.heap.size w)
  have H : (tinderref06_small.l0 k a0 ([] : List Int) 0) = some r := h
  clear h
  have H' := Aside0.mk H
  clear H
  go_enter Try.func20, Try.ntmps20
  go_wp2
  go_loopg [3, 4] k (fun kq v3 v4 w' => ∃ (x3_1 : List Int) (x4_1 : Int), v4 = .int .i64 x4_1 ∧ Aside0 (tinderref06_small.l0 kq a0 x3_1 x4_1 = some r) ∧ Aside0 (kq ≤ k) ∧ Aside0 (Kd.R (Kd.int .u8) 5 w' w.heap.size (fun _ => True) v3 x3_1) ∧ Aside0 (Below w.heap.size w w'))
  case atStart => exact ⟨(([] : List Int)), (0), (by first | rfl | (simp; done) | (simp [*]; done) | (simp <;> omega) | (simp [*] <;> omega)), H', ⟨Nat.le_refl _⟩, ⟨by first | exact Kd.R_nil _ _ _ _ _ | exact Kd.N_nil _ _ _ _ _ | exact Kd.V_nil _ _ _ _ _ | exact Kd.Q_nil _ _ _ _ _ | exact Kd.S_nil _ _ _ _ _⟩, ⟨by repeat (first | (with_reducible first | exact HB.out | apply below_alloc | apply pw_below_drewN | apply below_drew1) | exact HB.out)⟩⟩
  case round =>
    clear H'
    obtain ⟨x3_1, x4_1, rfl, HA, HK1, HO_3, HB⟩ := hrel
    cases gk with
    | zero => exact absurd HA.out (by simp [tinderref06_small.l0])
    | succ k1 =>
      have H := HA.out
      clear HA
      simp only [tinderref06_small.l0] at H
      by_cases c2 : x4_1 < (a0.size : Int)
      · rw [if_pos c2] at H
        have c2b0 : decide (x4_1 < (a0.size : Int)) = true := decide_eq_true c2
        clear c2
        by_cases c3 : 0 ≤ x4_1
        · rw [if_pos c3] at H
          have c3b0 : decide (0 ≤ x4_1) = true := decide_eq_true c3
          clear c3
          replace H := Option.bind_eq_some_iff.mp H
          obtain ⟨t169, A50, H⟩ := H
          replace H : (if x3_1.length < 140737488355328 then (tinderref06_small.l0 k1 a0 (x3_1 ++ [t169]) (wrap64 (x4_1 + 1))) else (none)) = some r := H
          have A5 := Aside0.mk A50
          clear A50
          by_cases c6 : x3_1.length < 140737488355328
          · rw [if_pos c6] at H
            have LMc6 := Aside0.mk c6
            clear c6
            obtain ⟨y170, hy170⟩ : ∃ y_ : List Int, y_ = (x3_1 ++ [t169]) := ⟨_, rfl⟩
            replace H : (tinderref06_small.l0 k1 a0 y170 (wrap64 (x4_1 + 1))) = some r := by first | (rw [hy170]; with_reducible exact H) | (have H2_ := (Option.bind_some _ _).symm.trans H; rw [hy170]; with_reducible exact H2_) | (have H2_ := (Option.bind_some _ _).symm.trans H; with_reducible exact H2_) | with_reducible exact H | (rw [hy170]; exact H) | exact H
            have Ny170 := Aside0.mk hy170
            clear hy170
            have H' := Aside0.mk H
            clear H
            have p4 : 0 ≤ (x4_1 : Int) := of_decide_eq_true (by first | (with_reducible assumption) | assumption)
            have q4 : x4_1 < (a0.size : Int) := of_decide_eq_true (by first | (with_reducible assumption) | assumption)
            have hx4 := bt_at a0 x4_1
            replace p4 := eq_true p4
            replace q4 := eq_true q4
            go_wp2_with (first | ((with_reducible refine gate_callee (f := 33) rfl ?_); refine goesL_ (some 15) rfl rfl Try.func33 (by kernel_rfl) rfl #[.int .u8 (bt a0 x4_1)] rfl (by (try simp only [List.map_toArray, List.map_cons, List.map_nil]); first | done | rfl | (simp only [List.length_drop, List.length_take]; rfl)) ?_; (with_reducible refine (tinderref02_Small.calls (bt a0 x4_1) t169 _ A5.out).mono ?_); rintro e w' ⟨rfl, ⟨nd, rfl⟩⟩; refine ⟨_, rfl, ?_⟩) | ((with_reducible refine gate_builtin (b := .append) (xs := #[.tmp 11, .tmp 16]) rfl ?_); at_builtin; refine Kd.R_append (Kd.int .u8) (w0 := w) w.heap.size rfl (.tmp 11) (.tmp 16) 50 5 (.int .u8 0) 1 rfl Try.underlying50 info5 rfl (by decide) (by omega) u3 x3_1 t169 [.int .u8 t169] (fun _ => True) (fun _ => False) rfl rfl ?aP (fun _ hk => hk.elim) ?aF ?aO ?aB ?aS ?aL ?_; (case aP => exact rfl); (case aB => exact (by repeat (first | (with_reducible first | exact HB.out | apply below_alloc | apply pw_below_drewN | apply below_drew1) | exact HB.out))); (case aF => exact (fun _ _ => trivial)); (case aO => exact (by (with_reducible repeat (first | apply Kd.R_alloc | apply Kd.R_drewN | apply Kd.R_drew)); exact HO_3.out)); (case aS => exact (below_size (by repeat (first | (with_reducible first | exact HB.out | apply below_alloc | apply pw_below_drewN | apply below_drew1) | exact HB.out)))); (case aL => have := LMc6.out; omega); intro v171 w7 ho hb hg hat; rw [← Ny170.out] at ho; have n0_ := Aside0.mk (hb); have n1_ := Aside0.mk (ho); clear HB; clear HO_3; have HB := n0_; have HO172 := n1_; clear n0_ n1_; clear ho hb hg hat))
            go_roundg k1
            case measure => have := HK1.out; omega
            case rel => exact ⟨(y170), (wrap64 (x4_1 + 1)), (by first | rfl | (simp; done) | (simp [*]; done) | (simp <;> omega) | (simp [*] <;> omega)), H', ⟨by have := HK1.out; omega⟩, ⟨by (with_reducible repeat (first | apply Kd.R_alloc | apply Kd.R_drewN | apply Kd.R_drew)); exact HO172.out⟩, ⟨by repeat (first | (with_reducible first | exact HB.out | apply below_alloc | apply pw_below_drewN | apply below_drew1) | exact HB.out)⟩⟩
          · rw [if_neg c6] at H
            exact absurd H (by simp)
        · rw [if_neg c3] at H
          exact absurd H (by simp)
      · rw [if_neg c2] at H
        have c2b0 : decide (x4_1 < (a0.size : Int)) = false := decide_eq_false c2
        clear c2
        obtain rfl := Option.some.inj H
        have hcv8 := own_string (P := Try.prog) Try.underlying50 Try.underlying5 Try.underlying9 (Kd.own_of_R HO_3.out)
        go_wp2
        go_ret
        exact ⟨by first | rfl | (simp [errW_none, errW_some] <;> rfl) | (simp [*, errW_none, errW_some] <;> rfl) | (simp [errW_none, errW_some] <;> omega) | (simp [*, errW_none, errW_some] <;> omega), by repeat (first | (with_reducible first | exact HB.out | apply below_alloc | apply pw_below_drewN | apply below_drew1) | exact HB.out)⟩

end Go.Proofs.Ytnnhpbghimjhiaa.QScanT
