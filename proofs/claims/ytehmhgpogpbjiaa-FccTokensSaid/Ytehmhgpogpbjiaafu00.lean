/- Short names for closing terms that stand in many places. -/
import Derived.Below
import Derived.Deep.Draws
import Derived.Deep.AppendLies
import Derived.Maps.AppendAt
import Derived.OwnWalk
import Derived.Laws.BytesArg
import Derived.Laws.MakeOwn
import Derived.Laws.OwnMore
import Derived.Deep.OwnRows
import Derived.Tactics
import Derived.Lib.ConvBytes
import Derived.Laws.Slices
import Derived.WalkKit
import Derived.KernelRfl
import Derived.RowKit3
import Derived.Deep.LoopGhost
import Derived.Deep.QuietTactic
import Derived.BigQuiet
import Derived.WideLaws
import Derived.Deep.DeepCutAuto
import Derived.Deep.CutBlock
import Derived.Deep.RegionHeld3
import Derived.Laws.Rows
import Derived.Lib.AppendStr
import Derived.ArgAppend
import Derived.Laws.IdiomCopy
import Derived.RowKit
import Derived.OrdersHeld
import Derived.Laws.BitsLemmas
import Derived.Laws.StructEq
import Derived.Maps.Own
import Derived.Maps.OwnSet
import Derived.WideKeyEntry
import Derived.Maps.Views
import Derived.Maps.OwnOps
import Derived.StringKeys
import Derived.WalkArith
import Derived.StillTailTactics
import Derived.Laws.IdiomStrings
import Derived.Lib.Bytealg
import Derived.Lib.Walk
import Derived.Lib.Slices
import Derived.Lib.Strings
import Derived.Laws.RangeAny
import Derived.ProofKit
import Derived.OpenShut
import Derived.ShutString
import Derived.ChangeOld
import Derived.SizedLaws
import Derived.Carry
set_option linter.unusedVariables false
namespace Go.Proofs
theorem Zr {p q : Prop} (x : p) (h : p → q := by intro x_; (with_reducible repeat (first | apply Go.Proofs.YtehmhgpogpbjiaaW.PrintWords.Kd.R_alloc | apply Go.Proofs.YtehmhgpogpbjiaaW.PrintWords.Kd.R_drewN | apply Go.Proofs.YtehmhgpogpbjiaaW.PrintWords.Kd.R_drew)); exact x_) : q := h x
theorem Zo {p q : Prop} (x : p) (h : p → q := by intro x_; first | omega | exact Nat.le_refl _ | (obtain ⟨_, _⟩ := x_; omega) | (obtain ⟨_, _, _⟩ := x_; omega)) : q := h x
theorem Z4 {p : Prop} (h : p := by rfl) : p := h
theorem Z6 {p : Prop} (h : p := by simp) : p := h
theorem Z0 {p : Prop} (h : p := by omega) : p := h
theorem Z1 {p : Prop} (h : p := by decide) : p := h
theorem ZE {p : Prop} (h : p := by go_num) : p := h
theorem Z2 {p : Prop} (h : p := by kernel_rfl) : p := h
theorem Zm {p : Prop} (h : p := by simp; omega) : p := h
theorem ZP {p : Prop} (h : p := by go_simp; rfl) : p := h
theorem ZO {p : Prop} (h : p := by simpa using h) : p := h
theorem Z1h {p : Prop} (h : p := by rw [hl]; simp) : p := h
theorem ZG {p : Prop} (h : p := by rw [← hm'.out]) : p := h
theorem Z1g {p : Prop} (h : p := by simp [badT, ht]) : p := h
theorem Z19 {p : Prop} (h : p := by simp [badT, h3]) : p := h
theorem ZV {p : Prop} (h : p := by rw [hog]; decide) : p := h
theorem Z18 {p : Prop} (h : p := by rw [h.len]; decide) : p := h
theorem Z1D {p : Prop} (h : p := by rw [hl]; simp [hy]) : p := h
theorem Zl {p : Prop} (h : p := by rw [← hm'.out]; rfl) : p := h
theorem Z1f {p : Prop} (h : p := by simp [Mk.add]; omega) : p := h
theorem Zk {p : Prop} (h : p := by simp [Value.ownBlock]) : p := h
theorem Z1B {p : Prop} (h : p := by show 0 + 1 ≤ 2; omega) : p := h
theorem Z16 {p : Prop} (h : p := by simp [Value.oneCell']) : p := h
theorem Z1C {p : Prop} (h : p := by simp at hlen ⊢; omega) : p := h
theorem Z17 {p : Prop} (h : p := by rw [← hi]; exact h.le) : p := h
theorem Z1A {p : Prop} (h : p := by rw [h] at hr; cases hr) : p := h
theorem Z15 {p : Prop} (h : p := by rw [← hi]; exact h.inp) : p := h
theorem Z14 {p : Prop} (h : p := by rw [Go.Lib.toList_data]) : p := h
theorem Z1z {p : Prop} (h : p := by simp only [maxLen]; omega) : p := h
theorem Z1e {p : Prop} (h : p := by show m.out.length < _; omega) : p := h
theorem ZD {p : Prop} (h : p := by rw [Go.Lib.toList_data]; simp) : p := h
theorem Z13 {p : Prop} (h : p := by rw [← hq_]; exact (Zr HO_4.out)) : p := h
theorem Z1W {p : Prop} (h : p := by rw [List.length_set]; exact h.lk) : p := h
theorem Z1X {p : Prop} (h : p := by rw [List.length_set]; exact h.lf) : p := h
theorem Z1y {p : Prop} (h : p := by rw [hm]; exact List.mem_cons_self) : p := h
theorem Z1V {p : Prop} (h : p := by exact (Kd.own_of_R (Zr HO_4.out))) : p := h
theorem Z12 {p : Prop} (h : p := by rw [← hg'.out]; exact hB0.out.size) : p := h
theorem ZC {p : Prop} (h : p := by first | omega | exact Nat.le_refl _) : p := h
theorem Z1x {p : Prop} (h : p := by rw [hres.out]; exact ⟨hB5.out, rfl⟩) : p := h
theorem Z1U {p : Prop} (h : p := by rw [hres.out]; exact ⟨hB7.out, rfl⟩) : p := h
theorem Z11 {p : Prop} (h : p := by rw [hres.out]; exact ⟨hB6.out, rfl⟩) : p := h
theorem Z1v {p : Prop} (h : p := by simp [results, Try.results7, go_sem]) : p := h
theorem Z1w {p : Prop} (h : p := by simp [results, Try.results8, go_sem]) : p := h
theorem Z1Q {p : Prop} (h : p := by simp [results, Try.results74, go_sem]) : p := h
theorem Z1q {p : Prop} (h : p := by simp [results, Try.results64, go_sem]) : p := h
theorem Zq {p : Prop} (h : p := by simp [results, Try.results61, go_sem]) : p := h
theorem ZK {p : Prop} (h : p := by simp [results, Try.results62, go_sem]) : p := h
theorem ZT {p : Prop} (h : p := by simp [results, Try.results63, go_sem]) : p := h
theorem Z1R {p : Prop} (h : p := by simp [results, Try.results37, go_sem]) : p := h
theorem ZF {p : Prop} (h : p := by simp [results, Try.results36, go_sem]) : p := h
theorem ZN {p : Prop} (h : p := by simp [results, Try.results35, go_sem]) : p := h
theorem Z1r {p : Prop} (h : p := by simp [results, Try.results65, go_sem]) : p := h
theorem ZB {p : Prop} (h : p := by simp [results, Try.results38, go_sem]) : p := h
theorem Zj {p : Prop} (h : p := by simp [results, Try.results18, go_sem]) : p := h
theorem Zs {p : Prop} (h : p := by simp [results, Try.results79, go_sem]) : p := h
theorem Z1s {p : Prop} (h : p := by simp [results, Try.results80, go_sem]) : p := h
theorem Ze {p : Prop} (h : p := by simp [results, Try.results49, go_sem]) : p := h
theorem Z1S {p : Prop} (h : p := by simp [results, Try.results16, go_sem]) : p := h
theorem Zp {p : Prop} (h : p := by simp [results, Try.results34, go_sem]) : p := h
theorem Z1T {p : Prop} (h : p := by simp [results, Try.results47, go_sem]) : p := h
theorem Z1t {p : Prop} (h : p := by simp [results, Try.results77, go_sem]) : p := h
theorem Zi {p : Prop} (h : p := by simp [results, Try.results76, go_sem]) : p := h
theorem Zg {p : Prop} (h : p := by simp [results, Try.results46, go_sem]) : p := h
theorem ZU {p : Prop} (h : p := by simp [results, Try.results22, go_sem]) : p := h
theorem Zt {p : Prop} (h : p := by simp [results, Try.results15, go_sem]) : p := h
theorem Z1u {p : Prop} (h : p := by simp [results, Try.results54, go_sem]) : p := h
theorem Zv {p : Prop} (h : p := by simp [results, Try.results29, go_sem]) : p := h
theorem Z1P {p : Prop} (h : p := by rw [List.length_set]; exact hX.out.len) : p := h
theorem Z1d {p : Prop} (h : p := by unfold rightP; rw [hk0, hc]; simp [ht]) : p := h
theorem Z10 {p : Prop} (h : p := by unfold rightP; rw [hk0, hc]; simp [h3]) : p := h
theorem Z1p {p : Prop} (h : p := by rw [Uq]; exact List.suffix_refl _) : p := h
theorem Z1O {p : Prop} (h : p := by unfold rightP; rw [hk0, hc]; simp [hn0]) : p := h
theorem ZJ {p : Prop} (h : p := by first | (go_simp; done) | (go_simp; rfl)) : p := h
theorem Z1N {p : Prop} (h : p := by show m1.out.length < _; rw [hmo.out]; omega) : p := h
theorem Z5 {p : Prop} (h : p := by first | (with_reducible assumption) | assumption) : p := h
theorem Z1o {p : Prop} (h : p := by rw [← Ya0 _ _ 1 Z0]; exact hc 1 _ rfl) : p := h
theorem Z2r {p : Prop} (h : p := by rw [← Ya0 _ _ 2 Z0]; exact hc 2 _ rfl) : p := h
theorem Z1M {p : Prop} (h : p := by rw [hres.out]; exact ⟨hB9.out, rfl, _, _, _, h8.out⟩) : p := h
theorem ZA {p : Prop} (h : p := by rw [List.length_append, List.length_singleton]; omega) : p := h
theorem Z2q {p : Prop} (h : p := by rw [hres.out]; exact ⟨hB14.out, rfl, _, _, _, h11.out⟩) : p := h
theorem Z7 {p : Prop} (h : p := by repeat (first | exact Xa.refl _ | apply Xa.step)) : p := h
theorem Z1L {p : Prop} (h : p := by simp only [List.map_toArray, List.map_cons, List.map_nil]; rfl) : p := h
theorem Z2p {p : Prop} (h : p := by intro q hq; rcases List.mem_cons.1 hq with rfl | hq; decide; cases hq) : p := h
theorem Z2o {p : Prop} (h : p := by have := HJ2.out; have := HJ5.out; have := HJ9.out; have := HK4.out; omega) : p := h
theorem Z1c {p : Prop} (h : p := by first | exact Nat.lt_of_le_of_lt (Vn _) Z1 | (simp [twoB]; done)) : p := h
theorem Z3 {p : Prop} (h : p := by first | rfl | (simp; done) | (simp [*]; done) | (simp <;> omega) | (simp [*] <;> omega)) : p := h
theorem ZI {p : Prop} (h : p := by simp only [List.length_append, List.length_cons, List.length_nil, twoB, Vp, hn1'.out]; omega) : p := h
theorem Z2n {p : Prop} (h : p := by subst hgb; exact bp_no hrr.out (hB0.out.trans (T4.out.bel.mono Z12))) : p := h
theorem Z2m {p : Prop} (h : p := by simpa using World.news_of_block (cs := ys.toArray) (t := e) (fr := (0, 0)) (heap_alloc_new W (.cells ys.toArray e))) : p := h
theorem Z2k {p : Prop} (h : p := by have : (1 : Int) < (a0.size : Int) := of_decide_eq_true Z5; omega) : p := h
theorem ZM {p : Prop} (h : p := by have : (0 : Int) < (a0.size : Int) := of_decide_eq_true Z5; omega) : p := h
theorem Z2l {p : Prop} (h : p := by simp only [List.map_cons, List.map_nil, List.length_cons, List.length_nil]; first | (go_simp; done) | (go_simp; rfl)) : p := h
theorem Zz {p : Prop} (h : p := by repeat (first | (with_reducible first | exact HK.out | apply Kept.alloc | apply Kept.drewN | apply Kept.drew) | exact HK.out)) : p := h
theorem Z8 {p : Prop} (h : p := by repeat (first | (with_reducible first | exact HB.out | apply Yl | apply Yn | apply VL) | exact HB.out)) : p := h
theorem Zd {p : Prop} (h : p := by (try simp only [List.map_toArray, List.map_cons, List.map_nil]); first | done | rfl | (simp only [List.length_drop, List.length_take]; rfl)) : p := h
theorem Zx {p : Prop} (h : p := by first | exact Kd.R_nil _ _ _ _ _ | exact Kd.N_nil _ _ _ _ _ | exact Kd.V_nil _ _ _ _ _ | exact Kd.Q_nil _ _ _ _ _ | exact Kd.S_nil _ _ _ _ _) : p := h
theorem Za {p : Prop} (h : p := by repeat (first | (with_reducible first | exact HK.out | apply Yw.set_ | apply Ybo | apply YcL | apply Ybp) | exact HK.out)) : p := h
theorem ZZ {p : Prop} (h : p := by rw [← hq_]; exact Z8) : p := h
theorem Zn {p : Prop} (h : p := by repeat (first | (with_reducible first | exact HB.out | apply Yl | apply Yn | apply VL | refine below_set ?_ GE342.out) | exact HB.out)) : p := h
theorem Z2j {p : Prop} (h : p := by (try simp only [List.map_toArray, List.map_cons, List.map_nil]); first | done | (simp only [hji21]; rfl) | rfl | (simp only [List.length_drop, List.length_take]; rfl)) : p := h
theorem ZL {p : Prop} (h : p := by simp only [wt, List.length_append, List.length_cons, List.length_nil, List.map_append, List.map_cons, List.map_nil, List.sum_append, List.sum_cons, List.sum_nil]; omega) : p := h
theorem Z9 {p : Prop} (h : p := by repeat (first | (with_reducible first | exact HI0.out | apply IsS88.alloc | apply IsS88.drewN | apply IsS88.drew | apply IsS88.set_0 | apply IsS88.set_1) | exact HI0.out)) : p := h
theorem Zc {p : Prop} (h : p := by repeat (first | (with_reducible first | exact HB.out | apply Yl | apply Yn | apply VL | refine below_set ?_ (IsS88.ge HI0.out)) | exact HB.out)) : p := h
theorem Zf {p : Prop} (h : p := by first | rfl | (simp [XG, XF] <;> rfl) | (simp [*, XG, XF] <;> rfl) | (simp [XG, XF] <;> omega) | (simp [*, XG, XF] <;> omega)) : p := h
theorem Z1K {p : Prop} (h : p := by first | exact HK.out.1 | exact (show Kept w _ (fun k_ => P0_ k_) from Zz).1) : p := h
theorem ZH {p : Prop} (h : p := by (with_reducible repeat (first | apply Kd.R_alloc | apply Kd.R_drewN | apply Kd.R_drew)); exact (Kd.R_mono (Kd.R_far (p := ⟨g, 1, none⟩) (IsS88.apart HI0.out HO_4.out Z1) (fun _ hk => hk.2) (.int .i64 (wrap64 (t124 + 1)))) (fun _ h_ => h_.1))) : p := h
theorem Z1n {p : Prop} (h : p := by (with_reducible repeat (first | refine Vx ?_ _ | refine Xq ?_ | refine YZ ?_ _)); refine Vv (cs := #[.int .i64 3, .string (⟨#[]⟩ : ByteArray), .int .i64 x5_1]) ?_ 1 _ rfl; (with_reducible repeat (first | refine Vx ?_ _ | refine Xq ?_ | refine YZ ?_ _)); exact BK342.out) : p := h
theorem ZY {p : Prop} (h : p := by (with_reducible repeat (first | apply Kd.R_alloc | apply Kd.R_drewN | apply Kd.R_drew)); exact (Kd.R_mono (Kd.R_far (p := ⟨gb342, 2, none⟩) (Kd.R_far (p := ⟨gb342, 1, none⟩) (Kd.R_far (p := ⟨gb342, 0, none⟩) (Kd.R_mono HO_4.out (fun k_ hk => (⟨hk, hk.2⟩ : _ ∧ k_ ≠ gb342))) (fun _ hk => hk.2) (.int .i64 3)) (fun _ hk => hk.2) (.string (⟨#[]⟩ : ByteArray))) (fun _ hk => hk.2) (.int .i64 x5_1)) (fun _ h_ => h_.1))) : p := h
theorem Z2i {p : Prop} (h : p := by (with_reducible repeat (first | refine Vx ?_ _ | refine Xq ?_ | refine YZ ?_ _)); refine Vv (cs := #[.int .i64 2, .string (⟨#[]⟩ : ByteArray), .int .i64 x5_1]) ?_ 1 _ rfl; (with_reducible repeat (first | refine Vx ?_ _ | refine Xq ?_ | refine YZ ?_ _)); refine Vv (cs := #[.int .i64 3, .string (⟨#[]⟩ : ByteArray), .int .i64 x5_1]) ?_ 0 _ rfl; (with_reducible repeat (first | refine Vx ?_ _ | refine Xq ?_ | refine YZ ?_ _)); exact BK342.out) : p := h
theorem ZX {p : Prop} (h : p := by (with_reducible repeat (first | refine Vx ?_ _ | refine Xq ?_ | refine YZ ?_ _)); refine Vv (cs := #[.int .i64 3, .string (⟨#[]⟩ : ByteArray), .int .i64 0]) ?_ 2 _ rfl; (with_reducible repeat (first | refine Vx ?_ _ | refine Xq ?_ | refine YZ ?_ _)); refine Vv (cs := #[.int .i64 3, .string (⟨#[]⟩ : ByteArray), .int .i64 0]) ?_ 1 _ rfl; (with_reducible repeat (first | refine Vx ?_ _ | refine Xq ?_ | refine YZ ?_ _)); refine Vv (cs := #[.int .i64 0, .string (⟨#[]⟩ : ByteArray), .int .i64 0]) ?_ 0 _ rfl; (with_reducible repeat (first | refine Vx ?_ _ | refine Xq ?_ | refine YZ ?_ _)); exact BK342.out) : p := h
theorem Z1H {p : Prop} (h : p := by exact ⟨rfl, hBB.out, hTT.out, _, _, _, h2.out⟩) : p := h
theorem Z2a {p : Prop} (h : p := by exact (inv_named h Z0 hr).more Z0 Z0) : p := h
theorem Z2E {p : Prop} (h : p := by exact (Yd3 h Z0 hb).more Z0 (Nat.le_refl _)) : p := h
theorem Z2T {p : Prop} (h : p := by exact k v w' ((h.text hR hg hB).made (keep34 h.r6 Z1 hg))) : p := h
theorem Z2G {p : Prop} (h : p := by exact ⟨fun y hy => (nomatch hy), fun _ => ⟨_, Ev.step e (Ev.now _)⟩⟩) : p := h
theorem Z29 {p : Prop} (h : p := by exact ⟨(h.leads l2 hl2).1.up Z0, (h.leads l2 hl2).2.up Z0⟩) : p := h
theorem Z2t {p : Prop} (h : p := by exact h v1 w1 (Yfh h0 hr hp hokp hfresh hown1 hg1 hat1) hb1 hg1 hat1) : p := h
theorem Z2s {p : Prop} (h : p := by exact d.M_mono (fun k hk => ⟨(ho k hk.1).1, hne k (ho k hk.1).2 hk.2.2.1⟩) h1) : p := h
theorem Z2u {p : Prop} (h : p := by exact ⟨ad, e, hc 0 _ rfl, Z1o⟩) : p := h
theorem Z2C {p : Prop} (h : p := by exact bodyPost_ret (v := .bool true) Z1s rfl ⟨rfl, rfl⟩) : p := h
theorem Z2R {p : Prop} (h : p := by exact bodyPost_ret (v := .bool true) Z1u rfl ⟨rfl, rfl⟩) : p := h
theorem Z1F {p : Prop} (h : p := by exact bodyPost_ret (v := .int .i64 c) ZF rfl ⟨hB4, rfl⟩) : p := h
theorem Z27 {p : Prop} (h : p := by exact bodyPost_ret (v := .int .i64 c) Zj rfl ⟨hB4, rfl⟩) : p := h
theorem Z28 {p : Prop} (h : p := by exact bodyPost_ret (v := .int .i64 13) Zj rfl ⟨hB, rfl⟩) : p := h
theorem Z2A {p : Prop} (h : p := by exact bodyPost_ret (v := .int .i64 2) Zs rfl ⟨rfl, rfl⟩) : p := h
theorem ZQ {p : Prop} (h : p := by exact bodyPost_ret (v := .int .i64 4) Zs rfl ⟨rfl, rfl⟩) : p := h
theorem Z2B {p : Prop} (h : p := by exact bodyPost_ret (v := .int .i64 6) Zs rfl ⟨rfl, rfl⟩) : p := h
theorem Z2D {p : Prop} (h : p := by exact bodyPost_ret (v := .bool false) Z1s rfl ⟨rfl, rfl⟩) : p := h
theorem Z2P {p : Prop} (h : p := by exact bodyPost_ret (v := .int .i64 2) Zt rfl ⟨rfl, rfl⟩) : p := h
theorem ZS {p : Prop} (h : p := by exact bodyPost_ret (v := .int .i64 4) Zt rfl ⟨rfl, rfl⟩) : p := h
theorem Z2Q {p : Prop} (h : p := by exact bodyPost_ret (v := .int .i64 6) Zt rfl ⟨rfl, rfl⟩) : p := h
theorem Z2S {p : Prop} (h : p := by exact bodyPost_ret (v := .bool false) Z1u rfl ⟨rfl, rfl⟩) : p := h
theorem Z22 {p : Prop} (h : p := by exact bodyPost_ret (v := .int .i64 13) ZT rfl ⟨hB0, rfl⟩) : p := h
theorem Z23 {p : Prop} (h : p := by exact bodyPost_ret (v := .int .i64 15) ZB rfl ⟨hB2, rfl⟩) : p := h
theorem Z24 {p : Prop} (h : p := by exact bodyPost_ret (v := .int .i64 22) ZB rfl ⟨hB2, rfl⟩) : p := h
theorem Z2I {p : Prop} (h : p := by exact ⟨fun y hy => st _ (ih.1 y hy), fun hn => by obtain ⟨z, hz⟩ := ih.2 hn; exact ⟨z, st _ hz⟩⟩) : p := h
theorem Z2y {p : Prop} (h : p := by exact bodyPost_ret (v := .int .i64 184) ZN rfl ⟨rfl, rfl⟩) : p := h
theorem Z2L {p : Prop} (h : p := by exact ⟨⟨kk, rfl, (by rw [ho]; exact decide_eq_false Z0)⟩, Yl (Below.refl _ _) _⟩) : p := h
theorem Zy {p : Prop} (h : p := by exact bodyPost_ret (v := .bool false) Zi rfl ⟨hB2.out, rfl⟩) : p := h
theorem Z1m {p : Prop} (h : p := by exact YaF t w hc hk0 rfl rfl rfl Z1g Z1d) : p := h
theorem Z1b {p : Prop} (h : p := by exact YaF t w hc hk0 rfl rfl rfl Z19 Z10) : p := h
theorem Z1G {p : Prop} (h : p := by exact bodyPost_ret (v := .int .i64 c) Zj rfl ⟨hB.trans hB4, rfl⟩) : p := h
theorem Z2h {p : Prop} (h : p := by exact YaF t w hc hk0 rfl rfl rfl (by simp [badT, hn0]) Z1O) : p := h
theorem Z2H {p : Prop} (h : p := by exact ⟨fun y hy => Ev.step e (ih.1 y hy), fun hn => by obtain ⟨z, hz⟩ := ih.2 hn; exact ⟨z, Ev.step e hz⟩⟩) : p := h
theorem Z2z {p : Prop} (h : p := by exact bodyPost_ret (v := .int .i64 15) ZB rfl ⟨Below.refl _ _, rfl⟩) : p := h
theorem Z25 {p : Prop} (h : p := by exact bodyPost_ret (v := .int .i64 13) Zj rfl ⟨Below.refl _ _, rfl⟩) : p := h
theorem Z1i {p : Prop} (h : p := by exact bodyPost_ret (v := .int .i64 0) ZF rfl ⟨hB4, rfl, o4, vs4, h4⟩) : p := h
theorem Z26 {p : Prop} (h : p := by exact bodyPost_ret (v := .int .i64 0) Zj rfl ⟨hB4, rfl, o4, vs4, h4⟩) : p := h
theorem Z1l {p : Prop} (h : p := by exact bodyPost_ret (v := .bool true) Zi rfl ⟨hB6.out, rfl, _, _, _, h3.out⟩) : p := h
theorem Z1k {p : Prop} (h : p := by exact bodyPost_ret (v := .bool true) Zi rfl ⟨hB3.out, rfl, _, _, _, hx2.out⟩) : p := h
theorem Z20 {p : Prop} (h : p := by exact bodyPost_ret (v := .tuple #[.int .i64 c, .bool true]) Zq rfl ⟨hB4, rfl⟩) : p := h
theorem Z1j {p : Prop} (h : p := by exact bodyPost_ret (v := .int .i64 0) Zj rfl ⟨hB.trans hB4, rfl, o4, vs4, h4⟩) : p := h
theorem Z2x {p : Prop} (h : p := by exact bodyPost_ret (v := .int .i64 0) ZT rfl ⟨hB3.trans hB4, rfl, o4, vs4, h4⟩) : p := h
theorem Z2F {p : Prop} (h : p := by exact ⟨{ h3 with next := by show 0 ≤ m3.next + 1 ∧ m3.next + 1 ≤ 4096; omega, wt := h3.wt }, hs, Z0, Z0⟩) : p := h
theorem Z2w {p : Prop} (h : p := by exact bodyPost_ret (v := .tuple #[.string ⟨#[]⟩, .int .i64 15]) Z1q rfl ⟨rfl, rfl⟩) : p := h
theorem ZW {p : Prop} (h : p := by exact bodyPost_ret (v := .tuple #[.int .i64 13, .bool true]) Zg rfl ⟨hB3.out, rfl⟩) : p := h
theorem Z21 {p : Prop} (h : p := by exact bodyPost_ret (v := .tuple #[.int .i64 13, .bool true]) ZK rfl ⟨Below.refl _ _, rfl⟩) : p := h
theorem Z1Z {p : Prop} (h : p := by exact bodyPost_ret (v := .tuple #[.int .i64 0, .bool true]) Zq rfl ⟨hB4, rfl, o4, vs4, h4⟩) : p := h
theorem ZR {p : Prop} (h : p := by exact bodyPost_ret (v := .bool true) Ze rfl ⟨rfl, (Below.refl _ _).alloc (Nat.le_refl _) _⟩) : p := h
theorem Zh {p : Prop} (h : p := by exact bodyPost_ret (v := .bool false) Ze rfl ⟨rfl, (Below.refl _ _).alloc (Nat.le_refl _) _⟩) : p := h
theorem Z2M {p : Prop} (h : p := by exact bodyPost_ret (v := .tuple #[.string ⟨#[]⟩, .int .i64 0, .int .i64 15]) Z1t rfl ⟨hB, _, _, rfl⟩) : p := h
theorem Z1Y {p : Prop} (h : p := by exact bodyPost_ret (v := .tuple #[.int .i64 0, .bool true]) Zq rfl ⟨hB3.trans hB4, rfl, o4, vs4, h4⟩) : p := h
theorem Z1E {p : Prop} (h : p := by exact bodyPost_ret (v := .tuple #[.int .i64 0, .bool true]) ZK rfl ⟨hB3.trans hB4, rfl, o4, vs4, h4⟩) : p := h
theorem Z2c {p : Prop} (h : p := by exact bodyPost_ret (v := .tuple #[.int .i64 15, .bool true]) Zg rfl Z1x) : p := h
theorem Z2d {p : Prop} (h : p := by exact bodyPost_ret (v := .tuple #[.int .i64 14, .bool true]) Zg rfl Z1U) : p := h
theorem Z2f {p : Prop} (h : p := by exact bodyPost_ret (v := .tuple #[.int .i64 15, .bool true]) Zg rfl Z11) : p := h
theorem Z2g {p : Prop} (h : p := by exact bodyPost_ret (v := .tuple #[.int .i64 22, .bool true]) Zg rfl Z11) : p := h
theorem Z2O {p : Prop} (h : p := by exact bodyPost_ret (v := .tuple #[.int .i64 15, .bool true]) Zg rfl (by rw [hres.out]; exact ⟨hB5'.out, rfl⟩)) : p := h
theorem Z2v {p : Prop} (h : p := by exact bodyPost_ret (v := .tuple #[.string ⟨#[]⟩, .int .i64 15]) Z1Q rfl ⟨rfl, Yn (Below.refl _ _) _⟩) : p := h
theorem Zb {p : Prop} (h : p := by exact ⟨Z3, Z7⟩) : p := h
theorem Z2e {p : Prop} (h : p := by exact bodyPost_ret (v := .tuple #[.int .i64 0, .bool true]) Zg rfl Z1M) : p := h
theorem Z2N {p : Prop} (h : p := by exact bodyPost_ret (v := .tuple #[.int .i64 0, .bool true]) Zg rfl Z2q) : p := h
theorem Zw {p : Prop} (h : p := by exact bodyPost_ret (v := .slice (some ⟨w.heap.size, 0, none⟩) 1 1) Zp rfl ⟨_, _, _, rfl, Z1, Yl (Below.refl _ _) _⟩) : p := h
theorem Z2K {p : Prop} (h : p := by exact bodyPost_ret (v := .slice (some ⟨w.heap.size, 0, none⟩) 2 2) Zp rfl ⟨_, _, _, rfl, Z1, Yl (Below.refl _ _) _⟩) : p := h
theorem Z1J {p : Prop} (h : p := by exact bodyPost_ret (v := .tuple #[.slice none 0 0, .bool false]) Zv rfl (bp_no hr.out (hB0.out.trans (T1.out.bel.mono Z12)))) : p := h
theorem Z2U {p : Prop} (h : p := by exact bodyPost_ret (v := .tuple #[.slice A4 n4 c4, .bool false]) Zv rfl Z2n) : p := h
theorem Z1a {p : Prop} (h : p := by exact ⟨Zf, Z8⟩) : p := h
theorem Z2J {p : Prop} (h : p := by exact ⟨_, Zf, (Zr HO_4.out), Z8⟩) : p := h
theorem Z1I {p : Prop} (h : p := by exact ⟨_, Zf, Zx, Z8⟩) : p := h
theorem Z2b {p : Prop} (h : p := by exact ⟨_, Zf, Zx, Zn⟩) : p := h
theorem Zu {p : Prop} (h : p := by exact ⟨Zf, Z9, Zc, Za⟩) : p := h
end Go.Proofs
