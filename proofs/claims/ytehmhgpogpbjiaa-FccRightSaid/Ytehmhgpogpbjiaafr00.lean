/- Short names for closing terms that stand in many places. -/
import Derived.Below
import Derived.Deep.Draws
import Derived.Deep.AppendLies
import Derived.Maps.AppendAt
import Derived.OwnWalk
import Derived.Laws.BytesArg
import Derived.Laws.MakeOwn
import Derived.Laws.OwnMore
import Derived.Deep.OwnRows
import Derived.Tactics
import Derived.Lib.ConvBytes
import Derived.Laws.Slices
import Derived.WalkKit
import Derived.KernelRfl
import Derived.RowKit3
import Derived.Deep.LoopGhost
import Derived.Deep.QuietTactic
import Derived.BigQuiet
import Derived.WideLaws
import Derived.Deep.DeepCutAuto
import Derived.Deep.CutBlock
import Derived.Deep.RegionHeld3
import Derived.Laws.Rows
import Derived.Lib.AppendStr
import Derived.ArgAppend
import Derived.Laws.IdiomCopy
import Derived.RowKit
import Derived.OrdersHeld
import Derived.Laws.BitsLemmas
import Derived.Laws.StructEq
import Derived.Laws.IdiomStrings
import Derived.Lib.Bytealg
import Derived.Lib.Walk
import Derived.Lib.Slices
import Derived.Lib.Strings
import Derived.Maps.Own
import Derived.Maps.OwnSet
import Derived.WideKeyEntry
import Derived.Maps.Views
import Derived.Maps.OwnOps
import Derived.StringKeys
import Derived.WalkArith
import Derived.StillTailTactics
import Derived.Laws.RangeAny
import Derived.ProofKit
import Derived.OpenShut
import Derived.ShutString
import Derived.ChangeOld
import Derived.SizedLaws
import Derived.Carry
set_option linter.unusedVariables false
namespace Go.Proofs
theorem Zr {p q : Prop} (x : p) (h : p → q := by intro x_; (with_reducible repeat (first | apply Go.Proofs.YtehmhgpogpbjiaaW.PrintWords.Kd.R_alloc | apply Go.Proofs.YtehmhgpogpbjiaaW.PrintWords.Kd.R_drewN | apply Go.Proofs.YtehmhgpogpbjiaaW.PrintWords.Kd.R_drew)); exact x_) : q := h x
theorem Zo {p q : Prop} (x : p) (h : p → q := by intro x_; first | omega | exact Nat.le_refl _ | (obtain ⟨_, _⟩ := x_; omega) | (obtain ⟨_, _, _⟩ := x_; omega)) : q := h x
theorem Z7 {p : Prop} (h : p := by rfl) : p := h
theorem Z3 {p : Prop} (h : p := by simp) : p := h
theorem Z0 {p : Prop} (h : p := by omega) : p := h
theorem Z1 {p : Prop} (h : p := by decide) : p := h
theorem Zy {p : Prop} (h : p := by go_num) : p := h
theorem Z2 {p : Prop} (h : p := by kernel_rfl) : p := h
theorem Zj {p : Prop} (h : p := by simp; omega) : p := h
theorem ZN {p : Prop} (h : p := by go_simp; rfl) : p := h
theorem ZM {p : Prop} (h : p := by simpa using h) : p := h
theorem Z1a {p : Prop} (h : p := by rw [hl]; simp) : p := h
theorem Z19 {p : Prop} (h : p := by simp [badT, ht]) : p := h
theorem Z10 {p : Prop} (h : p := by simp [badT, h3]) : p := h
theorem Z11 {p : Prop} (h : p := by rw [htl]; omega) : p := h
theorem Zg {p : Prop} (h : p := by simp only; omega) : p := h
theorem ZZ {p : Prop} (h : p := by rw [h.len]; decide) : p := h
theorem Z1q {p : Prop} (h : p := by rw [hl]; simp [hy]) : p := h
theorem Z1r {p : Prop} (h : p := by first | rfl | simp) : p := h
theorem Z18 {p : Prop} (h : p := by simp [Mk.add]; omega) : p := h
theorem ZB {p : Prop} (h : p := by simp [Value.ownBlock]) : p := h
theorem Z1p {p : Prop} (h : p := by simp at hlen ⊢; omega) : p := h
theorem Z1o {p : Prop} (h : p := by rw [h] at hr; cases hr) : p := h
theorem Z1n {p : Prop} (h : p := by simp only [maxLen]; omega) : p := h
theorem Z1K {p : Prop} (h : p := by rw [List.length_drop]; omega) : p := h
theorem Z17 {p : Prop} (h : p := by show m.out.length < _; omega) : p := h
theorem ZY {p : Prop} (h : p := by rw [← hq_]; exact (Zr HO_4.out)) : p := h
theorem Z1I {p : Prop} (h : p := by exact (Kd.own_of_R (Zr HO_4.out))) : p := h
theorem Z1J {p : Prop} (h : p := by rw [hm]; exact List.mem_cons_self) : p := h
theorem ZX {p : Prop} (h : p := by rw [← hg'.out]; exact hB0.out.size) : p := h
theorem ZD {p : Prop} (h : p := by first | omega | exact Nat.le_refl _) : p := h
theorem Z1m {p : Prop} (h : p := by simp [results, Try.results7, go_sem]) : p := h
theorem ZW {p : Prop} (h : p := by first | rfl | rw [v2] | rw [hw2.out]) : p := h
theorem Z1H {p : Prop} (h : p := by simp [results, Try.results5, go_sem]) : p := h
theorem Z1E {p : Prop} (h : p := by simp [results, Try.results16, go_sem]) : p := h
theorem Z1i {p : Prop} (h : p := by simp [results, Try.results64, go_sem]) : p := h
theorem Zq {p : Prop} (h : p := by simp [results, Try.results61, go_sem]) : p := h
theorem ZI {p : Prop} (h : p := by simp [results, Try.results62, go_sem]) : p := h
theorem ZR {p : Prop} (h : p := by simp [results, Try.results63, go_sem]) : p := h
theorem Z1F {p : Prop} (h : p := by simp [results, Try.results37, go_sem]) : p := h
theorem ZA {p : Prop} (h : p := by simp [results, Try.results36, go_sem]) : p := h
theorem ZL {p : Prop} (h : p := by simp [results, Try.results35, go_sem]) : p := h
theorem Z1j {p : Prop} (h : p := by simp [results, Try.results65, go_sem]) : p := h
theorem Zz {p : Prop} (h : p := by simp [results, Try.results38, go_sem]) : p := h
theorem Zi {p : Prop} (h : p := by simp [results, Try.results18, go_sem]) : p := h
theorem Zs {p : Prop} (h : p := by simp [results, Try.results79, go_sem]) : p := h
theorem Z1k {p : Prop} (h : p := by simp [results, Try.results80, go_sem]) : p := h
theorem Ze {p : Prop} (h : p := by simp [results, Try.results49, go_sem]) : p := h
theorem Zm {p : Prop} (h : p := by simp [results, Try.results34, go_sem]) : p := h
theorem Zt {p : Prop} (h : p := by simp [results, Try.results15, go_sem]) : p := h
theorem Z1l {p : Prop} (h : p := by simp [results, Try.results54, go_sem]) : p := h
theorem Zv {p : Prop} (h : p := by simp [results, Try.results29, go_sem]) : p := h
theorem Z1G {p : Prop} (h : p := by simp [results, Try.results11, go_sem]) : p := h
theorem Z1D {p : Prop} (h : p := by rw [List.length_set]; exact hX.out.len) : p := h
theorem Z16 {p : Prop} (h : p := by unfold rightP; rw [hk0, hc]; simp [ht]) : p := h
theorem ZV {p : Prop} (h : p := by unfold rightP; rw [hk0, hc]; simp [h3]) : p := h
theorem ZK {p : Prop} (h : p := by show (0 : Nat) < 1000000000000; decide) : p := h
theorem Z1h {p : Prop} (h : p := by rw [Uj]; exact List.suffix_refl _) : p := h
theorem Z1C {p : Prop} (h : p := by unfold rightP; rw [hk0, hc]; simp [hn0]) : p := h
theorem Zx {p : Prop} (h : p := by first | (go_simp; done) | (go_simp; rfl)) : p := h
theorem Z1A {p : Prop} (h : p := by show m1.out.length < _; rw [hmo.out]; omega) : p := h
theorem Z1B {p : Prop} (h : p := by rw [hkn.out, if_neg h182.out, Nat.add_zero]) : p := h
theorem Zp {p : Prop} (h : p := by first | rfl | (simp; done) | (simp [*]; done)) : p := h
theorem Z5 {p : Prop} (h : p := by first | (with_reducible assumption) | assumption) : p := h
theorem Z1g {p : Prop} (h : p := by rw [← YaO _ _ 1 Z0]; exact hc 1 _ rfl) : p := h
theorem Z2a {p : Prop} (h : p := by rw [← YaO _ _ 2 Z0]; exact hc 2 _ rfl) : p := h
theorem ZC {p : Prop} (h : p := by simp [results, Try.results28, go_sem, r0, r1, r2, r3]) : p := h
theorem Z8 {p : Prop} (h : p := by repeat (first | exact YZ.refl _ | apply YZ.step)) : p := h
theorem Z28 {p : Prop} (h : p := by exact (fun k_ hk => Kd.fresh' (Kd.R_lt (Zr HO241.out)) k_ hk)) : p := h
theorem Z29 {p : Prop} (h : p := by exact (fun k_ hk => Kd.fresh' (Kd.R_lt (Zr HO250.out)) k_ hk)) : p := h
theorem Z1z {p : Prop} (h : p := by simp only [List.map_toArray, List.map_cons, List.map_nil]; rfl) : p := h
theorem Z27 {p : Prop} (h : p := by have := HJ2.out; have := HJ5.out; have := HJ9.out; have := HK4.out; omega) : p := h
theorem ZH {p : Prop} (h : p := by have := htl; simp only [List.length_cons, List.length_append] at this ⊢; omega) : p := h
theorem Z15 {p : Prop} (h : p := by first | exact Nat.lt_of_le_of_lt (XT _) Z1 | (simp [twoB]; done)) : p := h
theorem Z4 {p : Prop} (h : p := by first | rfl | (simp; done) | (simp [*]; done) | (simp <;> omega) | (simp [*] <;> omega)) : p := h
theorem ZG {p : Prop} (h : p := by first | rfl | (simp [Xv, Xu] <;> rfl) | (simp [*, Xv, Xu] <;> rfl)) : p := h
theorem ZF {p : Prop} (h : p := by simp only [List.length_append, List.length_cons, List.length_nil, twoB, YG, hn1'.out]; omega) : p := h
theorem Z26 {p : Prop} (h : p := by subst hgb; exact bp_no hrr.out (hB0.out.trans (T4.out.bel.mono ZX))) : p := h
theorem Z25 {p : Prop} (h : p := by simpa using World.news_of_block (cs := ys.toArray) (t := e) (fr := (0, 0)) (heap_alloc_new W (.cells ys.toArray e))) : p := h
theorem Z24 {p : Prop} (h : p := by have : (1 : Int) < (a0.size : Int) := of_decide_eq_true Z5; omega) : p := h
theorem ZJ {p : Prop} (h : p := by have : (0 : Int) < (a0.size : Int) := of_decide_eq_true Z5; omega) : p := h
theorem Zn {p : Prop} (h : p := by repeat (first | (with_reducible first | exact HK.out | apply Kept.alloc | apply Kept.drewN | apply Kept.drew) | exact HK.out)) : p := h
theorem Z6 {p : Prop} (h : p := by repeat (first | (with_reducible first | exact HB.out | apply Yc | apply Xi | apply VA) | exact HB.out)) : p := h
theorem Z23 {p : Prop} (h : p := by (with_reducible repeat (first | apply Kd.R_alloc | apply Kd.R_drewN | apply Kd.R_drew)); exact Kd.R_mono HO237.out (fun _ hk => hk.2)) : p := h
theorem Zb {p : Prop} (h : p := by (try simp only [List.map_toArray, List.map_cons, List.map_nil]); first | done | rfl | (simp only [List.length_drop, List.length_take]; rfl)) : p := h
theorem Zl {p : Prop} (h : p := by first | exact Kd.R_nil _ _ _ _ _ | exact Kd.N_nil _ _ _ _ _ | exact Kd.V_nil _ _ _ _ _ | exact Kd.Q_nil _ _ _ _ _ | exact Kd.S_nil _ _ _ _ _) : p := h
theorem Z22 {p : Prop} (h : p := by have := Xa (w.alloc tz) (.cells #[.int .i64 f, .int .u32 0, .string ⟨#[]⟩, .int .i64 b0] 37); rw [World.size_alloc] at this; exact this) : p := h
theorem Za {p : Prop} (h : p := by repeat (first | (with_reducible first | exact HK.out | apply Yw.set_ | apply Ybd | apply Yce | apply Ybe) | exact HK.out)) : p := h
theorem Z14 {p : Prop} (h : p := by repeat (first | exact HR0.out | (with_reducible refine Kd.C_alloc ?_ _) | (with_reducible refine Kd.C_drewN ?_ _) | (with_reducible refine Kd.C_drew ?_))) : p := h
theorem ZU {p : Prop} (h : p := by rw [← hq_]; exact Z6) : p := h
theorem Zk {p : Prop} (h : p := by repeat (first | (with_reducible first | exact HB.out | apply Yc | apply Xi | apply VA | refine below_set ?_ GE342.out) | exact HB.out)) : p := h
theorem Z21 {p : Prop} (h : p := by (try simp only [List.map_toArray, List.map_cons, List.map_nil]); first | done | (simp only [hji21]; rfl) | rfl | (simp only [List.length_drop, List.length_take]; rfl)) : p := h
theorem Z9 {p : Prop} (h : p := by repeat (first | (with_reducible first | exact HI0.out | apply IsS88.alloc | apply IsS88.drewN | apply IsS88.drew | apply IsS88.set_0 | apply IsS88.set_1) | exact HI0.out)) : p := h
theorem Z1f {p : Prop} (h : p := by repeat (first | exact (Kd.C_below HR0.out HB.out) | (with_reducible refine Kd.C_alloc ?_ _) | (with_reducible refine Kd.C_drewN ?_ _) | (with_reducible refine Kd.C_drew ?_))) : p := h
theorem Zd {p : Prop} (h : p := by repeat (first | (with_reducible first | exact HB.out | apply Yc | apply Xi | apply VA | refine below_set ?_ (IsS88.ge HI0.out)) | exact HB.out)) : p := h
theorem Zf {p : Prop} (h : p := by first | rfl | (simp [Xv, Xu] <;> rfl) | (simp [*, Xv, Xu] <;> rfl) | (simp [Xv, Xu] <;> omega) | (simp [*, Xv, Xu] <;> omega)) : p := h
theorem Z1y {p : Prop} (h : p := by first | exact HK.out.1 | exact (show Kept w _ (fun k_ => P0_ k_) from Zn).1) : p := h
theorem ZE {p : Prop} (h : p := by (with_reducible repeat (first | apply Kd.R_alloc | apply Kd.R_drewN | apply Kd.R_drew)); exact (Kd.R_mono (Kd.R_far (p := ⟨g, 1, none⟩) (IsS88.apart HI0.out HO_4.out Z1) (fun _ hk => hk.2) (.int .i64 (wrap64 (t124 + 1)))) (fun _ h_ => h_.1))) : p := h
theorem Z1e {p : Prop} (h : p := by (with_reducible repeat (first | refine Vs ?_ _ | refine XZ ?_ | refine Xh ?_ _)); refine YM (cs := #[.int .i64 3, .string (⟨#[]⟩ : ByteArray), .int .i64 x5_1]) ?_ 1 _ rfl; (with_reducible repeat (first | refine Vs ?_ _ | refine XZ ?_ | refine Xh ?_ _)); exact BK342.out) : p := h
theorem ZT {p : Prop} (h : p := by (with_reducible repeat (first | apply Kd.R_alloc | apply Kd.R_drewN | apply Kd.R_drew)); exact (Kd.R_mono (Kd.R_far (p := ⟨gb342, 2, none⟩) (Kd.R_far (p := ⟨gb342, 1, none⟩) (Kd.R_far (p := ⟨gb342, 0, none⟩) (Kd.R_mono HO_4.out (fun k_ hk => (⟨hk, hk.2⟩ : _ ∧ k_ ≠ gb342))) (fun _ hk => hk.2) (.int .i64 3)) (fun _ hk => hk.2) (.string (⟨#[]⟩ : ByteArray))) (fun _ hk => hk.2) (.int .i64 x5_1)) (fun _ h_ => h_.1))) : p := h
theorem Z20 {p : Prop} (h : p := by (with_reducible repeat (first | refine Vs ?_ _ | refine XZ ?_ | refine Xh ?_ _)); refine YM (cs := #[.int .i64 2, .string (⟨#[]⟩ : ByteArray), .int .i64 x5_1]) ?_ 1 _ rfl; (with_reducible repeat (first | refine Vs ?_ _ | refine XZ ?_ | refine Xh ?_ _)); refine YM (cs := #[.int .i64 3, .string (⟨#[]⟩ : ByteArray), .int .i64 x5_1]) ?_ 0 _ rfl; (with_reducible repeat (first | refine Vs ?_ _ | refine XZ ?_ | refine Xh ?_ _)); exact BK342.out) : p := h
theorem ZS {p : Prop} (h : p := by (with_reducible repeat (first | refine Vs ?_ _ | refine XZ ?_ | refine Xh ?_ _)); refine YM (cs := #[.int .i64 3, .string (⟨#[]⟩ : ByteArray), .int .i64 0]) ?_ 2 _ rfl; (with_reducible repeat (first | refine Vs ?_ _ | refine XZ ?_ | refine Xh ?_ _)); refine YM (cs := #[.int .i64 3, .string (⟨#[]⟩ : ByteArray), .int .i64 0]) ?_ 1 _ rfl; (with_reducible repeat (first | refine Vs ?_ _ | refine XZ ?_ | refine Xh ?_ _)); refine YM (cs := #[.int .i64 0, .string (⟨#[]⟩ : ByteArray), .int .i64 0]) ?_ 0 _ rfl; (with_reducible repeat (first | refine Vs ?_ _ | refine XZ ?_ | refine Xh ?_ _)); exact BK342.out) : p := h
theorem Z1w {p : Prop} (h : p := by exact ⟨rfl, hBB.out, hTT.out, _, _, _, h2.out⟩) : p := h
theorem Z2b {p : Prop} (h : p := by exact ⟨⟨h1, h3, h4, q, List.mem_cons_of_mem _ hq, hc⟩, h2⟩) : p := h
theorem Z1Y {p : Prop} (h : p := by exact (inv_named h Z0 hr).more Z0 Z0) : p := h
theorem Z2t {p : Prop} (h : p := by exact (Ydq h Z0 hb).more Z0 (Nat.le_refl _)) : p := h
theorem Z2A {p : Prop} (h : p := by exact k v w' ((h.text hR hg hB).made (keep34 h.r6 Z1 hg))) : p := h
theorem Z2h {p : Prop} (h : p := by exact ⟨fun y hy => (nomatch hy), fun _ => ⟨_, Ev.step e (Ev.now _)⟩⟩) : p := h
theorem Z1X {p : Prop} (h : p := by exact ⟨(h.leads l2 hl2).1.up Z0, (h.leads l2 hl2).2.up Z0⟩) : p := h
theorem Z2d {p : Prop} (h : p := by exact h v1 w1 (Yeg h0 hr hp hokp hfresh hown1 hg1 hat1) hb1 hg1 hat1) : p := h
theorem Z2c {p : Prop} (h : p := by exact d.M_mono (fun k hk => ⟨(ho k hk.1).1, hne k (ho k hk.1).2 hk.2.2.1⟩) h1) : p := h
theorem Z2e {p : Prop} (h : p := by exact ⟨ad, e, hc 0 _ rfl, Z1g⟩) : p := h
theorem Z2r {p : Prop} (h : p := by exact bodyPost_ret (v := .bool true) Z1k rfl ⟨rfl, rfl⟩) : p := h
theorem Z2y {p : Prop} (h : p := by exact bodyPost_ret (v := .bool true) Z1l rfl ⟨rfl, rfl⟩) : p := h
theorem Z1u {p : Prop} (h : p := by exact bodyPost_ret (v := .int .i64 c) ZA rfl ⟨hB4, rfl⟩) : p := h
theorem Z1V {p : Prop} (h : p := by exact bodyPost_ret (v := .int .i64 c) Zi rfl ⟨hB4, rfl⟩) : p := h
theorem Z1W {p : Prop} (h : p := by exact bodyPost_ret (v := .int .i64 13) Zi rfl ⟨hB, rfl⟩) : p := h
theorem Z2p {p : Prop} (h : p := by exact bodyPost_ret (v := .int .i64 2) Zs rfl ⟨rfl, rfl⟩) : p := h
theorem ZO {p : Prop} (h : p := by exact bodyPost_ret (v := .int .i64 4) Zs rfl ⟨rfl, rfl⟩) : p := h
theorem Z2q {p : Prop} (h : p := by exact bodyPost_ret (v := .int .i64 6) Zs rfl ⟨rfl, rfl⟩) : p := h
theorem Z2s {p : Prop} (h : p := by exact bodyPost_ret (v := .bool false) Z1k rfl ⟨rfl, rfl⟩) : p := h
theorem Z2w {p : Prop} (h : p := by exact bodyPost_ret (v := .int .i64 2) Zt rfl ⟨rfl, rfl⟩) : p := h
theorem ZQ {p : Prop} (h : p := by exact bodyPost_ret (v := .int .i64 4) Zt rfl ⟨rfl, rfl⟩) : p := h
theorem Z2x {p : Prop} (h : p := by exact bodyPost_ret (v := .int .i64 6) Zt rfl ⟨rfl, rfl⟩) : p := h
theorem Z2z {p : Prop} (h : p := by exact bodyPost_ret (v := .bool false) Z1l rfl ⟨rfl, rfl⟩) : p := h
theorem Z2j {p : Prop} (h : p := by exact ⟨fun y hy => st _ (ih.1 y hy), fun hn => by obtain ⟨z, hz⟩ := ih.2 hn; exact ⟨z, st _ hz⟩⟩) : p := h
theorem Z1Q {p : Prop} (h : p := by exact bodyPost_ret (v := .int .i64 13) ZR rfl ⟨hB0, rfl⟩) : p := h
theorem Z1R {p : Prop} (h : p := by exact bodyPost_ret (v := .int .i64 15) Zz rfl ⟨hB2, rfl⟩) : p := h
theorem Z1S {p : Prop} (h : p := by exact bodyPost_ret (v := .int .i64 22) Zz rfl ⟨hB2, rfl⟩) : p := h
theorem Z2n {p : Prop} (h : p := by exact bodyPost_ret (v := .int .i64 184) ZL rfl ⟨rfl, rfl⟩) : p := h
theorem Z2v {p : Prop} (h : p := by exact ⟨⟨kk, rfl, (by rw [ho]; exact decide_eq_false Z0)⟩, Yc (Below.refl _ _) _⟩) : p := h
theorem Z2D {p : Prop} (h : p := by exact bodyPost_ret (v := .bool true) Z1H rfl ⟨rfl, hB3'.out⟩) : p := h
theorem Z1d {p : Prop} (h : p := by exact Yau t w hc hk0 rfl rfl rfl Z19 Z16) : p := h
theorem Z13 {p : Prop} (h : p := by exact Yau t w hc hk0 rfl rfl rfl Z10 ZV) : p := h
theorem Z1v {p : Prop} (h : p := by exact bodyPost_ret (v := .int .i64 c) Zi rfl ⟨hB.trans hB4, rfl⟩) : p := h
theorem Z1Z {p : Prop} (h : p := by exact Yau t w hc hk0 rfl rfl rfl (by simp [badT, hn0]) Z1C) : p := h
theorem Z2i {p : Prop} (h : p := by exact ⟨fun y hy => Ev.step e (ih.1 y hy), fun hn => by obtain ⟨z, hz⟩ := ih.2 hn; exact ⟨z, Ev.step e hz⟩⟩) : p := h
theorem Z2o {p : Prop} (h : p := by exact bodyPost_ret (v := .int .i64 15) Zz rfl ⟨Below.refl _ _, rfl⟩) : p := h
theorem Z1T {p : Prop} (h : p := by exact bodyPost_ret (v := .int .i64 13) Zi rfl ⟨Below.refl _ _, rfl⟩) : p := h
theorem Z1b {p : Prop} (h : p := by exact bodyPost_ret (v := .int .i64 0) ZA rfl ⟨hB4, rfl, o4, vs4, h4⟩) : p := h
theorem Z1U {p : Prop} (h : p := by exact bodyPost_ret (v := .int .i64 0) Zi rfl ⟨hB4, rfl, o4, vs4, h4⟩) : p := h
theorem Z1O {p : Prop} (h : p := by exact bodyPost_ret (v := .tuple #[.int .i64 c, .bool true]) Zq rfl ⟨hB4, rfl⟩) : p := h
theorem Z1c {p : Prop} (h : p := by exact bodyPost_ret (v := .int .i64 0) Zi rfl ⟨hB.trans hB4, rfl, o4, vs4, h4⟩) : p := h
theorem Z2m {p : Prop} (h : p := by exact bodyPost_ret (v := .int .i64 0) ZR rfl ⟨hB3.trans hB4, rfl, o4, vs4, h4⟩) : p := h
theorem Z2f {p : Prop} (h : p := by exact ⟨Zp, Z8⟩) : p := h
theorem Z2l {p : Prop} (h : p := by exact bodyPost_ret (v := .tuple #[.string ⟨#[]⟩, .int .i64 15]) Z1i rfl ⟨rfl, rfl⟩) : p := h
theorem Z1P {p : Prop} (h : p := by exact bodyPost_ret (v := .tuple #[.int .i64 13, .bool true]) ZI rfl ⟨Below.refl _ _, rfl⟩) : p := h
theorem Z1N {p : Prop} (h : p := by exact bodyPost_ret (v := .tuple #[.int .i64 0, .bool true]) Zq rfl ⟨hB4, rfl, o4, vs4, h4⟩) : p := h
theorem ZP {p : Prop} (h : p := by exact bodyPost_ret (v := .bool true) Ze rfl ⟨rfl, (Below.refl _ _).alloc (Nat.le_refl _) _⟩) : p := h
theorem Zh {p : Prop} (h : p := by exact bodyPost_ret (v := .bool false) Ze rfl ⟨rfl, (Below.refl _ _).alloc (Nat.le_refl _) _⟩) : p := h
theorem Z1M {p : Prop} (h : p := by exact bodyPost_ret (v := .tuple #[.int .i64 0, .bool true]) Zq rfl ⟨hB3.trans hB4, rfl, o4, vs4, h4⟩) : p := h
theorem Z1t {p : Prop} (h : p := by exact bodyPost_ret (v := .tuple #[.int .i64 0, .bool true]) ZI rfl ⟨hB3.trans hB4, rfl, o4, vs4, h4⟩) : p := h
theorem Zc {p : Prop} (h : p := by exact ⟨Z4, Z8⟩) : p := h
theorem Zw {p : Prop} (h : p := by exact bodyPost_ret (v := .slice (some ⟨w.heap.size, 0, none⟩) 1 1) Zm rfl ⟨_, _, _, rfl, Z1, Yc (Below.refl _ _) _⟩) : p := h
theorem Z2u {p : Prop} (h : p := by exact bodyPost_ret (v := .slice (some ⟨w.heap.size, 0, none⟩) 2 2) Zm rfl ⟨_, _, _, rfl, Z1, Yc (Below.refl _ _) _⟩) : p := h
theorem Z1x {p : Prop} (h : p := by exact bodyPost_ret (v := .tuple #[.slice none 0 0, .bool false]) Zv rfl (bp_no hr.out (hB0.out.trans (T1.out.bel.mono ZX)))) : p := h
theorem Z2B {p : Prop} (h : p := by exact bodyPost_ret (v := .tuple #[.slice A4 n4 c4, .bool false]) Zv rfl Z26) : p := h
theorem Z12 {p : Prop} (h : p := by exact ⟨Zf, Z6⟩) : p := h
theorem Z2k {p : Prop} (h : p := by exact ⟨_, Zf, (Zr HO_4.out), Z6⟩) : p := h
theorem Z2C {p : Prop} (h : p := by exact bodyPost_ret (v := .tuple #[tv ⟨f, b0 * 256 + b1, ⟨#[]⟩, 0⟩, .int .i64 (tokB ⟨f, b0 * 256 + b1, ⟨#[]⟩, 0⟩ true).length]) ZC rfl ⟨rfl, (((hB2.out.setCell (p := ⟨w.heap.size, 0, none⟩) hgl _).setCell (p := ⟨w.heap.size, 1, none⟩) hgl _).setCell (p := ⟨w.heap.size, 2, none⟩) hgl _).setCell (p := ⟨w.heap.size, 3, none⟩) hgl _⟩) : p := h
theorem Z2g {p : Prop} (h : p := by exact ⟨_, ZG, Zl, Z6⟩) : p := h
theorem Z1s {p : Prop} (h : p := by exact ⟨_, Zf, Zl, Z6⟩) : p := h
theorem Z1L {p : Prop} (h : p := by exact ⟨_, Zf, Zl, Zk⟩) : p := h
theorem Zu {p : Prop} (h : p := by exact ⟨Zf, Z9, Zd, Za⟩) : p := h
end Go.Proofs
