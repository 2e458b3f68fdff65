import Derived.Test.Ytehmhgpogpbjiaafr25
import Derived.Test.Ytehmhgpogpbjiaafr05
set_option linter.unusedVariables false
set_option linter.unusedSimpArgs false
set_option maxRecDepth 100000
set_option maxHeartbeats 8000000
namespace Go.Proofs.Ytehmhgpogpbjiaa.Fcc
open Go.RowKit Go.Proofs.YtehmhgpogpbjiaaW.PrintWords Go.Proofs.YtehmhgpogpbjiaaW.PrintLast Go.Proofs.YtehmhgpogpbjiaaW.PrintMore Go.Proofs.Ytehmhgpogpbjiaa.PFccTokens
def bytesL (l : List Tk) : List Int := l.flatMap fun t => tokB t true
def encP (l : List Tk) : List Int × Int := if 8192 < (bytesL l).length then ([], 3) else (bytesL l, 0)
theorem YcY (l : List Tk) (t : Tk) : bytesL (l ++ [t]) = bytesL l ++ tokB t true := by simp [bytesL]
theorem JO {l : List Tk} (h : ∀ t ∈ l, rightP t true = true) : ((bytesL l).length : Int) = sz l := by
 induction l with
 | nil => rfl
 | cons t r ih =>
   have h1 := ih fun t ht => h t (List.mem_cons_of_mem _ ht)
   have h2 := h t List.mem_cons_self
   unfold bytesL sz at *
   simp only [List.flatMap_cons, List.length_append, List.map_cons, List.sum_cons]
   rw [show XH t = (tokB t true).length by unfold XH; rw [if_pos h2]]
   omega
theorem Ybp {l : List Tk} (h : ∀ t ∈ l, rightP t true = true) (k : Nat) : ((bytesL (l.take k)).length : Int) = sumP l k := JO fun t ht => h t (List.mem_of_mem_take ht)
structure Right (l : List Tk) : Prop where
 rt : ∀ t ∈ l, rightP t true = true
 fit : ∀ t ∈ l, Fits t
 sm : sumP l l.length ≤ 29100
theorem Ycj (l : List Tk) (hl : Right l) (A0 : Option Addr) (c0 : Nat) (w : World) (hC : Kd.C k37 w A0 l.length l) (hc : l.length ≤ c0) :
 Calls Try.prog 24 #[.slice A0 l.length c0, .bool true] w fun e w' => ∃ v, e = .returned (.tuple #[v, .int .i64 (encP l).2]) ∧ Kd.R (Kd.int .u8) 5 w' w.heap.size (fun _ => True) v (encP l).1 ∧ Below w.heap.size w w' := by
 have hL := Aside0.mk hl
 have hlm : l.length ≤ 9223372036854775807 := hC.2.1
 have hC' := Aside0.mk hC
 have h0 := Wr.make (base := w.heap.size) (b := []) (Xa w (.cells #[.slice none 0 0] 111)) (Nat.le_refl _) (YcJ _ _ _ _)
 replace h0 := Aside0.mk h0
 have hB0 := Aside0.mk (Yc (Below.refl w.heap.size w) (.cells #[.slice none 0 0] 111))
 have hlm9 := Aside0.mk hlm
 clear hl hC hlm
 go_enter Try.func24, Try.ntmps24
 go_wp2_with fail
 generalize hgw : w.heap.size = g at h0 hB0 ⊢
 generalize w.alloc (.cells #[.slice none 0 0] 111) = w1 at h0 hB0 ⊢
 replace hgw := Aside0.mk hgw
 go_loopg [14, 7, 1] l.length (fun gg s14 s7 s1 wr => ∃ (kk : Nat) (b : List Int) (o : Nat → Nat) (A : Option Addr) (c : Nat) (lg : Bool), kk ≤ l.length ∧ l.length - kk ≤ gg ∧ s14 = .int .i64 kk ∧ s7 = .bool lg ∧ s1 = .bool true ∧ Aside0 (Below g w wr) ∧ Aside0 (Wr wr g g [.slice A b.length c] o b) ∧ Aside0 (b.length ≤ 9000 ∧ (lg = false → b = bytesL (l.take kk) ∧ b.length ≤ 8192) ∧ (lg = true → 8192 < sumP l kk)))
 case atStart => exact ⟨0, [], _, none, 0, false, Nat.zero_le _, Nat.le_refl _, rfl, rfl, rfl, hB0, h0, ⟨Z3, fun _ => ⟨rfl, Z3⟩, fun h => by simp at h⟩⟩
 case round =>
  obtain ⟨kk, b, o, A, c, lg, hkk, hg, rfl, rfl, rfl, HB, HW, HF⟩ := hrel
  have hgw2 := hgw.out
  subst hgw2
  by_cases hlt : kk < l.length
  ·have hltz : (kk : Int) < (l.length : Int) := by omega
   obtain ⟨ad, e, g0, g1, g2, g3⟩ := UZ (Kd.C_below hC'.out HB.out) (kk : Int) Z0 hltz
   cases e
   have hrd : Xo l (kk : Int) = l[kk] := by simp [Xo, List.getD_eq_getElem?_getD, hlt]
   rw [Int.toNat_natCast] at g0 g1 g2 g3
   rw [hrd] at g0 g1 g2 g3
   have hft := Aside0.mk (hL.out.fit _ (List.getElem_mem hlt))
   have hrt := Aside0.mk (hL.out.rt _ (List.getElem_mem hlt))
   have hs1 := Aside0.mk (VS l kk hlt)
   have htk := Aside0.mk (show l.take (kk + 1) = l.take kk ++ [l[kk]] by rw [List.take_append_getElem])
   have hgk := Aside0.mk (show l.length - (kk + 1) < gk ∧ kk + 1 ≤ l.length by omega)
   have hw := Aside0.mk (show wrap64 ((kk : Int) + 1) = ((kk + 1 : Nat) : Int) by have := hlm9.out; rw [IntWalk.wrap64_in _ ⟨Z0, Z0⟩]; omega)
   have hmn := Aside0.mk (Vp l (Nat.le_add_right kk 1))
   clear hrd
   generalize l[kk] = t at g0 g1 g2 g3 hft hrt hs1 htk
   have hnb := Xa wr (.cells #[.int .i64 t.f0, .int .u32 t.f1, .string t.f2, .int .i64 t.f3] 37)
   have hBn := Yc (Below.refl wr.heap.size wr) (.cells #[.int .i64 t.f0, .int .u32 t.f1, .string t.f2, .int .i64 t.f3] 37)
   go_wp2_with fail
   refine (Jb t true _ hft.out.f1).mono ?_
   rintro e w5 ⟨rfl, hB5⟩
   rw [hrt.out]
   have hW5 := HW.out.below (hBn.trans (Below.mono hB5 hBn.size))
   have hB6 := HB.out.trans (Below.mono (hBn.trans (Below.mono hB5 hBn.size)) HB.out.size)
   have hn5 := YQ hnb hB5
   have hb9 := HF.out.1
   have htb : (tokB t true).length ≤ 300 ∧ ((tokB t true).length : Int) = XH t := by
    have := Jn t
    unfold XH at *
    rw [if_pos hrt.out] at *
    exact ⟨Z0, rfl⟩
   replace htb := Aside0.mk htb
   cases lg with
   | true =>
     have e0 := Ya hn5 0
     have hW6 := Aside0.mk hW5
     have hB7 := Aside0.mk hB6
     have hlg := Aside0.mk (HF.out.2.2 rfl)
     clear hB5 hW5 hB6 hnb hBn hn5 HW HB hg
     go_wp2_with fail
     go_roundg (l.length - (kk + 1))
     case measure => exact hgk.out.1
     case rel => exact ⟨kk + 1, b, o, A, c, true, hgk.out.2, Nat.le_refl _, congrArg (Value.int .i64) hw.out, rfl, Z1r, hB7, hW6, ⟨hb9, fun h => by simp at h, fun _ => by have := hlg.out; have := hmn.out; omega⟩⟩
   | false =>
     obtain ⟨hbe, hb8⟩ := HF.out.2.1 rfl
     have e0 := Ya hn5 0
     have e1 := Ya hn5 1
     have e2 := Ya hn5 2
     have e3 := Ya hn5 3
     have hW6 := Aside0.mk hW5
     have hB7 := Aside0.mk hB6
     have hn6 := Aside0.mk hn5
     replace hbe := Aside0.mk hbe
     have hgw5 := hB6.size
     clear hB5 hW5 hB6 hnb hBn hn5 HW HB hg
     go_wp2_with fail
     refine (Yak t hft.out hW6.out Z0).mono ?_
     rintro e w6 ⟨rfl, hB8, hT8, A8, c8, o8, h8⟩
     have k8 := h8.cell 0 rfl
     have e0' := hT8 _ _ _ hn6.out Z1 Z1
     replace e0' := Ya e0' 0
     have hB9 := Aside0.mk (hB7.out.trans hB8)
     have hln : ((b ++ tokB t true).length : Int) = sumP l (kk + 1) := by
      rw [List.length_append, hs1.out, hbe.out, ← htb.out.2, ← Ybp hL.out.rt kk]; omega
     have hlb : (b ++ tokB t true).length ≤ 9000 := by rw [List.length_append]; have := htb.out.1; omega
     have hbe2 : b ++ tokB t true = bytesL (l.take (kk + 1)) := by rw [htk.out, YcY, hbe.out]
     replace h8 := Aside0.mk h8
     generalize b ++ tokB t true = b2 at h8 k8 hln hlb hbe2
     by_cases hbig : 8192 < b2.length
     ·have hd : decide ((8192 : Int) < (b2.length : Int)) = true := decide_eq_true Z0
      replace hln := Aside0.mk hln
      replace hbe2 := Aside0.mk hbe2
      clear hB8 hT8
      go_wp2_with fail
      go_roundg (l.length - (kk + 1))
      case measure => exact hgk.out.1
      case rel => exact ⟨kk + 1, b2, o8, A8, c8, true, hgk.out.2, Nat.le_refl _, congrArg (Value.int .i64) hw.out, rfl, Z1r, hB9, h8, ⟨hlb, fun h => by simp at h, fun _ => by have := hln.out; omega⟩⟩
     ·have hd : decide ((8192 : Int) < (b2.length : Int)) = false := decide_eq_false Z0
      replace hln := Aside0.mk hln
      replace hbe2 := Aside0.mk hbe2
      clear hB8 hT8
      go_wp2_with fail
      go_roundg (l.length - (kk + 1))
      case measure => exact hgk.out.1
      case rel => exact ⟨kk + 1, b2, o8, A8, c8, false, hgk.out.2, Nat.le_refl _, congrArg (Value.int .i64) hw.out, rfl, Z1r, hB9, h8, ⟨hlb, fun _ => ⟨hbe2.out, Z0⟩, fun h => by simp at h⟩⟩
  ·have hkk2 : kk = l.length := by omega
   subst hkk2
   have hsz := JO hL.out.rt
   have hsl := Ydb l (Nat.le_refl _)
   have k0 := HW.out.cell 0 rfl
   have hRb := (YaP (q := .u8) (ok := fun _ => True)).2 ⟨fun _ _ => trivial, Ya3 HW.out rfl⟩
   replace hRb := Aside0.mk hRb
   cases lg with
   | true =>
     have he : encP l = ([], 3) := by unfold encP; rw [if_pos (by have := HF.out.2.2 rfl; omega)]
     replace he := Aside0.mk he
     clear hg hsz hsl
     go_wp2_with fail
     exact bodyPost_ret (v := .tuple #[.slice none 0 0, .int .i64 3]) (by simp [results, Try.results24, go_sem]) rfl ⟨_, (by rw [he.out]), (by rw [he.out]; exact Kd.R_nil _ _ _ _ _), HB.out⟩
   | false =>
     have hh := HF.out.2.1 rfl
     have he : encP l = (b, 0) := by unfold encP; rw [hh.1, List.take_length, if_neg (by rw [hh.1, List.take_length] at hh; omega)]
     replace he := Aside0.mk he
     clear hg hsz hsl hh
     go_wp2_with fail
     exact bodyPost_ret (v := .tuple #[.slice A b.length c, .int .i64 0]) (by simp [results, Try.results24, go_sem]) rfl ⟨_, (by rw [he.out]), (by rw [he.out]; exact hRb.out), HB.out⟩
def hdrL (n s : Int) : List Int := [241, 8, s / 256 % 256, s % 256, n / 16777216 % 256, n / 65536 % 256, n / 256 % 256, n % 256]
def sumB (l : List Int) : Int := l.sum % 65536
def mkP (l : List Int) : List Int × Int := if 8184 < l.length then ([], 3) else (hdrL (8 + l.length) (sumB l) ++ l, 0)
theorem u16_w (x : Int) : IntKind.u16.wrap x = x % 65536 := by rfl
theorem Ydc (l : List Int) {i : Nat} (h : i < l.length) : (l.take (i + 1)).sum = (l.take i).sum + l[i] := by
 rw [List.take_succ_eq_append_getElem h, List.sum_append]; simp
theorem rd_get (l : List Int) {i : Nat} (h : i < l.length) : rd l (i : Int) = l[i] := by
 unfold rd; rw [Int.toNat_natCast, List.getD_eq_getElem?_getD, List.getElem?_eq_getElem h]; rfl
theorem hsum_loop (l : List Int) (hl : l.length ≤ 9223372036854775807) : ∀ (f i : Nat), i + f = l.length → Ev (fun k => Xf.l0 k ((l.take i).sum % 65536) l (l.length : Int) (i : Int)) (sumB l) := by
 intro f
 induction f with
 | zero =>
   intro i hi
   refine Ev.step (f := fun k => Xf.l0 (k + 1) ((l.take i).sum % 65536) l (l.length : Int) (i : Int)) (fun k => rfl) ?_
   simp only [Xf.l0, if_neg (show ¬ ((i : Int) < (l.length : Int)) by omega)]
   rw [List.take_of_length_le Z0, IntWalk.wrap64_in _ ⟨Z0, Z0⟩]
   exact Ev.now _
 | succ f ih =>
   intro i hi
   refine Ev.step (f := fun k => Xf.l0 (k + 1) ((l.take i).sum % 65536) l (l.length : Int) (i : Int)) (fun k => rfl) ?_
   have hw : wrap64 ((i : Int) + 1) = ((i + 1 : Nat) : Int) := by rw [IntWalk.wrap64_in _ ⟨Z0, Z0⟩]; omega
   have hs : IntKind.u16.wrap ((l.take i).sum % 65536 + IntKind.u16.wrap (rd l (i : Int))) = (l.take (i + 1)).sum % 65536 := by
    rw [u16_w, u16_w, rd_get l (show i < l.length by omega), Ydc l (show i < l.length by omega)]
    omega
   simp only [Xf.l0, if_pos (show (i : Int) < (l.length : Int) by omega), if_pos (show (0 : Int) ≤ (i : Int) by omega), hw, hs]
   exact ih (i + 1) Z0
theorem hsum_ev (l : List Int) (hl : l.length ≤ 9223372036854775807) : Ev (fun k => Xf.f k l) (sumB l) := hsum_loop l hl l.length 0 Z0
theorem make_ev (l : List Int) (hl : l.length ≤ 100000) : Ev (fun k => VI.f k l true) (mkP l) := by
 unfold VI.f
 refine Ev.bind (hsum_ev l Z0) ?_
 have hw : wrap64 (8 + (l.length : Int)) = 8 + l.length := IntWalk.wrap64_in _ ⟨Z0, Z0⟩
 unfold mkP
 by_cases h : 8184 < l.length
 ·rw [if_pos h]
  simp only [hw, if_pos (show 8 + (l.length : Int) > 8192 by omega)]
  exact Ev.now _
 ·rw [if_neg h]
  simp only [hw, if_neg (show ¬ 8 + (l.length : Int) > 8192 by omega), if_true, Option.bind_some, List.length_cons, List.length_nil, if_pos (show 0 + 1 + 1 + 1 + 1 + 1 + 1 + 1 + 1 + l.length < 140737488355328 by omega)]
  exact Ev.now _
theorem YdO (l : List Int) (hl : l.length ≤ 100000) (A : Option Addr) (c : Nat) (w : World) (hC : Kd.C (Kd.int .u8) w A l.length l) (hc : l.length ≤ c) :
 Calls Try.prog 25 #[.slice A l.length c, .bool true] w fun e w' => ∃ v, e = .returned (.tuple #[v, .int .i64 (mkP l).2]) ∧ Kd.R (Kd.int .u8) 5 w' w.heap.size (fun _ => True) v (mkP l).1 ∧ Below w.heap.size w w' := by
 obtain ⟨k, h⟩ := (make_ev l hl).rounds
 exact VI.calls k A c l true _ _ w hC hc h
theorem rsum_loop (l : List Int) (hl : l.length ≤ 9223372036854775807) (hb : ∀ x ∈ l, 0 ≤ x ∧ x < 256) : ∀ (f i : Nat), i + f = l.length → Ev (fun k => Yx.l0 k l ((l.take i).sum % 65536) (i : Int)) (sumB l) := by
 intro f
 induction f with
 | zero =>
   intro i hi
   refine Ev.step (f := fun k => Yx.l0 (k + 1) l ((l.take i).sum % 65536) (i : Int)) (fun k => rfl) ?_
   simp only [Yx.l0, if_neg (show ¬ ((i : Int) < (l.length : Int)) by omega)]
   rw [List.take_of_length_le Z0]
   exact Ev.now _
 | succ f ih =>
   intro i hi
   refine Ev.step (f := fun k => Yx.l0 (k + 1) l ((l.take i).sum % 65536) (i : Int)) (fun k => rfl) ?_
   have hw : wrap64 ((i : Int) + 1) = ((i + 1 : Nat) : Int) := by rw [IntWalk.wrap64_in _ ⟨Z0, Z0⟩]; omega
   have hs : Int.tmod (wrap64 ((l.take i).sum % 65536 + wrap64 (rd l (i : Int)))) 65536 = (l.take (i + 1)).sum % 65536 := by
    have h1 := hb _ (List.getElem_mem (show i < l.length by omega))
    rw [rd_get l (show i < l.length by omega), Ydc l (show i < l.length by omega), IntWalk.wrap64_in l[i] ⟨Z0, Z0⟩, IntWalk.wrap64_in _ ⟨Z0, Z0⟩, Int.tmod_eq_emod_of_nonneg Z0]
    omega
   simp only [Yx.l0, if_pos (show (i : Int) < (l.length : Int) by omega), if_pos (show (0 : Int) ≤ (i : Int) by omega), hw, hs]
   exact ih (i + 1) Z0
theorem rsum_ev (l : List Int) (hl : l.length ≤ 9223372036854775807) (hb : ∀ x ∈ l, 0 ≤ x ∧ x < 256) : Ev (fun k => Yx.f k l) (sumB l) := rsum_loop l hl hb l.length 0 Z0
theorem encInt_f (n : Int) (hn : 0 ≤ n ∧ n < 4294967296) : Yn.f 5 n = some [n / 16777216 % 256, n / 65536 % 256, n / 256 % 256, n % 256] := by
 have w3 : wrap64 24 = 24 ∧ IntKind.u64.wrap 24 = 24 := ⟨Z2, Z2⟩
 have w2 : wrap64 16 = 16 ∧ IntKind.u64.wrap 16 = 16 := ⟨Z2, Z2⟩
 have w1 : wrap64 8 = 8 ∧ IntKind.u64.wrap 8 = 8 := ⟨Z2, Z2⟩
 have w0 : wrap64 0 = 0 ∧ IntKind.u64.wrap 0 = 0 := ⟨Z2, Z2⟩
 have d2 : wrap64 2 = 2 ∧ wrap64 1 = 1 ∧ wrap64 (-1) = -1 := ⟨Z2, Z2, Z2⟩
 have s24 : shr .u32 n 24 = n / 16777216 := by simp [shr, IntKind.bits]
 have s16 : shr .u32 n 16 = n / 65536 := by simp [shr, IntKind.bits]
 have s8 : shr .u32 n 8 = n / 256 := by simp [shr, IntKind.bits]
 have s0 : shr .u32 n 0 = n := by simp [shr, IntKind.bits]
 have m : ∀ x : Int, 0 ≤ x → Int.tmod x 256 % 256 = x % 256 := fun x hx => by rw [Int.tmod_eq_emod_of_nonneg hx]; omega
 simp [Yn.f, Yn.l0, w3, w2, w1, w0, d2, s24, s16, s8, s0]
 rw [m _ Z0, m _ Z0, m _ Z0, m _ Z0]
 simp
theorem rmake_ev (l : List Int) (hl : l.length ≤ 100000) (hb : ∀ x ∈ l, 0 ≤ x ∧ x < 256) : Ev (fun k => Xy.f k l true) (mkP l) := by
 unfold Xy.f mkP
 by_cases h : 8184 < l.length
 ·simp only [if_pos h, if_pos (show (l.length : Int) > 8184 by omega)]
  exact Ev.now _
 ·simp only [if_neg h, if_neg (show ¬ (l.length : Int) > 8184 by omega)]
  refine Ev.bind (rsum_ev l Z0 hb) ?_
  have hw : wrap64 (8 + (l.length : Int)) = 8 + l.length := IntWalk.wrap64_in _ ⟨Z0, Z0⟩
  have hm : (8 + (l.length : Int)) % 4294967296 = 8 + l.length := by omega
  have hs : 0 ≤ sumB l ∧ sumB l < 65536 := by unfold sumB; omega
  simp only [Option.bind_some, if_true, List.length_cons, List.length_nil, hw, hm]
  refine Ev.congr (fun n => if_pos Z0) ?_
  refine Ev.bind (Ev.of (fun k => Yn.mono _ k) (encInt_f (8 + l.length) Z0)) ?_
  simp only [List.length_set, List.length_cons, List.length_nil, List.length_append]
  refine Ev.congr (fun n => (if_pos Z0).trans (if_pos Z0)) ?_
  have e1 : wrap64 (Int.tdiv (sumB l) 256) % 256 = sumB l / 256 % 256 := by rw [Int.tdiv_eq_ediv_of_nonneg hs.1, IntWalk.wrap64_in _ ⟨Z0, Z0⟩]
  have e2 : Int.tmod (sumB l) 256 % 256 = sumB l % 256 := by rw [Int.tmod_eq_emod_of_nonneg hs.1]; omega
  rw [e1, e2]
  exact Ev.now _
theorem YcE (l : List Int) (hl : l.length ≤ 100000) (hb : ∀ x ∈ l, 0 ≤ x ∧ x < 256) (A : Option Addr) (c : Nat) (w : World) (hC : Kd.C (Kd.int .u8) w A l.length l) (hc : l.length ≤ c) :
 Calls Try.prog 27 #[.slice A l.length c, .bool true] w fun e w' => ∃ v, e = .returned (.tuple #[v, .int .i64 (mkP l).2]) ∧ Kd.R (Kd.int .u8) 5 w' w.heap.size (fun _ => True) v (mkP l).1 ∧ Below w.heap.size w w' := by
 obtain ⟨k, h⟩ := (rmake_ev l hl hb).rounds
 exact Xy.calls k A c l true _ _ w hC hc h
abbrev CB (w : World) (A : Option Addr) (xs : List Int) : Prop := Kd.C (Kd.int .u8) w A xs.length xs
section
variable {w : World} {A : Option Addr} {xs : List Int} {c : Nat}
theorem VK (h : CB w A xs) (hc : xs.length ≤ c) (j : Nat) (hj : j ≤ xs.length) :
 ∃ A' c', (∀ W, (Instr.slice 29 (.slice A xs.length c) (some (.int .i64 (j : Int))) none none).run Try.prog W = .ok (.slice A' (xs.length - j) c') W) ∧ CB w A' (xs.drop j) ∧ (xs.drop j).length ≤ c' := by
 obtain ⟨i, hi, hs⟩ : ∃ i, Try.prog.info? 5 = some i ∧ i.size = 1 := by
  have := VL
  cases h : Try.prog.info? 5 with
  | none => rw [h] at this; cases this
  | some i => rw [h] at this; simp at this; exact ⟨i, rfl, this.2.1⟩
 have h1 := Ydv (P := Try.prog) 29 5 .i64 Try.underlying29 hi 1 hs A xs.length c (j : Int) Z0 Z0
 have h2 := Kd.C_drop h hj hc
 rw [Int.toNat_natCast] at h1
 exact ⟨_, _, h1, h2, Z1K⟩
theorem cb_mid (h : CB w A xs) (hc : xs.length ≤ c) (i j : Nat) (hij : i ≤ j) (hj : j ≤ xs.length) :
 ∃ A' c', (∀ W, (Instr.slice 29 (.slice A xs.length c) (some (.int .i64 (i : Int))) (some (.int .i64 (j : Int))) none).run Try.prog W = .ok (.slice A' (j - i) c') W) ∧ CB w A' ((xs.take j).drop i) ∧ ((xs.take j).drop i).length ≤ c' := by
 obtain ⟨q, hi, hs⟩ : ∃ i, Try.prog.info? 5 = some i ∧ i.size = 1 := by
  have := VL
  cases h : Try.prog.info? 5 with
  | none => rw [h] at this; cases this
  | some i => rw [h] at this; simp at this; exact ⟨i, rfl, this.2.1⟩
 have h1 := cut_mid (P := Try.prog) 29 5 .i64 .i64 Try.underlying29 hi 1 hs A xs.length c (i : Int) (j : Int) Z0 Z0 Z0 hc
 have h2 := Kd.C_mid h hij hj hc
 rw [Int.toNat_natCast, Int.toNat_natCast] at h1
 exact ⟨_, _, h1, h2, (by rw [List.length_drop, List.length_take]; omega)⟩
theorem cb_to (h : CB w A xs) (hc : xs.length ≤ c) (j : Nat) (hj : j ≤ xs.length) :
 (∀ W, (Instr.slice 29 (.slice A xs.length c) none (some (.int .i64 (j : Int))) none).run Try.prog W = .ok (.slice A j c) W) ∧ CB w A (xs.take j) := by
 obtain ⟨q, hi, hs⟩ : ∃ i, Try.prog.info? 5 = some i ∧ i.size = 1 := by
  have := VL
  cases h : Try.prog.info? 5 with
  | none => rw [h] at this; cases this
  | some i => rw [h] at this; simp at this; exact ⟨i, rfl, this.2.1⟩
 have h1 := cut_to (P := Try.prog) 29 5 .i64 Try.underlying29 hi A xs.length c (j : Int) Z0 Z0 hc
 rw [Int.toNat_natCast] at h1
 exact ⟨h1, Kd.C_take h hj⟩
theorem Xs (h : CB w A xs) (i : Nat) (hi : i < xs.length) : ∃ ad, A = some ad ∧ w.cell? (ad.add i) = some (.int .u8 xs[i]) := by
 obtain ⟨ad, e, hc⟩ := Kd.at_int h (i : Int) Z0 Z0
 rw [Int.toNat_natCast, rd_get xs hi] at hc
 exact ⟨ad, e, hc⟩
theorem Yco {a b d e : Int} {r : List Int} (h : CB w A (a :: b :: d :: e :: r)) (hc : r.length + 4 ≤ c) (ha : 0 ≤ a ∧ a < 256) (hb : 0 ≤ b ∧ b < 256) (hd : 0 ≤ d ∧ d < 256) (he : 0 ≤ e ∧ e < 256) :
 Calls Try.prog 26 #[.slice A (r.length + 4) c] w fun f w' => ∃ v, f = .returned (.tuple #[.int .u32 (((a * 256 + b) * 256 + d) * 256 + e), v, .int .i64 0]) ∧ Below w.heap.size w w' := by
 obtain ⟨ad, rfl, c0⟩ := Xs h 0 Z3
 obtain ⟨_, q, c1⟩ := Xs h 1 Z3
 cases q
 obtain ⟨_, q, c2⟩ := Xs h 2 Z3
 cases q
 obtain ⟨_, q, c3⟩ := Xs h 3 Z3
 cases q
 simp only [List.getElem_cons_zero, List.getElem_cons_succ] at c0 c1 c2 c3
 obtain ⟨A', c', hcut, -, -⟩ := VK h (c := c) (by simpa using hc) 4 Z3
 replace hcut : ∀ W, (Instr.slice 29 (.slice (some ad) (r.length + 4) c) (some (.int .i64 4)) none none).run Try.prog W = .ok (.slice A' r.length c') W := fun W => hcut W
 simp [Addr.add] at c0 c1 c2 c3
 have hlt : decide ((r.length : Int) + 4 < 4) = false := decide_eq_false Z0
 have m1 : (a * 256 + b) % 4294967296 = a * 256 + b := by omega
 have m2 : ((a * 256 + b) * 256 + d) % 4294967296 = (a * 256 + b) * 256 + d := by omega
 have m3 : (((a * 256 + b) * 256 + d) * 256 + e) % 4294967296 = ((a * 256 + b) * 256 + d) * 256 + e := by omega
 clear h
 go_enter Try.func26, Try.ntmps26
 go_wp2_with fail
 refine wp_loop_rounds 5 ?_
 rw [rounds_succ]; go_wp2_with fail
 rw [rounds_succ]; go_wp2_with fail
 rw [rounds_succ]; go_wp2_with fail
 rw [rounds_succ]; go_wp2_with fail
 rw [rounds_succ]; go_wp2_with fail
 go_quiet (fail)
 go_wp2_with fail
 exact bodyPost_ret (v := .tuple #[.int .u32 (((a * 256 + b) * 256 + d) * 256 + e), .slice A' r.length c', .int .i64 0]) (by simp [results, Try.results26, go_sem]) rfl ⟨_, rfl, Xi (Below.refl _ _) _⟩
theorem mkP_ok {body : List Int} (hL : body.length ≤ 8184) : mkP body = (hdrL (8 + body.length) (sumB body) ++ body, 0) := by unfold mkP; rw [if_neg Z0]
theorem YcX (body : List Int) (hL : body.length ≤ 8184) (hb : ∀ x ∈ body, 0 ≤ x ∧ x < 256) (h : CB w A (hdrL (8 + body.length) (sumB body) ++ body)) (hc : body.length + 8 ≤ c) :
 Calls Try.prog 12 #[.slice A (body.length + 8) c] w fun f w' => ∃ A' c', f = .returned (.tuple #[.slice A' body.length c', .bool true, .int .i64 0]) ∧ CB w' A' body ∧ body.length ≤ c' ∧ Below w.heap.size w w' := by
 obtain ⟨xs, hxs⟩ : ∃ xs, hdrL (8 + body.length) (sumB body) ++ body = xs := ⟨_, rfl⟩
 have hxl : xs.length = body.length + 8 := by rw [← hxs]; simp [hdrL]
 rw [hxs] at h
 have hR := Aside0.mk (fun A c w => YcE body Z0 hb A c w)
 rw [show mkP body = (xs, 0) by rw [mkP_ok hL, hxs]] at hR
 obtain ⟨A4, c4, hcut4, h4, hc4⟩ := VK h (c := c) Z0 4 Z0
 obtain ⟨A8, c8, hcut8, h8, hc8⟩ := cb_mid h (c := c) Z0 8 xs.length Z0 Z0
 obtain ⟨hcutn, hn⟩ := cb_to h (c := c) Z0 xs.length Z0
 obtain ⟨ad, rfl, c0⟩ := Xs h 0 Z0
 have e0 : xs[0]'Z0 = 241 := by simp [← hxs, hdrL]
 rw [e0] at c0
 simp [Addr.add] at c0
 rw [List.take_length] at h8 hn hc8
 have e4 : xs.drop 4 = ((8 + (body.length : Int)) / 16777216 % 256) :: ((8 + (body.length : Int)) / 65536 % 256) :: ((8 + (body.length : Int)) / 256 % 256) :: ((8 + (body.length : Int)) % 256) :: body := by simp [← hxs, hdrL]
 have e8 : xs.drop 8 = body := by simp [← hxs, hdrL]
 rw [e4] at h4 hc4
 rw [e8] at h8 hc8
 rw [hxl] at hcut4 hcut8 hcutn
 have hD := Aside0.mk (Yco h4 (by simpa using hc4) Z0 Z0 Z0 Z0)
 rw [show ((((8 + (body.length : Int)) / 16777216 % 256) * 256 + ((8 + (body.length : Int)) / 65536 % 256)) * 256 + ((8 + (body.length : Int)) / 256 % 256)) * 256 + ((8 + (body.length : Int)) % 256) = 8 + body.length by omega] at hD
 replace hcut4 : ∀ W, (Instr.slice 29 (.slice (some ad) (body.length + 8) c) (some (.int .i64 4)) none none).run Try.prog W = .ok (.slice A4 (body.length + 4) c4) W := fun W => hcut4 W
 replace hcut8 : ∀ W, (Instr.slice 29 (.slice (some ad) (body.length + 8) c) (some (.int .i64 8)) (some (.int .i64 (8 + (body.length : Int)))) none).run Try.prog W = .ok (.slice A8 body.length c8) W := fun W => by
  have := hcut8 W
  rw [show ((body.length + 8 : Nat) : Int) = 8 + body.length by omega] at this
  exact this
 replace hcutn : ∀ W, (Instr.slice 29 (.slice (some ad) (body.length + 8) c) none (some (.int .i64 (8 + (body.length : Int)))) none).run Try.prog W = .ok (.slice (some ad) (body.length + 8) c) W := fun W => by
  have := hcutn W
  rw [show ((body.length + 8 : Nat) : Int) = 8 + body.length by omega] at this
  exact this
 have f1 : decide ((body.length : Int) + 8 < 8) = false := decide_eq_false Z0
 have f2 : decide (8192 < (body.length : Int) + 8) = false := decide_eq_false Z0
 have f3 : decide (8 + (body.length : Int) < 8) = false := decide_eq_false Z0
 have f4 : decide ((body.length : Int) + 8 < 8 + (body.length : Int)) = false := decide_eq_false Z0
 have f5 : wrap64 (8 + (body.length : Int)) = 8 + body.length := IntWalk.wrap64_in _ ⟨Z0, Z0⟩
 have hC8 := Aside0.mk h8
 have hCn := Aside0.mk hn
 replace hc8 := Aside0.mk hc8
 replace hxs := Aside0.mk hxs
 replace hxl := Aside0.mk hxl
 clear h h4 hc4 h8 hn e0 e4 e8 hb hc
 go_enter Try.func12, Try.ntmps12
 go_wp2_with fail
 refine hD.out.mono ?_
 rintro e w1 ⟨v, rfl, hB1⟩
 have hB1' := Aside0.mk hB1
 have hC1 := Aside0.mk (Kd.C_below hC8.out hB1)
 have hCn1 := Aside0.mk (Kd.C_below hCn.out hB1)
 have c01 := (hB1.cell (World.block_lt_of_cell? w ad c0)).trans c0
 clear hB1 hD
 go_wp2_with fail
 refine (hR.out _ _ _ hC1.out hc8.out).mono ?_
 rintro e w2 ⟨v2, rfl, hR2, hB2⟩
 obtain ⟨A2, k2, rfl, hk2, hC2⟩ := Kd.R_reads hR2
 have hB3 := Aside0.mk (hB1'.out.trans (Below.mono hB2 hB1'.out.size))
 have hCn2 := Aside0.mk (Kd.C_below hCn1.out hB2)
 have hC2' := Aside0.mk hC2
 have hs1 : ∀ k, (convert 29 9 (.slice A2 xs.length k2)).run Try.prog (w2.drewN k) = .ok (.string (strOfNums xs)) (w2.drewN k) := fun k => Kd.C_string Try.underlying29 Try.underlying5 Try.underlying9 (Kd.C_drewN hC2'.out k)
 have hs2 : ∀ k, (convert 29 9 (.slice (some ad) xs.length c)).run Try.prog (w2.drewN k) = .ok (.string (strOfNums xs)) (w2.drewN k) := fun k => Kd.C_string Try.underlying29 Try.underlying5 Try.underlying9 (Kd.C_drewN hCn2.out k)
 rw [hxl.out] at hs1 hs2 hk2 ⊢
 obtain ⟨Ao, co, hcuto, ho, hco⟩ := VK (c := k2) hC2 Z0 8 Z0
 rw [hxl.out] at hcuto
 rw [show xs.drop 8 = body by simp [← hxs.out, hdrL]] at ho hco
 replace hcuto : ∀ W, (Instr.slice 29 (.slice A2 (body.length + 8) k2) (some (.int .i64 8)) none none).run Try.prog W = .ok (.slice Ao body.length co) W := fun W => by
  have := hcuto W
  rw [show body.length + 8 - 8 = body.length by omega] at this
  exact this
 have ho' := Aside0.mk ho
 replace hco := Aside0.mk hco
 have hne : ((strOfNums xs).toList != (strOfNums xs).toList) = false := bne_self_eq_false _
 clear hR2 hB2 hC2 ho c0 c01
 go_wp2_with fail
 go_quiet (fail)
 go_wp2_with fail
 exact bodyPost_ret (v := .tuple #[.slice Ao body.length co, .bool true, .int .i64 0]) (by simp [results, Try.results12, go_sem]) rfl ⟨_, _, rfl, Kd.C_drewN ho'.out _, hco.out, Xi hB3.out _⟩
end
theorem Yp (c : Int) (w : World) : Calls Try.prog 15 #[.int .i64 c] w fun e w' => e = .returned (.int .i64 (Yr c)) ∧ w' = w := by
 by_cases h0 : c = 16
 ·subst h0
  go_enter Try.func15, Try.ntmps15
  go_wp2_with fail
  exact bodyPost_ret (v := .int .i64 1) Zt rfl ⟨rfl, rfl⟩
 by_cases h1 : c = 17
 ·subst h1
  clear h0
  go_enter Try.func15, Try.ntmps15
  go_wp2_with fail
  exact Z2w
 by_cases h2 : c = 195
 ·subst h2
  clear h0 h1
  go_enter Try.func15, Try.ntmps15
  go_wp2_with fail
  exact Z2w
 by_cases h3 : c = 18
 ·subst h3
  clear h0 h1 h2
  go_enter Try.func15, Try.ntmps15
  go_wp2_with fail
  exact bodyPost_ret (v := .int .i64 3) Zt rfl ⟨rfl, rfl⟩
 by_cases h4 : c = 19
 ·subst h4
  clear h0 h1 h2 h3
  go_enter Try.func15, Try.ntmps15
  go_wp2_with fail
  exact ZQ
 by_cases h5 : c = 20
 ·subst h5
  clear h0 h1 h2 h3 h4
  go_enter Try.func15, Try.ntmps15
  go_wp2_with fail
  exact ZQ
 by_cases h6 : c = 21
 ·subst h6
  clear h0 h1 h2 h3 h4 h5
  go_enter Try.func15, Try.ntmps15
  go_wp2_with fail
  exact ZQ
 by_cases h7 : c = 22
 ·subst h7
  clear h0 h1 h2 h3 h4 h5 h6
  go_enter Try.func15, Try.ntmps15
  go_wp2_with fail
  exact ZQ
 by_cases h8 : c = 23
 ·subst h8
  clear h0 h1 h2 h3 h4 h5 h6 h7
  go_enter Try.func15, Try.ntmps15
  go_wp2_with fail
  exact ZQ
 by_cases h9 : c = 24
 ·subst h9
  clear h0 h1 h2 h3 h4 h5 h6 h7 h8
  go_enter Try.func15, Try.ntmps15
  go_wp2_with fail
  exact ZQ
 by_cases h10 : c = 28
 ·subst h10
  clear h0 h1 h2 h3 h4 h5 h6 h7 h8 h9
  go_enter Try.func15, Try.ntmps15
  go_wp2_with fail
  exact ZQ
 by_cases h11 : c = 198
 ·subst h11
  clear h0 h1 h2 h3 h4 h5 h6 h7 h8 h9 h10
  go_enter Try.func15, Try.ntmps15
  go_wp2_with fail
  exact ZQ
 by_cases h12 : c = 181
 ·subst h12
  clear h0 h1 h2 h3 h4 h5 h6 h7 h8 h9 h10 h11
  go_enter Try.func15, Try.ntmps15
  go_wp2_with fail
  exact bodyPost_ret (v := .int .i64 5) Zt rfl ⟨rfl, rfl⟩
 by_cases h13 : c = 182
 ·subst h13
  clear h0 h1 h2 h3 h4 h5 h6 h7 h8 h9 h10 h11 h12
  go_enter Try.func15, Try.ntmps15
  go_wp2_with fail
  exact Z2x
 by_cases h14 : c = 202
 ·subst h14
  clear h0 h1 h2 h3 h4 h5 h6 h7 h8 h9 h10 h11 h12 h13
  go_enter Try.func15, Try.ntmps15
  go_wp2_with fail
  exact Z2x
 have hr : Yr c = 0 := by unfold Yr; simp only [h0, h1, h2, h3, h4, h5, h6, h7, h8, h9, h10, h11, h12, h13, h14, or_self, if_false]
 rw [hr]
 have b0 : (c == 16) = false := beq_eq_false_iff_ne.mpr h0
 have b1 : (c == 17) = false := beq_eq_false_iff_ne.mpr h1
 have b2 : (c == 195) = false := beq_eq_false_iff_ne.mpr h2
 have b3 : (c == 18) = false := beq_eq_false_iff_ne.mpr h3
 have b4 : (c == 19) = false := beq_eq_false_iff_ne.mpr h4
 have b5 : (c == 20) = false := beq_eq_false_iff_ne.mpr h5
 have b6 : (c == 21) = false := beq_eq_false_iff_ne.mpr h6
 have b7 : (c == 22) = false := beq_eq_false_iff_ne.mpr h7
 have b8 : (c == 23) = false := beq_eq_false_iff_ne.mpr h8
 have b9 : (c == 24) = false := beq_eq_false_iff_ne.mpr h9
 have b10 : (c == 28) = false := beq_eq_false_iff_ne.mpr h10
 have b11 : (c == 198) = false := beq_eq_false_iff_ne.mpr h11
 have b12 : (c == 181) = false := beq_eq_false_iff_ne.mpr h12
 have b13 : (c == 182) = false := beq_eq_false_iff_ne.mpr h13
 have b14 : (c == 202) = false := beq_eq_false_iff_ne.mpr h14
 clear hr h0 h1 h2 h3 h4 h5 h6 h7 h8 h9 h10 h11 h12 h13 h14
 go_enter Try.func15, Try.ntmps15
 go_wp2_with fail
 exact bodyPost_ret (v := .int .i64 0) Zt rfl ⟨rfl, rfl⟩
theorem YF (c : Int) (w : World) : Calls Try.prog 54 #[.int .i64 c] w fun e w' => e = .returned (.bool (YP c)) ∧ w' = w := by
 by_cases h0 : c = 0
 ·subst h0
  go_enter Try.func54, Try.ntmps54
  go_wp2_with fail
  exact Z2y
 ·have b0 : (c == 0) = false := beq_eq_false_iff_ne.mpr h0
  by_cases h1 : 16 ≤ c
  ·by_cases h2 : c ≤ 4095
   ·have hr : YP c = true := by unfold YP; simp [h1, h2]
    rw [hr]
    have d1 : decide (16 ≤ c) = true := decide_eq_true h1
    have d2 : decide (c ≤ 4095) = true := decide_eq_true h2
    clear hr h0
    go_enter Try.func54, Try.ntmps54
    go_wp2_with fail
    exact Z2y
   ·have hr : YP c = false := by unfold YP; simp [h0, h2]
    rw [hr]
    have d1 : decide (16 ≤ c) = true := decide_eq_true h1
    have d2 : decide (c ≤ 4095) = false := decide_eq_false h2
    clear hr h0
    go_enter Try.func54, Try.ntmps54
    go_wp2_with fail
    exact Z2z
  ·have hr : YP c = false := by unfold YP; simp [h0, h1]
   rw [hr]
   have d1 : decide (16 ≤ c) = false := decide_eq_false h1
   clear hr h0
   go_enter Try.func54, Try.ntmps54
   go_wp2_with fail
   exact Z2z
theorem Ydl (W : World) (l : List Int) (hl : l.length ≤ 1000) : Kd.R (Kd.int .u8) 5 (W.alloc (.cells (nums .u8 l).toArray 5)) W.heap.size (fun _ => True) (.slice (some ⟨W.heap.size, 0, none⟩) l.length l.length) l := by
 refine YaP.2 ⟨fun _ _ => trivial, ?_⟩
 have h2 := World.ownsRow_lit (base := W.heap.size) (e := 5) (size := 1) W (nums .u8 l).toArray l.length (Nat.le_refl _) (by have : maxLen = 9223372036854775807 := rfl; omega) (by simp [nums])
 simpa using h2
def YbT (l : List Int) (w : World) (e : Ending) (w' : World) : Prop := ∃ v, e = .returned v ∧ Kd.R (Kd.int .u8) 5 w' w.heap.size (fun _ => True) v l ∧ Below w.heap.size w w'
theorem Uo (n : Int) (hn : 0 ≤ n ∧ n < 4294967296) (w : World) : Calls Try.prog 56 #[.int .i64 n] w (YbT (twoB n) w) := by
 have hl := Aside0.mk (Ydl w [n / 256 % 256, n % 256] Z3)
 have hB := Aside0.mk (Yc (Below.refl w.heap.size w) (.cells #[.int .u8 (n / 256 % 256), .int .u8 (n % 256)] 5))
 go_enter Try.func56, Try.ntmps56
 go_wp2_with fail
 exact bodyPost_ret (v := .slice (some ⟨w.heap.size, 0, none⟩) 2 2) (by simp [results, Try.results56, go_sem]) rfl ⟨_, rfl, hl.out, hB.out⟩
theorem Ydg (n : Int) (w : World) : Calls Try.prog 56 #[.int .i64 n] w fun e w' => ∃ l, l.length = 2 ∧ YbT l w e w' := by
 go_enter Try.func56, Try.ntmps56
 go_wp2_with fail
 exact bodyPost_ret (v := .slice (some ⟨w.heap.size, 0, none⟩) 2 2) (by simp [results, Try.results56, go_sem]) rfl ⟨[_, _], rfl, _, rfl, Ydl w [_, _] Z3, Yc (Below.refl _ _) _⟩
theorem Yat (n : Int) (hn : 0 ≤ n ∧ n < 4294967296) (w : World) : Calls Try.prog 55 #[.int .i64 n] w (YbT (codeB n) w) := by
 unfold codeB
 by_cases hc : 255 < n
 ·rw [if_pos hc]
  have hl := Aside0.mk (Ydl w [n / 256 % 256, n % 256] Z3)
  have hB := Aside0.mk (Yc (Below.refl w.heap.size w) (.cells #[.int .u8 (n / 256 % 256), .int .u8 (n % 256)] 5))
  have hc2 : ¬ n ≤ 255 := by omega
  go_enter Try.func55, Try.ntmps55
  go_wp2_with fail
  exact bodyPost_ret (v := .slice (some ⟨w.heap.size, 0, none⟩) 2 2) (by simp [results, Try.results55, go_sem]) rfl ⟨_, rfl, hl.out, hB.out⟩
 ·rw [if_neg hc]
  have hl := Aside0.mk (Ydl w [n % 256] Z3)
  have hB := Aside0.mk (Yc (Below.refl w.heap.size w) (.cells #[.int .u8 (n % 256)] 5))
  have hc2 : n ≤ 255 := by omega
  have hm : n % 256 = n := Int.emod_eq_of_lt hn.1 Z0
  rw [hm] at hl hB ⊢
  clear hm
  go_enter Try.func55, Try.ntmps55
  go_wp2_with fail
  exact bodyPost_ret (v := .slice (some ⟨w.heap.size, 0, none⟩) 1 1) (by simp [results, Try.results55, go_sem]) rfl ⟨_, rfl, hl.out, hB.out⟩
end Go.Proofs.Ytehmhgpogpbjiaa.Fcc
namespace Go.Proofs.Ytehmhgpogpbjiaa.Fcc
open Go.RowKit Go.Proofs.Ytehmhgpogpbjiaa Go.Proofs.YtehmhgpogpbjiaaW.PrintWords Go.Proofs.YtehmhgpogpbjiaaW.PrintLast Go.Proofs.YtehmhgpogpbjiaaW.PrintMore Go.Proofs.Ytehmhgpogpbjiaa.PFccTokens
structure TW (base : Nat) (w0 w : World) (v6 v7 : Value) (b : List Int) (l : List S37) : Prop where
 r6 : Kd.R (Kd.int .u8) 5 w base (fun _ => True) v6 b
 r7 : Kd.R k37 37 w base (fun _ => True) v7 l
 bel : Below base w0 w
 le : base ≤ w0.heap.size
section
variable {base : Nat} {w0 w w1 : World} {v6 v7 : Value} {b : List Int} {l : List S37}
theorem TW.below (h : TW base w0 w v6 v7 b l) (hb : Below w.heap.size w w1) : TW base w0 w1 v6 v7 b l :=
 ⟨Kd.R_below h.r6 hb, Kd.R_below h.r7 hb, h.bel.trans (hb.mono (Nat.le_trans h.le h.bel.size)), h.le⟩
theorem TW.alloc (h : TW base w0 w v6 v7 b l) (o : Obj) : TW base w0 (w.alloc o) v6 v7 b l := h.below (Yc (Below.refl _ _) o)
theorem TW.text {ys : List Int} {v : Value} (h : TW base w0 w v6 v7 b l) (hR : Kd.R (Kd.int .u8) 5 w1 base (fun _ => True) v ys) (hg : w.grownBy w1 v6.ownBlock) (hB : Below base w0 w1) : TW base w0 w1 v v7 ys l :=
 ⟨hR, Kd.R_over h.r7 h.r6 (by intro q hq; rcases List.mem_cons.1 hq with rfl | hq; decide; cases hq) hg, hB, h.le⟩
structure TN (base : Nat) (w0 w w' : World) (v6 v7 : Value) (b : List Int) (l : List S37) : Prop where
 tw : TW base w0 w' v6 v7 b l
 sl6 : ∃ A n c, v6 = .slice A n c
 sl7 : ∃ A n c, v7 = .slice A n c
 keep : ∀ (k : Nat) (cells : Array Value), w.heap[k]? = some (Obj.cells cells 34 (0, 0)) → w'.heap[k]? = some (Obj.cells cells 34 (0, 0))
theorem TW.made (h : TW base w0 w v6 v7 b l) (hk : ∀ (k : Nat) (cells : Array Value), w1.heap[k]? = some (Obj.cells cells 34 (0, 0)) → w.heap[k]? = some (Obj.cells cells 34 (0, 0))) : TN base w0 w1 w v6 v7 b l := by
 obtain ⟨A, c, rfl⟩ := Kd.R_slice h.r6
 obtain ⟨A', c', rfl⟩ := Kd.R_slice h.r7
 exact ⟨h, ⟨_, _, _, rfl⟩, ⟨_, _, _, rfl⟩, hk⟩
theorem keep34 {α : Type} {d : Kd α} {e : Nat} {v : Value} {xs : List α} (hR : Kd.R d e w base (fun _ => True) v xs) (he : e ≠ 34) (hg : w.grownBy w1 v.ownBlock) : ∀ (k : Nat) (cells : Array Value), w.heap[k]? = some (Obj.cells cells 34 (0, 0)) → w1.heap[k]? = some (Obj.cells cells 34 (0, 0)) :=
 fun k cells hk => XU hk hg (Kd.R_ne hR hk he)
variable {ops : Array Oper} {rest : List Oper} {Q : Exit → Act → World → Prop} {a : Act} {q : Oper} {s x : Operand}
theorem TW.str (h : TW base w0 w v6 v7 b l) (hgd : q.guard = none) (hq : q.op = .call { callee := .builtin .append, args := #[s, x], argTypes := #[29, 9] }) (hs : a.eval s = v6) (t : ByteArray) (hx : a.eval x = .string t) (hl : b.length < 1000000) (ht : t.size < 1000000)
 (k : ∀ v w', TN base w0 w w' v v7 (b ++ Xl t) l → wpList Try.prog ops Q rest (a.put q.dst v) w') : wpList Try.prog ops Q (q :: rest) a w := by
 obtain ⟨i0, hi, hz0, hz1, hz2⟩ := info_parts VL
 have hR := (YaP.1 h.r6).2
 have hmx : maxLen = 9223372036854775807 := rfl
 have hbb := Nat.le_trans h.le h.bel.size
 refine Lib.wpList_append_own_string w hgd _ _ 29 9 hq base 5 i0 Try.underlying29 Try.underlying9 hi hz0 hz1 hz2 _ _ _ hs hR t hx Z0 Z0 hbb ?_
 intro v3 w3 hR3 hg3 _
 have hc3 : nums .u8 b ++ Lib.strCells t = nums .u8 (b ++ Xl t) := by
  have : Lib.strCells t = nums .u8 (Xl t) := by simp [nums, Xl, Lib.strCells]
  rw [this, ← Jc]
 have hl3 : b.length + t.size = (b ++ Xl t).length := by simp [YG]
 rw [hc3, hl3] at hR3
 exact k v3 w3 ((h.text (YaP.2 ⟨fun _ _ => trivial, hR3⟩) hg3 (Below.grown h.bel hg3 hbb (fun k hk => VY hR k hk))).made (keep34 h.r6 Z1 hg3))
theorem TW.byte (h : TW base w0 w v6 v7 b l) (n : Int) (hgd : q.guard = none) (hq : q.op = .call { callee := .builtin .append, args := #[s, x], argTypes := #[29, 29] }) (hs : a.eval s = v6) (hx : a.eval x = .slice (some ⟨w.heap.size, 0, none⟩) 1 1) (hl : b.length < 1000000)
 (k : ∀ v w', TN base w0 w w' v v7 (b ++ [n]) l → wpList Try.prog ops Q rest (a.put q.dst v) w') : wpList Try.prog ops Q (q :: rest) a (w.alloc (.cells #[.int .u8 n] 5)) := by
 have hbb := Nat.le_trans h.le h.bel.size
 refine Kd.R_append (Kd.int .u8) (w0 := w0) (W := w) base hgd s x 29 5 (.int .u8 0) 1 hq Try.underlying29 VL rfl Z1 Z1 v6 b n [.int .u8 n] (fun _ => True) (fun _ => False) hs hx rfl (fun _ hk => hk.elim) (fun _ _ => trivial) h.r6 h.bel hbb Z0 ?_
 intro v w' hR hB hg _
 exact Z2A
theorem TW.rows (h : TW base w0 w v6 v7 b l) (ys : List Int) (A : Option Addr) (c : Nat) (hgd : q.guard = none) (hq : q.op = .call { callee := .builtin .append, args := #[s, x], argTypes := #[29, 29] }) (hs : a.eval s = v6) (hx : a.eval x = .slice A ys.length c) (hC : (Kd.int .u8).C w A ys.length ys) (hl : b.length < 1000000) (hy : ys.length < 1000000)
 (k : ∀ v w', TN base w0 w w' v v7 (b ++ ys) l → wpList Try.prog ops Q rest (a.put q.dst v) w') : wpList Try.prog ops Q (q :: rest) a w := by
 have hbb := Nat.le_trans h.le h.bel.size
 refine Kd.R_append_rows (Kd.int .u8) (Rr := (Kd.int .u8).K w) (w0 := w0) base hgd s x 29 5 (.int .u8 0) 1 hq Try.underlying29 VL rfl Z1 Z1 v6 b ys A ys.length c (fun _ => True) (fun _ => False) hs hx h.r6 hC (fun _ _ h => h) (fun _ hk => hk.elim) (fun _ _ => trivial) h.bel hbb Z0 ?_
 intro v w' hR hB hg _
 exact Z2A
end
end Go.Proofs.Ytehmhgpogpbjiaa.Fcc
