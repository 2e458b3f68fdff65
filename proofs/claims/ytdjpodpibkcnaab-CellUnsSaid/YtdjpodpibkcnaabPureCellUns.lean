/- CellUns: each word of one cell answers as the reference does, for every operation and all cells, and so do the signed values. No condition. -/
import Derived.Test.YtdjpodpibkcnaabQCellUnsx3
import Derived.Test.YtdjpodpibkcnaabM
namespace Go.Proofs.Ytdjpodpibkcnaab.Pure
open Go.RowKit Go.Proofs.Ytdjpodpibkcnaab.QCellUns Go.Proofs.YtdjpodpibkcnaabW.PrintWords Go.Proofs.YtdjpodpibkcnaabW.PrintLast
open Go.Proofs.Ytdjpodpibkcnaab.M
theorem alive (k : Nat) : tinderlaw01_alive.f (k + 2) = some true := by
  have : cell_Bin.f (k + 2) 41 2147483648 4 = some (4160749568, 0) := by
    simp [cell_Bin.f, cell_Bin.j0]; decide +kernel
  unfold tinderlaw01_alive.f
  rw [this]; decide +kernel
theorem wrap64_s (a : Int) : wrap64 (wrap32 a) = wrap32 a := by unfold wrap64 wrap32; omega
theorem rsigned {a : Int} (h0 : 0 ≤ a) (h1 : a < 4294967296) : tinderref01_Signed.f a = some (wrap32 a) := by
  unfold tinderref01_Signed.f
  rw [s32 h0 h1]
  split <;> (congr 1; unfold wrap64; omega)
theorem rcell (n : Int) : tinderref01_Cell.f n = some (n % 4294967296) := by
  unfold tinderref01_Cell.f; rw [cell_mod]
def it (f : Int → Int) : Nat → Int → Int
  | 0, a => a
  | d + 1, a => it f d (f a)
theorem flags (b : Bool) : cell_flag.f b = tinderref01_Flag.f b := rfl
theorem flag_some (b : Bool) : tinderref01_Flag.f b = some (if b = true then 4294967295 else 0) := by
  unfold tinderref01_Flag.f; split <;> rfl
/-- rounds of a shift -/
theorem shift_rounds (op : Int) (f : Int → Int) (hf : ∀ a, 0 ≤ a → a < 4294967296 → 0 ≤ f a ∧ f a < 4294967296)
    (hstep : ∀ k n i a, i < n → 0 ≤ i → n ≤ 32 → 0 ≤ a → a < 4294967296 → tinderref01_shift.l0 (k + 1) op a n i = tinderref01_shift.l0 k op (f a) n (i + 1)) (d : Nat) :
    ∀ (m : Nat) (i n a : Int), n - i = d → 0 ≤ i → n ≤ 32 → 0 ≤ a → a < 4294967296 → tinderref01_shift.l0 (m + d + 1) op a n i = some (it f d a) := by
  induction d with
  | zero =>
    intro m i n a hd hi h32 h0 h1
    simp only [tinderref01_shift.l0]
    rw [if_neg (by omega)]; rfl
  | succ d ih =>
    intro m i n a hd hi h32 h0 h1
    rw [show m + (d + 1) + 1 = (m + d + 1) + 1 by omega, hstep _ _ _ _ (by omega) hi h32 h0 h1]
    exact ih m (i + 1) n (f a) (by omega) (by omega) h32 (hf a h0 h1).1 (hf a h0 h1).2

theorem it_mul (f : Int → Int) (hf : ∀ a, f a % 4294967296 = (a * 2) % 4294967296) (d : Nat) : ∀ a, it f d a % 4294967296 = (a * 2 ^ d) % 4294967296 := by
  induction d with
  | zero => intro a; simp [it]
  | succ d ih =>
    intro a
    rw [it, ih, Int.mul_emod, hf, ← Int.mul_emod, Int.mul_assoc, ← Int.pow_succ']
theorem it_range (f : Int → Int) (hf : ∀ a, 0 ≤ a → a < 4294967296 → 0 ≤ f a ∧ f a < 4294967296) (d : Nat) : ∀ a, 0 ≤ a → a < 4294967296 → 0 ≤ it f d a ∧ it f d a < 4294967296 := by
  induction d with
  | zero => intro a h0 h1; exact ⟨h0, h1⟩
  | succ d ih => intro a h0 h1; exact ih (f a) (hf a h0 h1).1 (hf a h0 h1).2
theorem it_div (d : Nat) : ∀ a : Int, it (fun a => a / 2) d a = a / 2 ^ d := by
  induction d with
  | zero => intro a; simp [it]
  | succ d ih =>
    intro a
    rw [it, ih, Int.pow_succ', Int.ediv_ediv_of_nonneg (by omega)]
theorem it_sign (d : Nat) : ∀ a : Int, it (fun a => (wrap32 a / 2) % 4294967296) d a % 4294967296 = (wrap32 a / 2 ^ d) % 4294967296 := by
  induction d with
  | zero => intro a; simp [it, s32_mod]
  | succ d ih =>
    intro a
    have e : wrap32 ((wrap32 a / 2) % 4294967296) = wrap32 a / 2 := by unfold wrap32; omega
    rw [it, ih, e, Int.pow_succ', Int.ediv_ediv_of_nonneg (by omega)]

theorem shift_f (op : Int) (f : Int → Int) (hf : ∀ a, 0 ≤ a → a < 4294967296 → 0 ≤ f a ∧ f a < 4294967296)
    (hstep : ∀ k n i a, i < n → 0 ≤ i → n ≤ 32 → 0 ≤ a → a < 4294967296 → tinderref01_shift.l0 (k + 1) op a n i = tinderref01_shift.l0 k op (f a) n (i + 1))
    (m : Nat) (a b : Int) (h0 : 0 ≤ a) (h1 : a < 4294967296) (hb : 0 ≤ b) (hb' : b < 4294967296) :
    tinderref01_shift.f (m + 33) op a b = some (it f (min b.toNat 32) a) := by
  have e : mn (wrap64 b) 32 = ((min b.toNat 32 : Nat) : Int) := by unfold mn; rw [w64 (by omega) (by omega)]; split <;> omega
  unfold tinderref01_shift.f
  rw [e]
  have h := shift_rounds op f hf hstep (min b.toNat 32) (m + 32 - min b.toNat 32) 0 ((min b.toNat 32 : Nat) : Int) a (by omega) (by omega) (by omega) h0 h1
  rw [show m + 32 - min b.toNat 32 + min b.toNat 32 + 1 = m + 33 by omega] at h
  exact h

theorem lshift (m : Nat) (a b : Int) (h0 : 0 ≤ a) (h1 : a < 4294967296) (hb : 0 ≤ b) (hb' : b < 4294967296) :
    tinderref01_shift.f (m + 33) 39 a b = some (shl .u32 a b) := by
  have hf : ∀ a : Int, 0 ≤ a → a < 4294967296 → 0 ≤ (a * 2) % 4294967296 ∧ (a * 2) % 4294967296 < 4294967296 := by intro a _ _; omega
  rw [shift_f 39 (fun a => (a * 2) % 4294967296) hf ?_ m a b h0 h1 hb hb']
  · have h := it_mul (fun a => (a * 2) % 4294967296) (fun a => by simp) (min b.toNat 32) a
    have r := it_range (fun a => (a * 2) % 4294967296) hf (min b.toNat 32) a h0 h1
    rw [Int.emod_eq_of_lt r.1 r.2] at h
    rw [h]; unfold shl; rw [IntKind.wrap_u32]; rfl
  · intro k n i a hi _ hn ha ha'
    simp only [tinderref01_shift.l0]
    rw [if_pos hi, if_pos trivial, rcell, w64 (a := a) (by omega) (by omega), w64 (a := a * 2) (by omega) (by omega), w64 (a := i + 1) (by omega) (by omega)]; rfl
theorem rshift (m : Nat) (a b : Int) (h0 : 0 ≤ a) (h1 : a < 4294967296) (hb : 0 ≤ b) (hb' : b < 4294967296) :
    tinderref01_shift.f (m + 33) 40 a b = some (shr .u32 a b) := by
  rw [shift_f 40 (fun a => a / 2) (fun a _ _ => by omega) ?_ m a b h0 h1 hb hb', it_div]
  · rfl
  · intro k n i a hi _ hn ha ha'
    simp only [tinderref01_shift.l0]
    rw [if_pos hi, if_neg (by decide), if_neg (by decide), w64 (a := i + 1) (by omega) (by omega), Int.tdiv_eq_ediv_of_nonneg ha, Int.emod_eq_of_lt (by omega) (by omega)]
theorem ashift (m : Nat) (a b : Int) (h0 : 0 ≤ a) (h1 : a < 4294967296) (hb : 0 ≤ b) (hb' : b < 4294967296) :
    tinderref01_shift.f (m + 33) 41 a b = some (shr .i32 (wrap32 a) b % 4294967296) := by
  have hf : ∀ a : Int, 0 ≤ a → a < 4294967296 → 0 ≤ (wrap32 a / 2) % 4294967296 ∧ (wrap32 a / 2) % 4294967296 < 4294967296 := by intro a _ _; omega
  rw [shift_f 41 (fun a => (wrap32 a / 2) % 4294967296) hf ?_ m a b h0 h1 hb hb']
  · have h := it_sign (min b.toNat 32) a
    have r := it_range (fun a => (wrap32 a / 2) % 4294967296) hf (min b.toNat 32) a h0 h1
    rw [Int.emod_eq_of_lt r.1 r.2] at h
    rw [h]; rfl
  · intro k n i a hi _ hn ha ha'
    simp only [tinderref01_shift.l0]
    rw [if_pos hi, if_neg (by decide), if_pos trivial, w64 (a := i + 1) (by omega) (by omega), half_sign ha ha']

theorem not_nat (A : Nat) (h : A < 4294967296) : 4294967295 ^^^ A = 4294967295 - A := by
  have e : 4294967295 - A = 2 ^ 32 - (A + 1) := by omega
  rw [e]
  apply Nat.eq_of_testBit_eq
  intro i
  rw [Nat.testBit_xor, Nat.testBit_two_pow_sub_succ (by simpa using h), show (4294967295 : Nat) = 2 ^ 32 - 1 by rfl, Nat.testBit_two_pow_sub_one]
  by_cases hi : i < 32
  · simp [hi]
  · have : A.testBit i = false := Nat.testBit_lt_two_pow (Nat.lt_of_lt_of_le h (Nat.pow_le_pow_right (n := 2) (by decide) (show 32 ≤ i by omega)))
    simp [hi, this]
theorem flip16 (x : Nat) (h : x < 65536) : x / 256 ||| (x * 256 % 65536) = x % 256 * 256 + x / 256 := by
  have e : x * 256 % 65536 = (x % 256) <<< 8 := by rw [Nat.shiftLeft_eq]; omega
  rw [e, Nat.or_comm, ← Nat.shiftLeft_add_eq_or_of_lt (by omega), Nat.shiftLeft_eq]

theorem half16 (A : Nat) : A % 65536 / 256 = A / 256 % 256 := by
  have := Nat.div_div_eq_div_mul A 256 256
  omega

theorem same (op a : Int) (ha : 0 ≤ a) (ha' : a < 4294967296) :
    ∃ x e, cell_Un.f op a = some (x, e) ∧ tinderref01_Un.f 40 op a = some (x, e) := by
  have ea := rsigned ha ha'
  have ba := s32_bd a
  have hs := s32 ha ha'
  have hflag : ∀ b : Bool, ∃ x, cell_flag.f b = some x ∧ tinderref01_Flag.f b = some x := fun b => ⟨_, flags b |>.trans (flag_some b), flag_some b⟩
  unfold tinderref01_Un.f cell_Un.f
  rw [ea]
  simp only [Option.bind_some]
  by_cases h38 : op = 38
  · subst h38
    obtain ⟨A, rfl⟩ := Int.eq_ofNat_of_zero_le ha
    refine ⟨_, _, rfl, ?_⟩
    rw [if_pos rfl]
    have := u32_xor_nat 4294967295 A (by decide) (by omega)
    rw [show ((4294967295 : Nat) : Int) = 4294967295 by rfl] at this
    rw [this, not_nat A (by omega)]
    congr 2; omega
  by_cases h44 : op = 44
  · subst h44
    refine ⟨_, _, rfl, ?_⟩
    rw [if_neg (by decide), if_pos rfl, rcell]; simp only [Option.bind_some]
    rw [w64_mod]; congr 2; unfold wrap32; omega
  by_cases h45 : op = 45
  · subst h45
    refine ⟨mx (wrap32 a) (wrap64 (-wrap32 a)) % 4294967296, 0, ?_, by simp [rcell]⟩
    rw [if_neg (by decide), if_neg (by decide), if_pos rfl]
    unfold mx; rw [w64 (a := -wrap32 a) (by omega) (by omega)]
    split <;> split <;> (congr 2; unfold wrap32 at *; omega)
  by_cases h52 : op = 52
  · subst h52; obtain ⟨x, e1, e2⟩ := hflag (wrap32 a == 0); exact ⟨x, 0, by simp at e1 ⊢; simp [e1], by simp at e2 ⊢; simp [e2]⟩
  by_cases h53 : op = 53
  · subst h53; obtain ⟨x, e1, e2⟩ := hflag (wrap32 a != 0); exact ⟨x, 0, by simp at e1 ⊢; simp [e1], by simp at e2 ⊢; simp [e2]⟩
  by_cases h54 : op = 54
  · subst h54; obtain ⟨x, e1, e2⟩ := hflag (decide (wrap32 a < 0)); exact ⟨x, 0, by simp at e1 ⊢; simp [e1], by simp at e2 ⊢; simp [e2]⟩
  by_cases h55 : op = 55
  · subst h55; obtain ⟨x, e1, e2⟩ := hflag (decide (wrap32 a ≤ 0)); exact ⟨x, 0, by simp at e1 ⊢; simp [e1], by simp at e2 ⊢; simp [e2]⟩
  by_cases h56 : op = 56
  · subst h56; obtain ⟨x, e1, e2⟩ := hflag (decide (wrap32 a > 0)); exact ⟨x, 0, by simp at e1 ⊢; simp [e1], by simp at e2 ⊢; simp [e2]⟩
  by_cases h57 : op = 57
  · subst h57; obtain ⟨x, e1, e2⟩ := hflag (decide (wrap32 a ≥ 0)); exact ⟨x, 0, by simp at e1 ⊢; simp [e1], by simp at e2 ⊢; simp [e2]⟩
  by_cases h87 : op = 87
  · subst h87
    refine ⟨_, 0, by simp; rfl, ?_⟩
    simp [ashift 7 a 1 ha ha' (by decide) (by decide), shr, IntKind.bits]
  by_cases h88 : op = 88
  · subst h88
    refine ⟨_, 0, by simp; rfl, ?_⟩
    simp [Int.tdiv_eq_ediv_of_nonneg ha]; omega
  by_cases h89 : op = 89
  · subst h89
    refine ⟨_, 0, by simp; rfl, ?_⟩
    simp [rcell, w64_mod]; unfold wrap32; omega
  by_cases h128 : op = 128
  · subst h128
    obtain ⟨A, rfl⟩ := Int.eq_ofNat_of_zero_le ha
    refine ⟨((A % 256 * 256 + A / 256 % 256 : Nat) : Int), 0, ?_, ?_⟩
    · have h16 := IntKind.wrap_u16 (A : Int)
      have := u16_or_nat (A % 65536 / 256) (A % 65536 * 256 % 65536) (by omega) (by omega)
      rw [flip16 _ (by omega)] at this
      have e : bits_ReverseBytes16.f (IntKind.u16.wrap (A : Int)) = some ((A % 65536 % 256 * 256 + A % 65536 / 256 : Nat) : Int) := by
        unfold bits_ReverseBytes16.f
        rw [h16, IntKind.wrap_u16, ← this]; congr 2
      have h2 := half16 A
      have h3 : A % 65536 % 256 = A % 256 := by omega
      rw [h2, h3] at e
      simp [e]; clear e this h16; omega
    · simp [Int.tmod_eq_emod_of_nonneg ha, Int.tdiv_eq_ediv_of_nonneg ha]; omega
  by_cases h129 : op = 129
  · subst h129
    by_cases c : 97 ≤ a ∧ a ≤ 122
    · exact ⟨(a - 32) % 4294967296, 0, by simp; omega, by simp [c]⟩
    · refine ⟨a, 0, by simp; omega, ?_⟩
      simp; omega
  by_cases h130 : op = 130
  · subst h130
    by_cases c : 65 ≤ a ∧ a ≤ 90
    · exact ⟨(a + 32) % 4294967296, 0, by simp; omega, by simp [c]⟩
    · refine ⟨a, 0, by simp; omega, ?_⟩
      simp; omega
  exact ⟨0, 2, by simp [h38, h44, h45, h52, h53, h54, h55, h56, h57, h87, h88, h89, h128, h129, h130], by simp [h38, h44, h45, h52, h53, h54, h55, h56, h57, h87, h88, h89, h128, h129, h130]⟩

theorem CellUns : tinderlaw01_CellUns.Pure := by
  intro op a _ wa
  have ha := wf32 wa
  obtain ⟨x, e, h1, h2⟩ := same op a ha.1 ha.2
  refine ⟨40, ?_⟩
  unfold tinderlaw01_CellUns.f
  rw [alive 38, h1, h2]
  simp only [Option.bind_some, if_true]
  rw [rsigned ha.1 ha.2]
  simp [cell_Signed.f, wrap64_s]
end Go.Proofs.Ytdjpodpibkcnaab.Pure
