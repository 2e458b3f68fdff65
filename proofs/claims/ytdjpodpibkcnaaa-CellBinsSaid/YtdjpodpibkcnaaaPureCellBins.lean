/- CellBins: each word of two cells answers as the reference does, for every operation and all cells. No condition. -/
import Derived.Test.YtdjpodpibkcnaaaQCellBinsx3
import Derived.Test.YtdjpodpibkcnaaaM
namespace Go.Proofs.Ytdjpodpibkcnaaa.Pure
open Go.RowKit Go.Proofs.Ytdjpodpibkcnaaa.QCellBins Go.Proofs.YtdjpodpibkcnaaaW.PrintWords Go.Proofs.YtdjpodpibkcnaaaW.PrintLast
open Go.Proofs.Ytdjpodpibkcnaaa.M
theorem alive (k : Nat) : tinderlaw01_alive.f (k + 2) = some true := by
  have : cell_Bin.f (k + 2) 41 2147483648 4 = some (4160749568, 0) := by
    simp [cell_Bin.f, cell_Bin.j0]; decide +kernel
  unfold tinderlaw01_alive.f
  rw [this]; decide +kernel
theorem wrap64_s (a : Int) : wrap64 (wrap32 a) = wrap32 a := by unfold wrap64 wrap32; omega
theorem s_ne {b : Int} (h0 : 0 ≤ b) (h1 : b < 4294967296) (hb : b ≠ 0) : wrap32 b ≠ 0 := by unfold wrap32; omega
theorem divide_floor (k : Nat) (a b : Int) (h0 : 0 ≤ b) (h1 : b < 4294967296) (hb : b ≠ 0) :
    cell_Divide.f (k + 1) 42 a b = some ((flr (wrap32 a) (wrap32 b)).1 % 4294967296, (flr (wrap32 a) (wrap32 b)).2 % 4294967296, 0) := by
  have ha := s32_bd a
  have hb' := s32_bd b
  have hn := s_ne h0 h1 hb
  unfold cell_Divide.f
  rw [if_pos rfl]
  simp only [cell_Divide.j0]
  rw [if_neg (by decide), if_neg hb, if_neg (by decide), wrap64_s, wrap64_s, if_neg hn]
  generalize wrap32 a = x at *
  generalize wrap32 b = y at *
  have hq := tdiv_bd (x := x) (y := y) (B := 2147483648) (by omega) (by omega)
  have hm := tmod_bd (x := x) (y := y) (B := 2147483648) hn (by omega) (by omega)
  unfold flr
  by_cases hz : Int.tmod x y = 0
  · rw [if_pos hz, if_pos hz, w64 (by omega) (by omega)]
  · rw [if_neg hz, if_neg hz]
    by_cases hs : (decide (Int.tmod x y < 0) != decide (y < 0)) = true
    · rw [if_pos ((xor_neg _ _ (by omega) (by omega) (by omega) (by omega)).2 hs), if_pos hs, w64 (a := Int.tdiv x y) (by omega) (by omega), w64 (by omega) (by omega), w64 (by omega) (by omega)]
    · rw [if_neg (fun h => hs ((xor_neg _ _ (by omega) (by omega) (by omega) (by omega)).1 h)), if_neg hs, w64 (by omega) (by omega)]
theorem divide_zero (k : Nat) (a : Int) : cell_Divide.f (k + 1) 42 a 0 = some (0, 0, 7) := by
  unfold cell_Divide.f
  rw [if_pos rfl]
  simp only [cell_Divide.j0]
  rw [if_neg (by decide)]; rfl
theorem rsigned {a : Int} (h0 : 0 ≤ a) (h1 : a < 4294967296) : tinderref01_Signed.f a = some (wrap32 a) := by
  unfold tinderref01_Signed.f
  rw [s32 h0 h1]
  split <;> (congr 1; unfold wrap64; omega)
theorem rcell (n : Int) : tinderref01_Cell.f n = some (n % 4294967296) := by
  unfold tinderref01_Cell.f; rw [cell_mod]
theorem rfloor (x y : Int) (hx : -2147483648 ≤ x) (hx' : x ≤ 2147483648) (hy : -2147483648 ≤ y) (hy' : y ≤ 2147483648) (hn : y ≠ 0) : tinderref01_Floor.f x y = some (flr x y) := by
  have hq := tdiv_bd (x := x) (y := y) (B := 2147483648) (by omega) (by omega)
  have hm := tmod_bd (x := x) (y := y) (B := 2147483648) hn (by omega) (by omega)
  unfold tinderref01_Floor.f flr
  rw [if_neg hn]
  by_cases hz : Int.tmod x y = 0
  · rw [if_pos hz, if_pos hz, w64 (by omega) (by omega)]
  · rw [if_neg hz, if_neg hz]
    by_cases hs : (decide (Int.tmod x y < 0) != decide (y < 0)) = true
    · rw [if_pos hs, if_pos hs, w64 (a := Int.tdiv x y) (by omega) (by omega), w64 (by omega) (by omega), w64 (by omega) (by omega)]
    · rw [if_neg hs, if_neg hs, w64 (by omega) (by omega)]
theorem shr_bit (A n : Nat) (hn : n ≤ 31) : wrap64 (Int.tmod (shr .u32 (A : Int) (IntKind.u64.wrap (n : Int))) 2) = ((A / 2 ^ n % 2 : Nat) : Int) := by
  have e : IntKind.u64.wrap (n : Int) = (n : Int) := by rw [IntKind.wrap_u64]; omega
  have e2 : shr .u32 (A : Int) (n : Int) = ((A / 2 ^ n : Nat) : Int) := by
    unfold shr
    rw [show min (n : Int).toNat IntKind.u32.bits = n by simp [IntKind.bits]; omega]
    simp
  rw [e, e2]
  generalize A / 2 ^ n = z
  rw [Int.tmod_eq_emod_of_nonneg (by omega)]
  unfold wrap64; omega

def bitOf (op : Int) (a b : Bool) : Bool := if op = 35 then a && b else if op = 36 then a || b else a ^^ b

theorem bits_round (op : Int) (hop : op = 35 ∨ op = 36 ∨ op = 37) (A B acc n k : Nat) (hn : n ≤ 31) (hacc : acc < 2147483648) :
    tinderref01_bits.l0 (k + 1) op A B acc n = tinderref01_bits.l0 k op A B ((2 * acc + (if bitOf op (decide (A / 2 ^ n % 2 = 1)) (decide (B / 2 ^ n % 2 = 1)) = true then 1 else 0) : Nat) : Int) ((n : Int) - 1) := by
  have ha := Nat.mod_lt (A / 2 ^ n) (show 0 < 2 by decide)
  have hb := Nat.mod_lt (B / 2 ^ n) (show 0 < 2 by decide)
  simp only [tinderref01_bits.l0, shr_bit A n hn, shr_bit B n hn]
  rw [if_pos (by omega), if_pos (by rw [IntKind.wrap_u64]; omega), w64 (a := (n : Int) - 1) (by omega) (by omega)]
  generalize A / 2 ^ n % 2 = p at *
  generalize B / 2 ^ n % 2 = q at *
  have hp : p = 0 ∨ p = 1 := by omega
  have hq : q = 0 ∨ q = 1 := by omega
  have e0 : ((acc : Int) * 2) % 4294967296 = ((2 * acc : Nat) : Int) := by omega
  have e1 : (((acc : Int) * 2) % 4294967296 + 1) % 4294967296 = ((2 * acc + 1 : Nat) : Int) := by omega
  rw [e1, e0]
  rcases hop with rfl | rfl | rfl <;> rcases hp with rfl | rfl <;> rcases hq with rfl | rfl <;> simp [bitOf, wrap64]

theorem bits_all (op : Int) (hop : op = 35 ∨ op = 36 ∨ op = 37) (A B C : Nat) (hC : C < 4294967296) (hbit : ∀ i, C.testBit i = bitOf op (A.testBit i) (B.testBit i)) (n : Nat) :
    ∀ m : Nat, n ≤ 32 → tinderref01_bits.l0 (m + n + 1) op A B ((C / 2 ^ n : Nat) : Int) ((n : Int) - 1) = some (C : Int) := by
  induction n with
  | zero =>
    intro m _
    simp only [tinderref01_bits.l0]
    rw [if_neg (by omega)]; simp
  | succ n ih =>
    intro m hn
    have h2 : C / 2 ^ (n + 1) < 2147483648 := by
      rw [Nat.pow_succ', ← Nat.div_div_eq_div_mul]
      have := Nat.div_le_self (C / 2) (2 ^ n)
      omega
    rw [show ((n + 1 : Nat) : Int) - 1 = (n : Int) by omega, show m + (n + 1) + 1 = (m + n + 1) + 1 by omega, bits_round op hop A B _ n _ (by omega) h2, ← bit_round (bitOf op) hbit]
    exact ih m (by omega)

theorem bits_is (op : Int) (hop : op = 35 ∨ op = 36 ∨ op = 37) (A B C : Nat) (hC : C < 4294967296) (hbit : ∀ i, C.testBit i = bitOf op (A.testBit i) (B.testBit i)) (m : Nat) :
    tinderref01_bits.f (m + 33) op A B = some (C : Int) := by
  have h := bits_all op hop A B C hC hbit 32 m (by omega)
  rw [Nat.div_eq_of_lt (by simpa using hC)] at h
  unfold tinderref01_bits.f
  exact h

def it (f : Int → Int) : Nat → Int → Int
  | 0, a => a
  | d + 1, a => it f d (f a)
theorem flags (b : Bool) : cell_flag.f b = tinderref01_Flag.f b := rfl
theorem flag_some (b : Bool) : tinderref01_Flag.f b = some (if b = true then 4294967295 else 0) := by
  unfold tinderref01_Flag.f; split <;> rfl
/-- rounds of a shift -/
theorem shift_rounds (op : Int) (f : Int → Int) (hf : ∀ a, 0 ≤ a → a < 4294967296 → 0 ≤ f a ∧ f a < 4294967296)
    (hstep : ∀ k n i a, i < n → 0 ≤ i → n ≤ 32 → 0 ≤ a → a < 4294967296 → tinderref01_shift.l0 (k + 1) op a n i = tinderref01_shift.l0 k op (f a) n (i + 1)) (d : Nat) :
    ∀ (m : Nat) (i n a : Int), n - i = d → 0 ≤ i → n ≤ 32 → 0 ≤ a → a < 4294967296 → tinderref01_shift.l0 (m + d + 1) op a n i = some (it f d a) := by
  induction d with
  | zero =>
    intro m i n a hd hi h32 h0 h1
    simp only [tinderref01_shift.l0]
    rw [if_neg (by omega)]; rfl
  | succ d ih =>
    intro m i n a hd hi h32 h0 h1
    rw [show m + (d + 1) + 1 = (m + d + 1) + 1 by omega, hstep _ _ _ _ (by omega) hi h32 h0 h1]
    exact ih m (i + 1) n (f a) (by omega) (by omega) h32 (hf a h0 h1).1 (hf a h0 h1).2

theorem it_mul (f : Int → Int) (hf : ∀ a, f a % 4294967296 = (a * 2) % 4294967296) (d : Nat) : ∀ a, it f d a % 4294967296 = (a * 2 ^ d) % 4294967296 := by
  induction d with
  | zero => intro a; simp [it]
  | succ d ih =>
    intro a
    rw [it, ih, Int.mul_emod, hf, ← Int.mul_emod, Int.mul_assoc, ← Int.pow_succ']
theorem it_range (f : Int → Int) (hf : ∀ a, 0 ≤ a → a < 4294967296 → 0 ≤ f a ∧ f a < 4294967296) (d : Nat) : ∀ a, 0 ≤ a → a < 4294967296 → 0 ≤ it f d a ∧ it f d a < 4294967296 := by
  induction d with
  | zero => intro a h0 h1; exact ⟨h0, h1⟩
  | succ d ih => intro a h0 h1; exact ih (f a) (hf a h0 h1).1 (hf a h0 h1).2
theorem it_div (d : Nat) : ∀ a : Int, it (fun a => a / 2) d a = a / 2 ^ d := by
  induction d with
  | zero => intro a; simp [it]
  | succ d ih =>
    intro a
    rw [it, ih, Int.pow_succ', Int.ediv_ediv_of_nonneg (by omega)]
theorem it_sign (d : Nat) : ∀ a : Int, it (fun a => (wrap32 a / 2) % 4294967296) d a % 4294967296 = (wrap32 a / 2 ^ d) % 4294967296 := by
  induction d with
  | zero => intro a; simp [it, s32_mod]
  | succ d ih =>
    intro a
    have e : wrap32 ((wrap32 a / 2) % 4294967296) = wrap32 a / 2 := by unfold wrap32; omega
    rw [it, ih, e, Int.pow_succ', Int.ediv_ediv_of_nonneg (by omega)]

theorem shift_f (op : Int) (f : Int → Int) (hf : ∀ a, 0 ≤ a → a < 4294967296 → 0 ≤ f a ∧ f a < 4294967296)
    (hstep : ∀ k n i a, i < n → 0 ≤ i → n ≤ 32 → 0 ≤ a → a < 4294967296 → tinderref01_shift.l0 (k + 1) op a n i = tinderref01_shift.l0 k op (f a) n (i + 1))
    (m : Nat) (a b : Int) (h0 : 0 ≤ a) (h1 : a < 4294967296) (hb : 0 ≤ b) (hb' : b < 4294967296) :
    tinderref01_shift.f (m + 33) op a b = some (it f (min b.toNat 32) a) := by
  have e : mn (wrap64 b) 32 = ((min b.toNat 32 : Nat) : Int) := by unfold mn; rw [w64 (by omega) (by omega)]; split <;> omega
  unfold tinderref01_shift.f
  rw [e]
  have h := shift_rounds op f hf hstep (min b.toNat 32) (m + 32 - min b.toNat 32) 0 ((min b.toNat 32 : Nat) : Int) a (by omega) (by omega) (by omega) h0 h1
  rw [show m + 32 - min b.toNat 32 + min b.toNat 32 + 1 = m + 33 by omega] at h
  exact h

theorem lshift (m : Nat) (a b : Int) (h0 : 0 ≤ a) (h1 : a < 4294967296) (hb : 0 ≤ b) (hb' : b < 4294967296) :
    tinderref01_shift.f (m + 33) 39 a b = some (shl .u32 a b) := by
  have hf : ∀ a : Int, 0 ≤ a → a < 4294967296 → 0 ≤ (a * 2) % 4294967296 ∧ (a * 2) % 4294967296 < 4294967296 := by intro a _ _; omega
  rw [shift_f 39 (fun a => (a * 2) % 4294967296) hf ?_ m a b h0 h1 hb hb']
  · have h := it_mul (fun a => (a * 2) % 4294967296) (fun a => by simp) (min b.toNat 32) a
    have r := it_range (fun a => (a * 2) % 4294967296) hf (min b.toNat 32) a h0 h1
    rw [Int.emod_eq_of_lt r.1 r.2] at h
    rw [h]; unfold shl; rw [IntKind.wrap_u32]; rfl
  · intro k n i a hi _ hn ha ha'
    simp only [tinderref01_shift.l0]
    rw [if_pos hi, if_pos trivial, rcell, w64 (a := a) (by omega) (by omega), w64 (a := a * 2) (by omega) (by omega), w64 (a := i + 1) (by omega) (by omega)]; rfl
theorem rshift (m : Nat) (a b : Int) (h0 : 0 ≤ a) (h1 : a < 4294967296) (hb : 0 ≤ b) (hb' : b < 4294967296) :
    tinderref01_shift.f (m + 33) 40 a b = some (shr .u32 a b) := by
  rw [shift_f 40 (fun a => a / 2) (fun a _ _ => by omega) ?_ m a b h0 h1 hb hb', it_div]
  · rfl
  · intro k n i a hi _ hn ha ha'
    simp only [tinderref01_shift.l0]
    rw [if_pos hi, if_neg (by decide), if_neg (by decide), w64 (a := i + 1) (by omega) (by omega), Int.tdiv_eq_ediv_of_nonneg ha, Int.emod_eq_of_lt (by omega) (by omega)]
theorem ashift (m : Nat) (a b : Int) (h0 : 0 ≤ a) (h1 : a < 4294967296) (hb : 0 ≤ b) (hb' : b < 4294967296) :
    tinderref01_shift.f (m + 33) 41 a b = some (shr .i32 (wrap32 a) b % 4294967296) := by
  have hf : ∀ a : Int, 0 ≤ a → a < 4294967296 → 0 ≤ (wrap32 a / 2) % 4294967296 ∧ (wrap32 a / 2) % 4294967296 < 4294967296 := by intro a _ _; omega
  rw [shift_f 41 (fun a => (wrap32 a / 2) % 4294967296) hf ?_ m a b h0 h1 hb hb']
  · have h := it_sign (min b.toNat 32) a
    have r := it_range (fun a => (wrap32 a / 2) % 4294967296) hf (min b.toNat 32) a h0 h1
    rw [Int.emod_eq_of_lt r.1 r.2] at h
    rw [h]; rfl
  · intro k n i a hi _ hn ha ha'
    simp only [tinderref01_shift.l0]
    rw [if_pos hi, if_neg (by decide), if_pos trivial, w64 (a := i + 1) (by omega) (by omega), half_sign ha ha']

theorem nat_of {a : Int} (h0 : 0 ≤ a) (h1 : a < 4294967296) : ∃ A : Nat, a = A ∧ A < 4294967296 := ⟨a.toNat, by omega, by omega⟩

/-- The reference's Bin at an operation of bits. -/
theorem rbits (m : Nat) (op : Int) (hop : op = 35 ∨ op = 36 ∨ op = 37) (A B C : Nat) (hC : C < 4294967296) (hbit : ∀ i, C.testBit i = bitOf op (A.testBit i) (B.testBit i)) (s t : Int) :
    tinderref01_Bin.j0 (m + 34) op A B s t op true = some ((C : Int), 0) := by
  rw [show m + 34 = (m + 33) + 1 by omega]
  simp only [tinderref01_Bin.j0]
  rw [if_pos trivial, bits_is op hop A B C hC hbit m]; rfl

theorem same (op a b : Int) (ha : 0 ≤ a) (ha' : a < 4294967296) (hb : 0 ≤ b) (hb' : b < 4294967296) :
    ∃ x e, cell_Bin.f 40 op a b = some (x, e) ∧ tinderref01_Bin.f 40 op a b = some (x, e) := by
  have ea := rsigned ha ha'
  have eb := rsigned hb hb'
  have ba := s32_bd a
  have bb := s32_bd b
  obtain ⟨A, rfl, hA⟩ := nat_of ha ha'
  obtain ⟨B, rfl, hB⟩ := nat_of hb hb'
  have xa := Int.toNat_natCast A
  have xb := Int.toNat_natCast B
  unfold tinderref01_Bin.f
  rw [ea, eb]
  simp only [Option.bind_some]
  by_cases h30 : op = 30
  · subst h30; refine ⟨_, _, rfl, ?_⟩
    rw [if_pos rfl, rcell]; simp only [Option.bind_some]
    rw [w64 (a := A) (by omega) (by omega), w64 (a := B) (by omega) (by omega), w64_mod]
  by_cases h31 : op = 31
  · subst h31; refine ⟨_, _, rfl, ?_⟩
    rw [if_neg (by decide), if_pos rfl, rcell]; simp only [Option.bind_some]
    rw [w64_mod, Int.sub_emod, s32_mod, s32_mod, ← Int.sub_emod]
  by_cases h32 : op = 32
  · subst h32; refine ⟨_, _, rfl, ?_⟩
    rw [if_neg (by decide), if_neg (by decide), if_pos rfl, rcell]; simp only [Option.bind_some]
    rw [w64_mod, mul_mod32]
  rw [if_neg h30, if_neg h31, if_neg h32]
  unfold cell_Bin.f
  rw [if_neg h30, if_neg h31, if_neg h32]
  by_cases h33 : op = 33
  · subst h33
    rw [if_pos rfl, if_neg (by decide), if_neg (by decide)]
    by_cases hz : (B : Int) = 0
    · rw [hz]; refine ⟨0, 7, ?_, ?_⟩
      · simp only [cell_Bin.j0]; rw [if_pos (by decide), divide_zero]; rfl
      · simp [tinderref01_Bin.j0, tinderref01_Bin.j1, tinderref01_Bin.j2, wrap32]
    · refine ⟨(flr (wrap32 A) (wrap32 B)).1 % 4294967296, 0, ?_, ?_⟩
      · simp only [cell_Bin.j0]; rw [if_pos (by decide), divide_floor _ _ _ hb hb' hz]; rfl
      · simp [tinderref01_Bin.j0, tinderref01_Bin.j1, tinderref01_Bin.j2, s_ne hb hb' hz, rfloor (wrap32 A) (wrap32 B) (by omega) (by omega) (by omega) (by omega) (s_ne hb hb' hz), rcell]
  rw [if_neg h33]
  by_cases h34 : op = 34
  · subst h34
    rw [if_neg (by decide), if_neg (by decide)]
    by_cases hz : (B : Int) = 0
    · rw [hz]; refine ⟨0, 7, ?_, ?_⟩
      · simp only [cell_Bin.j0]; rw [if_pos (by decide), divide_zero]; rfl
      · simp [tinderref01_Bin.j0, tinderref01_Bin.j1, tinderref01_Bin.j2, wrap32]
    · refine ⟨(flr (wrap32 A) (wrap32 B)).2 % 4294967296, 0, ?_, ?_⟩
      · simp only [cell_Bin.j0]; rw [if_pos (by decide), divide_floor _ _ _ hb hb' hz]; rfl
      · simp [tinderref01_Bin.j0, tinderref01_Bin.j1, tinderref01_Bin.j2, s_ne hb hb' hz, rfloor (wrap32 A) (wrap32 B) (by omega) (by omega) (by omega) (by omega) (s_ne hb hb' hz), rcell]
  rw [show (op == 34) = false by simpa using h34]
  by_cases h35 : op = 35
  · subst h35
    have hC : A &&& B < 4294967296 := Nat.lt_of_le_of_lt Nat.and_le_left hA
    refine ⟨((A &&& B : Nat) : Int), 0, ?_, ?_⟩
    · simp [cell_Bin.j0, u32_and_nat A B hA hB]
    · rw [if_pos rfl]
      exact rbits 6 35 (by omega) A B _ hC (fun i => by simp [bitOf, Nat.testBit_and]) _ _
  by_cases h36 : op = 36
  · subst h36
    have hC : A ||| B < 4294967296 := Nat.or_lt_two_pow (n := 32) hA hB
    refine ⟨((A ||| B : Nat) : Int), 0, ?_, ?_⟩
    · simp [cell_Bin.j0, u32_or_nat A B hA hB]
    · rw [if_neg (by decide), if_pos rfl]
      exact rbits 6 36 (by omega) A B _ hC (fun i => by simp [bitOf, Nat.testBit_or]) _ _
  by_cases h37 : op = 37
  · subst h37
    have hC : A ^^^ B < 4294967296 := Nat.xor_lt_two_pow (n := 32) hA hB
    refine ⟨((A ^^^ B : Nat) : Int), 0, ?_, ?_⟩
    · simp [cell_Bin.j0, u32_xor_nat A B hA hB]
    · rw [if_neg (by decide), if_neg (by decide)]
      exact rbits 6 37 (by omega) A B _ hC (fun i => by simp [bitOf, Nat.testBit_xor]) _ _
  rw [if_neg h35, if_neg h36, show (op == 37) = false by simpa using h37]
  by_cases h39 : op = 39
  · subst h39
    exact ⟨shl .u32 A B, 0, by simp [cell_Bin.j0], by simp [tinderref01_Bin.j0, tinderref01_Bin.j1, lshift 5 _ _ ha ha' hb hb']⟩
  by_cases h40 : op = 40
  · subst h40
    exact ⟨shr .u32 A B, 0, by simp [cell_Bin.j0], by simp [tinderref01_Bin.j0, tinderref01_Bin.j1, rshift 5 _ _ ha ha' hb hb']⟩
  by_cases h41 : op = 41
  · subst h41
    exact ⟨shr .i32 (wrap32 A) B % 4294967296, 0, by simp [cell_Bin.j0], by simp [tinderref01_Bin.j0, tinderref01_Bin.j1, ashift 5 _ _ ha ha' hb hb']⟩
  by_cases h46 : op = 46
  · subst h46; exact ⟨_, 0, by simp [cell_Bin.j0]; rfl, by simp [tinderref01_Bin.j0, tinderref01_Bin.j1, rcell]⟩
  by_cases h47 : op = 47
  · subst h47; exact ⟨_, 0, by simp [cell_Bin.j0]; rfl, by simp [tinderref01_Bin.j0, tinderref01_Bin.j1, rcell]⟩
  have hflag : ∀ b : Bool, ∃ x, cell_flag.f b = some x ∧ tinderref01_Flag.f b = some x := fun b => ⟨_, flags b |>.trans (flag_some b), flag_some b⟩
  by_cases h58 : op = 58
  · subst h58; obtain ⟨x, e1, e2⟩ := hflag (decide (wrap32 A < wrap32 B)); exact ⟨x, 0, by simp [cell_Bin.j0, cell_compare.f, e1], by simp [tinderref01_Bin.j0, tinderref01_Bin.j1, e2]⟩
  by_cases h59 : op = 59
  · subst h59; obtain ⟨x, e1, e2⟩ := hflag (decide (wrap32 A > wrap32 B)); exact ⟨x, 0, by simp [cell_Bin.j0, cell_compare.f] at e1 ⊢; simp [e1], by simp [tinderref01_Bin.j0, tinderref01_Bin.j1] at e2 ⊢; simp [e2]⟩
  by_cases h60 : op = 60
  · subst h60; obtain ⟨x, e1, e2⟩ := hflag ((A : Int) == B); exact ⟨x, 0, by simp [cell_Bin.j0, cell_compare.f] at e1 ⊢; simp [e1], by simp [tinderref01_Bin.j0, tinderref01_Bin.j1] at e2 ⊢; simp [e2]⟩
  by_cases h61 : op = 61
  · subst h61; obtain ⟨x, e1, e2⟩ := hflag ((A : Int) != B); exact ⟨x, 0, by simp [cell_Bin.j0, cell_compare.f] at e1 ⊢; simp [e1], by simp [tinderref01_Bin.j0, tinderref01_Bin.j1] at e2 ⊢; simp [e2]⟩
  by_cases h62 : op = 62
  · subst h62; obtain ⟨x, e1, e2⟩ := hflag (decide ((A : Int) > B)); exact ⟨x, 0, by simp [cell_Bin.j0, cell_compare.f] at e1 ⊢; simp [e1], by simp [tinderref01_Bin.j0, tinderref01_Bin.j1] at e2 ⊢; simp [e2]⟩
  by_cases h63 : op = 63
  · subst h63; obtain ⟨x, e1, e2⟩ := hflag (decide ((A : Int) ≤ B)); exact ⟨x, 0, by simp [cell_Bin.j0, cell_compare.f] at e1 ⊢; simp [e1], by simp [tinderref01_Bin.j0, tinderref01_Bin.j1] at e2 ⊢; simp [e2]⟩
  by_cases h64 : op = 64
  · subst h64; obtain ⟨x, e1, e2⟩ := hflag (decide ((A : Int) < B)); exact ⟨x, 0, by simp [cell_Bin.j0, cell_compare.f] at e1 ⊢; simp [e1], by simp [tinderref01_Bin.j0, tinderref01_Bin.j1] at e2 ⊢; simp [e2]⟩
  by_cases h65 : op = 65
  · subst h65; obtain ⟨x, e1, e2⟩ := hflag (decide ((A : Int) ≥ B)); exact ⟨x, 0, by simp [cell_Bin.j0, cell_compare.f] at e1 ⊢; simp [e1], by simp [tinderref01_Bin.j0, tinderref01_Bin.j1] at e2 ⊢; simp [e2]⟩
  by_cases h66 : op = 66
  · subst h66; obtain ⟨x, e1, e2⟩ := hflag (decide (wrap32 A ≥ wrap32 B)); exact ⟨x, 0, by simp [cell_Bin.j0, cell_compare.f] at e1 ⊢; simp [e1], by simp [tinderref01_Bin.j0, tinderref01_Bin.j1] at e2 ⊢; simp [e2]⟩
  by_cases h67 : op = 67
  · subst h67; obtain ⟨x, e1, e2⟩ := hflag (decide (wrap32 A ≤ wrap32 B)); exact ⟨x, 0, by simp [cell_Bin.j0, cell_compare.f] at e1 ⊢; simp [e1], by simp [tinderref01_Bin.j0, tinderref01_Bin.j1] at e2 ⊢; simp [e2]⟩
  exact ⟨0, 2, by simp [cell_Bin.j0, cell_compare.f, h35, h36, h37, h39, h40, h41, h46, h47, h58, h59, h60, h61, h62, h63, h64, h65, h66, h67], by simp [tinderref01_Bin.j0, tinderref01_Bin.j1, tinderref01_Bin.j2, h33, h34, h39, h40, h41, h46, h47, h58, h59, h60, h61, h62, h63, h64, h65, h66, h67]⟩

theorem CellBins : tinderlaw01_CellBins.Pure := by
  intro op a b _ wa wb
  have ha := wf32 wa
  have hb := wf32 wb
  obtain ⟨x, e, h1, h2⟩ := same op a b ha.1 ha.2 hb.1 hb.2
  refine ⟨40, ?_⟩
  unfold tinderlaw01_CellBins.f
  rw [alive 38, h1, h2]
  simp
end Go.Proofs.Ytdjpodpibkcnaaa.Pure
