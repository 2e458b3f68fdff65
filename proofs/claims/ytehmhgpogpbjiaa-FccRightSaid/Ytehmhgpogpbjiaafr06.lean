import Derived.Test.Ytehmhgpogpbjiaafr04
import Derived.Laws.IdiomStrings
import Derived.Lib.Bytealg
import Derived.Lib.Walk
import Derived.Lib.Slices
import Derived.Lib.Strings
set_option linter.unusedVariables false
set_option linter.unusedSimpArgs false
set_option maxRecDepth 100000
set_option maxHeartbeats 8000000
namespace Go.Proofs.Ytehmhgpogpbjiaa
open Go.RowKit Go.Proofs.YtehmhgpogpbjiaaW.PrintWords Go.Proofs.Ytehmhgpogpbjiaa.PFccTokens
def isB (b : UInt8) : Bool := decide (b.toNat ≤ 32)
def upL (c : UInt8) : List UInt8 → Option (List UInt8 × List UInt8)
 | [] => none
 | b :: l => if b = c then some ([], l) else (upL c l).map fun p => (b :: p.1, p.2)
theorem US {c : UInt8} : ∀ {l t r : List UInt8}, upL c l = some (t, r) → l = t ++ c :: r ∧ c ∉ t
 | [], t, r, h => by cases h
 | b :: l, t, r, h => by
   unfold upL at h
   by_cases e : b = c
   ·rw [if_pos e] at h
    injection h with h
    injection h with h1 h2
    subst h1 h2 e
    exact ⟨rfl, Z3⟩
   ·rw [if_neg e] at h
    cases hu : upL c l with
    | none => rw [hu] at h; cases h
    | some p =>
      rw [hu] at h
      obtain ⟨p1, p2⟩ := p
      injection h with h
      injection h with h1 h2
      subst h1 h2
      obtain ⟨h3, h4⟩ := US hu
      exact ⟨(by rw [h3]; rfl), (by simp [h4, Ne.symm e])⟩
theorem Xd {c : UInt8} {l t r : List UInt8} (h : upL c l = some (t, r)) : l.length = t.length + 1 + r.length := by
 rw [(US h).1]; simp; omega
def hexv (b : UInt8) : Option Nat :=
 if 48 ≤ b.toNat ∧ b.toNat ≤ 57 then some (b.toNat - 48) else if 97 ≤ b.toNat ∧ b.toNat ≤ 102 then some (b.toNat - 87) else if 65 ≤ b.toNat ∧ b.toNat ≤ 70 then some (b.toNat - 55) else none
theorem hexv_lt {b : UInt8} {v : Nat} (h : hexv b = some v) : v < 16 := by
 unfold hexv at h
 split at h
 ·injection h; omega
 split at h
 ·injection h; omega
 split at h
 ·injection h; omega
 ·cases h
def hexL : List UInt8 → Option Nat → Option (List UInt8)
 | [], none => some []
 | [], some _ => none
 | b :: l, h => if isB b then hexL l h else match hexv b with
   | none => none
   | some v => match h with
     | none => hexL l (some v)
     | some u => (hexL l none).map fun r => UInt8.ofNat (u * 16 + v) :: r
def limL (t r : List UInt8) : Int × List UInt8 × List UInt8 := if t.length > 255 then (3, [], r) else (0, t, r)
inductive UD : List UInt8 → List UInt8 → Int → List UInt8 → List UInt8 → Prop
 | none {acc l : List UInt8} : upL 34 l = none → UD acc l 15 [] []
 | fin {acc l t : List UInt8} : upL 34 l = some (t, []) → UD acc l (limL (acc ++ t) []).1 (limL (acc ++ t) []).2.1 []
 | blank {acc l t r : List UInt8} {b : UInt8} : upL 34 l = some (t, b :: r) → isB b = true → UD acc l (limL (acc ++ t) []).1 (limL (acc ++ t) []).2.1 (b :: r)
 | bad {acc l t r : List UInt8} {b : UInt8} : upL 34 l = some (t, b :: r) → isB b = false → b ≠ 40 → UD acc l 15 [] []
 | noend {acc l t r : List UInt8} : upL 34 l = some (t, 40 :: r) → upL 41 r = none → UD acc l 15 [] []
 | nohex {acc l t r x r2 : List UInt8} : upL 34 l = some (t, 40 :: r) → upL 41 r = some (x, r2) → hexL x none = none → UD acc l 15 [] []
 | hex {acc l t r x r2 y t' r' : List UInt8} {e : Int} : upL 34 l = some (t, 40 :: r) → upL 41 r = some (x, r2) → hexL x none = some y → UD (acc ++ t ++ y) r2 e t' r' → UD acc l e t' r'
theorem quot_ex : ∀ (n : Nat) (acc l : List UInt8), l.length < n → ∃ e t r, UD acc l e t r := by
 intro n
 induction n with
 | zero => intro acc l h; omega
 | succ n ih =>
   intro acc l h
   cases hu : upL 34 l with
   | none => exact ⟨_, _, _, .none hu⟩
   | some p =>
     obtain ⟨t, r⟩ := p
     cases r with
     | nil => exact ⟨_, _, _, .fin hu⟩
     | cons b r =>
       cases hb : isB b with
       | true => exact ⟨_, _, _, .blank hu hb⟩
       | false =>
         by_cases e : b = 40
         ·subst e
          cases h2 : upL 41 r with
          | none => exact ⟨_, _, _, .noend hu h2⟩
          | some q =>
            obtain ⟨x, r2⟩ := q
            cases h3 : hexL x none with
            | none => exact ⟨_, _, _, .nohex hu h2 h3⟩
            | some y =>
              have h4 := Xd hu
              have h5 := Xd h2
              simp at h4
              obtain ⟨e, t', r', hq⟩ := ih (acc ++ t ++ y) r2 Z0
              exact ⟨e, t', r', .hex hu h2 h3 hq⟩
         ·exact ⟨_, _, _, .bad hu hb e⟩
def Uf (b : UInt8) : UInt8 := if 65 ≤ b.toNat ∧ b.toNat ≤ 90 then b + 32 else b
def byt (l : List UInt8) : ByteArray := ⟨l.toArray⟩
def consT (x : S59) (r : Int × List S59) : Int × List S59 := if r.1 = 0 then (0, x :: r.2) else (r.1, [])
def XP (l : List UInt8) : List UInt8 := l.takeWhile fun b => !isB b
def XG (l : List UInt8) : List UInt8 := l.dropWhile fun b => !isB b
theorem UE (l : List UInt8) : XP l ++ XG l = l := List.takeWhile_append_dropWhile
theorem UT (l : List UInt8) : (XP l).length + (XG l).length = l.length := by
 rw [← List.length_append, UE]
theorem Yck {l r : List UInt8} {b : UInt8} (h : l.dropWhile isB = b :: r) : isB b = false := by
 induction l with
 | nil => cases h
 | cons a l ih =>
   rw [List.dropWhile_cons] at h
   split at h
   ·exact ih h
   ·rename_i hb
    injection h with h1 h2
    subst h1
    simpa using hb
theorem YbQ (l : List UInt8) : (l.dropWhile isB).length ≤ l.length := (List.dropWhile_sublist _).length_le
theorem Yc8 {b : UInt8} {r : List UInt8} (h : isB b = false) : 0 < (XP (b :: r)).length := by
 unfold XP
 rw [List.takeWhile_cons, if_pos (by simp [h])]
 simp
theorem Js {acc l : List UInt8} {e : Int} {t r : List UInt8} (h : UD acc l e t r) (he : e = 0) : r.length < l.length := by
 induction h with
 | none _ => cases he
 | fin h => have := Xd h; simp at this ⊢; omega
 | blank h _ => have := Xd h; simp at this ⊢; omega
 | bad _ _ _ => cases he
 | noend _ _ => cases he
 | nohex _ _ _ => cases he
 | hex h1 h2 _ _ ih =>
   have a := Xd h1
   have b := Xd h2
   have c := ih he
   simp at a
   omega
def VX (w : List UInt8) : Prop := w = [92] ∨ w = [40] ∨ w = [46, 40] ∨ w = [34] ∨ w = [46, 34]
instance (w : List UInt8) : Decidable (VX w) := by unfold VX; infer_instance
inductive CutR (N : Int) : List UInt8 → Int × List S59 → Prop
 | done {l : List UInt8} : l.dropWhile isB = [] → CutR N l (0, [])
 | lineEnd {l L : List UInt8} : l.dropWhile isB = L → L ≠ [] → XP L = [92] → upL 10 (XG L) = none → CutR N l (0, [])
 | line {l L t r : List UInt8} {q : Int × List S59} : l.dropWhile isB = L → L ≠ [] → XP L = [92] → upL 10 (XG L) = some (t, r) → CutR N r q → CutR N l q
 | noParen {l L : List UInt8} : l.dropWhile isB = L → L ≠ [] → XP L = [40] → upL 41 (XG L) = none → CutR N l (15, [])
 | paren {l L t r : List UInt8} {q : Int × List S59} : l.dropWhile isB = L → L ≠ [] → XP L = [40] → upL 41 (XG L) = some (t, r) → CutR N r q → CutR N l q
 | bare {l L : List UInt8} : l.dropWhile isB = L → L ≠ [] → VX (XP L) → XP L ≠ [92] → XP L ≠ [40] → XG L = [] → CutR N l (15, [])
 | noPrint {l L r : List UInt8} {b : UInt8} : l.dropWhile isB = L → L ≠ [] → XP L = [46, 40] → XG L = b :: r → upL 41 r = none → CutR N l (15, [])
 | longPrint {l L r t r2 : List UInt8} {b : UInt8} : l.dropWhile isB = L → L ≠ [] → XP L = [46, 40] → XG L = b :: r → upL 41 r = some (t, r2) → 255 < t.length → CutR N l (3, [])
 | print {l L r t r2 : List UInt8} {b : UInt8} {q : Int × List S59} : l.dropWhile isB = L → L ≠ [] → XP L = [46, 40] → XG L = b :: r → upL 41 r = some (t, r2) → t.length ≤ 255 → CutR N r2 q → CutR N l (consT ⟨3, byt t, N - L.length⟩ q)
 | noQuot {l L r t r2 : List UInt8} {b : UInt8} {e : Int} : l.dropWhile isB = L → L ≠ [] → XP L = [34] ∨ XP L = [46, 34] → XG L = b :: r → UD [] r e t r2 → e ≠ 0 → CutR N l (e, [])
 | quot {l L r t r2 : List UInt8} {b : UInt8} {q : Int × List S59} : l.dropWhile isB = L → L ≠ [] → XP L = [34] ∨ XP L = [46, 34] → XG L = b :: r → UD [] r 0 t r2 → CutR N r2 q → CutR N l (consT ⟨if XP L = [34] then 2 else 3, byt t, N - L.length⟩ q)
 | word {l L : List UInt8} {q : Int × List S59} : l.dropWhile isB = L → L ≠ [] → ¬ VX (XP L) → CutR N (XG L) q → CutR N l (consT ⟨1, byt ((XP L).map Uf), N - L.length⟩ q)
theorem XM {l L : List UInt8} (h : l.dropWhile isB = L) (h0 : L ≠ []) : (XG L).length < l.length := by
 cases L with
 | nil => exact absurd rfl h0
 | cons b r =>
   have h1 := Yc8 (r := r) (Yck h)
   have h2 := UT (b :: r)
   have h3 := YbQ l
   rw [h] at h3
   omega
theorem Ycp (N : Int) : ∀ (n : Nat) (l : List UInt8), l.length < n → ∃ q, CutR N l q := by
 intro n
 induction n with
 | zero => intro l h; omega
 | succ n ih =>
   intro l h
   by_cases h0 : l.dropWhile isB = []
   ·exact ⟨_, .done h0⟩
   obtain ⟨L, hL⟩ : ∃ L, l.dropWhile isB = L := ⟨_, rfl⟩
   rw [hL] at h0
   have hlt := XM hL h0
   by_cases w1 : XP L = [92]
   ·cases hu : upL 10 (XG L) with
    | none => exact ⟨_, .lineEnd hL h0 w1 hu⟩
    | some p =>
      obtain ⟨t, r⟩ := p
      have := Xd hu
      obtain ⟨q, hq⟩ := ih r Z0
      exact ⟨_, .line hL h0 w1 hu hq⟩
   by_cases w2 : XP L = [40]
   ·cases hu : upL 41 (XG L) with
    | none => exact ⟨_, .noParen hL h0 w2 hu⟩
    | some p =>
      obtain ⟨t, r⟩ := p
      have := Xd hu
      obtain ⟨q, hq⟩ := ih r Z0
      exact ⟨_, .paren hL h0 w2 hu hq⟩
   by_cases ws : VX (XP L)
   ·cases hr : XG L with
    | nil => exact ⟨_, .bare hL h0 ws w1 w2 hr⟩
    | cons b r =>
      rw [hr] at hlt
      simp at hlt
      by_cases w3 : XP L = [46, 40]
      ·cases hu : upL 41 r with
       | none => exact ⟨_, .noPrint hL h0 w3 hr hu⟩
       | some p =>
         obtain ⟨t, r2⟩ := p
         have := Xd hu
         by_cases ht : 255 < t.length
         ·exact ⟨_, .longPrint hL h0 w3 hr hu ht⟩
         ·obtain ⟨q, hq⟩ := ih r2 Z0
          exact ⟨_, .print hL h0 w3 hr hu Z0 hq⟩
      ·have w4 : XP L = [34] ∨ XP L = [46, 34] := by
        rcases ws with a | a | a | a | a
        ·exact absurd a w1
        ·exact absurd a w2
        ·exact absurd a w3
        ·exact .inl a
        ·exact .inr a
       obtain ⟨e, t, r2, hq⟩ := quot_ex _ [] r (Nat.lt_succ_self _)
       by_cases he : e = 0
       ·subst he
        have := Js hq rfl
        obtain ⟨q, hq2⟩ := ih r2 Z0
        exact ⟨_, .quot hL h0 w4 hr hq hq2⟩
       ·exact ⟨_, .noQuot hL h0 w4 hr hq he⟩
   ·obtain ⟨q, hq⟩ := ih (XG L) Z0
    exact ⟨_, .word hL h0 ws hq⟩
end Go.Proofs.Ytehmhgpogpbjiaa
namespace Go.Proofs.Ytehmhgpogpbjiaa
set_option maxRecDepth 100000
open Go.RowKit Go.Proofs.YtehmhgpogpbjiaaW.PrintWords Go.Proofs.YtehmhgpogpbjiaaW.PrintLast Go.Proofs.YtehmhgpogpbjiaaW.PrintMore
set_option linter.unusedVariables false
set_option linter.unusedSimpArgs false
def UH (n : Int) : Int := if 65 ≤ n ∧ n ≤ 90 then n + 32 else n
def Yao (s : ByteArray) : List Int := s.data.toList.map fun b => UH b.toNat
def VC.f (a0 : ByteArray) : Option ByteArray := if a0.size ≤ 9223372036854775807 then some (strOfNums (Yao a0)) else none
def smC (s : ByteArray) (cap k : Nat) : Array Value :=
 ((s.data.toList.zipIdx.map fun (p : UInt8 × Nat) => Value.int .u8 (if p.2 < k then UH p.1.toNat else p.1.toNat)) ++ List.replicate (cap - s.size) (Value.int .u8 0)).toArray
theorem Ybs (s : ByteArray) (cap k : Nat) : (smC s cap k).size = s.size + (cap - s.size) := by simp [smC]
theorem Ydf (s : ByteArray) (cap k i : Nat) (hi : i < s.size) : (smC s cap k)[i]? = some (.int .u8 (if i < k then UH (s.data.toList.getD i 0).toNat else (s.data.toList.getD i 0).toNat)) := by
 have hi' : i < s.data.toList.length := by simpa using hi
 have hi'' : i < s.data.size := hi
 simp [smC, List.getElem?_append, hi', List.getElem?_map, List.getElem?_zipIdx, hi, hi'', List.getD_eq_getElem?_getD]
theorem Yde (s : ByteArray) (cap : Nat) : bytesRow s cap = smC s cap 0 := by
 apply Array.ext'
 simp only [bytesRow, smC, Array.toList_append, Array.toList_map, Array.toList_replicate]
 congr 1
 apply List.ext_getElem?
 intro i
 simp only [List.getElem?_map, List.getElem?_zipIdx]
 cases s.data.toList[i]? <;> simp
theorem smC_set (s : ByteArray) (cap k : Nat) (hk : k < s.size) : (smC s cap k).setIfInBounds k (.int .u8 (UH (s.data.toList.getD k 0).toNat)) = smC s cap (k + 1) := by
 apply Array.ext_getElem?
 intro i
 rw [Array.getElem?_setIfInBounds]
 have hk' : k < s.data.toList.length := by simpa using hk
 by_cases h : k = i
 ·subst h
  rw [if_pos rfl, if_pos (by rw [Ybs]; omega), Ydf _ _ _ _ hk, if_pos Z0]
 ·rw [if_neg h]
  simp only [smC, List.getElem?_toArray, List.getElem?_append, List.length_map, List.length_zipIdx, List.getElem?_map, List.getElem?_zipIdx]
  split
  ·cases s.data.toList[i]? with
   | none => rfl
   | some b =>
     simp only [Option.map_some, Nat.zero_add]
     congr 2
     by_cases h2 : i < k
     ·rw [if_pos h2, if_pos Z0]
     ·rw [if_neg h2, if_neg Z0]
  ·rfl
theorem smC_skip (s : ByteArray) (cap k : Nat) (hk : k < s.size) (h : UH (s.data.toList.getD k 0).toNat = (s.data.toList.getD k 0).toNat) : smC s cap k = smC s cap (k + 1) := by
 rw [← smC_set s cap k hk, h]
 have := Ydf s cap k k hk
 rw [if_neg Z0] at this
 apply Array.ext_getElem?
 intro i
 rw [Array.getElem?_setIfInBounds]
 by_cases e : k = i
 ·subst e
  rw [if_pos rfl, if_pos (by rw [Ybs]; omega), this]
 ·rw [if_neg e]
theorem blk_at {w : World} {g : Nat} {cs : Array Value} {t : TypeId} {fr : Nat × Nat} (h : w.heap[g]? = some (.cells cs t fr)) (i : Nat) : w.cell? ⟨g, i, none⟩ = cs[i]? := cell_of_row w g i cs t fr h
theorem blk_free {w : World} {g : Nat} {cs : Array Value} {t : TypeId} {a b : Nat} (h : w.heap[g]? = some (.cells cs t (a, b))) {i : Nat} (hi : i < a) : w.frozen? ⟨g, i, none⟩ = false := by
 simp [World.frozen?, h]; omega
theorem blk_setAt {w : World} {g : Nat} {cs : Array Value} {t : TypeId} {fr : Nat × Nat} (h : w.heap[g]? = some (.cells cs t fr)) (i : Nat) (v : Value) : (w.setCell ⟨g, i, none⟩ v).heap[g]? = some (.cells (cs.setIfInBounds i v) t fr) := by
 simp [World.setCell, Array.getElem?_modify, h]
theorem smC_C (s : ByteArray) (cap : Nat) {w : World} {g : Nat} {fr : Nat × Nat} (hs : s.size ≤ 9223372036854775807) (h : w.heap[g]? = some (.cells (smC s cap s.size) 5 fr)) : Kd.C (Kd.int .u8) w (some ⟨g, 0, none⟩) s.size (Yao s) := by
 refine Kd.C_of_reads (d := 0) ⟨(by simp [Yao]), hs, fun _ => ⟨_, rfl, fun j hj => ?_⟩⟩
 have := blk_at h j
 rw [Ydf _ _ _ _ hj, if_pos hj] at this
 have hj' : j < s.data.toList.length := by simpa using hj
 have e : (Yao s).getD j 0 = UH (s.data.toList.getD j 0).toNat := by
  simp [Yao, List.getD_eq_getElem?_getD, List.getElem?_map, List.getElem?_eq_getElem hj']
 show w.cell? (Addr.add ⟨g, 0, none⟩ j) = _
 rw [e, ← this]
 congr 1
 unfold Addr.add
 by_cases e0 : j = 0
 ·simp [e0]
 ·simp [e0]
theorem VC.calls (a0 : ByteArray) (r : ByteArray) (w : World) (h : VC.f a0 = some r) :
 Calls Try.prog 31 #[.string a0] w fun e w' => e = .returned (.string r) ∧ Below w.heap.size w w' := by
 unfold VC.f at h
 split at h
 case isFalse => cases h
 rename_i hs
 obtain rfl : strOfNums (Yao a0) = r := Option.some.inj h
 clear h
 have hcv := fun w => run_bytes_of_string (P := Try.prog) w 9 29 5 a0 Try.underlying9 Try.underlying29 Try.underlying5
 go_enter Try.func31, Try.ntmps31
 go_wp2
 clear hcv
 generalize grownCap w a0.size 0 5 = C
 have HB := Aside0.mk (show Below w.heap.size w ((w.alloc (.cells (bytesRow a0 C) 5 ((bytesRow a0 C).size, (bytesRow a0 C).size + 1))).drew) from VA (Yc (Below.refl _ _) _))
 have HD := Aside0.mk (show ((w.alloc (.cells (bytesRow a0 C) 5 ((bytesRow a0 C).size, (bytesRow a0 C).size + 1))).drew).heap[w.heap.size]? = some (.cells (smC a0 C 0) 5 ((bytesRow a0 C).size, (bytesRow a0 C).size + 1)) from by
  rw [← Yde]; exact heap_alloc_new w _)
 have hN : a0.size ≤ (bytesRow a0 C).size := by rw [Yde, Ybs]; omega
 generalize (bytesRow a0 C).size = N at HB HD hN ⊢
 go_loopg [10] a0.size (fun gg s10 wr => ∃ kk : Nat, kk ≤ a0.size ∧ a0.size - kk ≤ gg ∧ s10 = .int .i64 kk ∧ Aside0 (Below w.heap.size w wr) ∧ Aside0 (wr.heap[w.heap.size]? = some (.cells (smC a0 C kk) 5 (N, N + 1))))
 case atStart => exact ⟨0, Nat.zero_le _, Z0, rfl, HB, HD⟩
 case round =>
  clear HB HD
  obtain ⟨kk, hkk, hg, rfl, HB, HD⟩ := hrel
  by_cases hlt : kk < a0.size
  ·have hltz : (kk : Int) < (a0.size : Int) := by omega
   have g0 : wr.cell? ⟨w.heap.size, kk, none⟩ = some (.int .u8 ((a0.data.toList.getD kk 0).toNat : Int)) := by
    rw [blk_at HD.out, Ydf _ _ _ _ hlt, if_neg Z0]
   have f0 : wr.frozen? ⟨w.heap.size, kk, none⟩ = false := blk_free HD.out Z0
   have HS := Aside0.mk (smC_set a0 C kk hlt)
   have HT := Aside0.mk (smC_skip a0 C kk hlt)
   have hby : (a0.data.toList.getD kk 0).toNat < 256 := UInt8.toNat_lt _
   generalize (a0.data.toList.getD kk 0).toNat = y at g0 HS HT hby
   have p2 : (0 ≤ (kk : Int)) = True := eq_true Z0
   have p3 : ((kk : Int) < (a0.size : Int)) = True := eq_true Z0
   by_cases y0 : 65 ≤ (y : Int)
   ·have y1 := decide_eq_true y0
    by_cases y2 : (y : Int) ≤ 90
    ·have y3 := decide_eq_true y2
     have e1 : UH (y : Int) = y + 32 := if_pos ⟨y0, y2⟩
     rw [e1] at HS
     clear e1
     go_wp2
     go_roundg (a0.size - (kk + 1))
     case measure => omega
     case rel =>
      refine ⟨kk + 1, Z0, Z0, Zy, ⟨?_⟩, ⟨?_⟩⟩
      ·exact HB.out.setCell Z3 _
      ·rw [← HS.out]
       exact blk_setAt HD.out _ _
    ·have y3 := decide_eq_false y2
     have e1 : UH (y : Int) = y := if_neg Z0
     have HT2 := Aside0.mk (HT.out e1)
     clear e1 HT
     go_wp2
     go_roundg (a0.size - (kk + 1))
     case measure => omega
     case rel => exact ⟨kk + 1, Z0, Z0, Zy, HB, ⟨(by rw [← HT2.out]; exact HD.out)⟩⟩
   ·have y1 := decide_eq_false y0
    have e1 : UH (y : Int) = y := if_neg Z0
    have HT2 := Aside0.mk (HT.out e1)
    clear e1 HT
    go_wp2
    go_roundg (a0.size - (kk + 1))
    case measure => omega
    case rel => exact ⟨kk + 1, Z0, Z0, Zy, HB, ⟨(by rw [← HT2.out]; exact HD.out)⟩⟩
  ·have hltz : ¬ (kk : Int) < (a0.size : Int) := by omega
   have : kk = a0.size := by omega
   subst this
   have hcv := Kd.C_string (P := Try.prog) (src := 29) (dst := 9) (c := C) Try.underlying29 Try.underlying5 Try.underlying9 (smC_C a0 C hs HD.out)
   clear HD
   go_wp2
   go_ret
   exact ⟨rfl, HB.out⟩
def Ya1 (s : ByteArray) (i : Int) : ByteArray × ByteArray × Bool := if 0 ≤ i then (s.extract 0 i.toNat, s.extract (i.toNat + 1) s.size, true) else (s, ⟨#[]⟩, false)
def XL.f (a0 a1 : ByteArray) : Option (ByteArray × ByteArray × Bool) :=
 if a0.size ≤ 9223372036854775807 then (match a1.data.toList with | [c] => some (Ya1 a0 (Lib.indexByte a0.data.toList c)) | _ => none) else none
theorem JW (l : List UInt8) (c : UInt8) : Lib.indexByte l c < l.length := by
 induction l with
 | nil => simp [Lib.indexByte]
 | cons b l ih =>
   unfold Lib.indexByte
   simp only [List.length_cons]
   split
   ·omega
   ·split <;> omega
theorem YaE (s : ByteArray) (c : Int) (w : World) :
 Calls Try.prog 102 #[.string s, .int .u8 c] w fun e w' => e = .returned (.int .i64 (Lib.indexByte s.data.toList c.toNat.toUInt8)) ∧ w' = w := by
 go_enter Try.func102, Try.ntmps102
 go_wp2
 rw [run_callFunc_extern Try.func106 Z2 Z2 Z2 (e := Extern.BytealgIndexByte.indexByte) Z2, Lib.run_indexByteString]
 simp only [Result.andThen]
 rw [Oper.upon_value]
 go_wp2
 go_ret
 exact ⟨rfl, rfl⟩
theorem YcO (s : ByteArray) (c : UInt8) (w : World) :
 Calls Try.prog 99 #[.string s, .string ⟨#[c]⟩] w fun e w' => e = .returned (.int .i64 (Lib.indexByte s.data.toList c)) ∧ w' = w := by
 go_enter Try.func99, Try.ntmps99
 go_wp2_with (go_at_call 102; refine (YaE _ _ _).mono ?_; rintro e w' ⟨rfl, rfl⟩)
 ·have h : ([c] == s.toList) = true := by assumption
  go_ret
  refine ⟨?_, rfl⟩
  have e : s.data.toList = [c] := by rw [← Lib.toList_data]; exact (beq_iff_eq.1 h).symm
  rw [e]
  simp [Lib.indexByte]
 ·go_ret
  exact ⟨rfl, rfl⟩
theorem YcB (s : ByteArray) (c : UInt8) (w : World) (hs : s.size ≤ 9223372036854775807) :
 Calls Try.prog 95 #[.string s, .string ⟨#[c]⟩] w fun e w' => e = .returned (.tuple #[.string (Ya1 s (Lib.indexByte s.data.toList c)).1, .string (Ya1 s (Lib.indexByte s.data.toList c)).2.1, .bool (Ya1 s (Lib.indexByte s.data.toList c)).2.2]) ∧ YZ w w' := by
 have hi := YcO s c w
 have hl := JW s.data.toList c
 have hl2 : s.data.toList.length = s.size := by simp
 rw [hl2] at hl
 generalize Lib.indexByte s.data.toList c = i at hi hl ⊢
 clear hl2
 by_cases h0 : 0 ≤ i
 ·obtain ⟨j, rfl⟩ : ∃ j : Nat, i = j := ⟨i.toNat, Z0⟩
  have h1 := decide_eq_true h0
  unfold Ya1
  rw [if_pos h0, Int.toNat_natCast]
  have e1 : wrap64 ((j : Int) + 1) = (j : Int) + 1 := IntWalk.wrap64_in _ ⟨Z0, Z0⟩
  go_enter Try.func95, Try.ntmps95
  go_wp2_with (go_at_call 99; refine hi.mono ?_; rintro e w' ⟨rfl, rfl⟩)
  have p1 : ((0 : Int) ≤ (j : Int)) = True := eq_true h0
  have p2 : ((j : Int) ≤ (s.size : Int)) = True := eq_true Z0
  have p3 : ((j : Int) + 1 ≤ (s.size : Int)) = True := eq_true Z0
  have e2 : ((j : Int) + 1).toNat = j + 1 := by omega
  have p4 : ((0 : Int) ≤ (j : Int) + 1) = True := eq_true Z0
  go_quiet (fail)
  go_wp2
  go_ret3
  exact ⟨rfl, ⟨_, rfl⟩⟩
 ·have h1 := decide_eq_false h0
  unfold Ya1
  rw [if_neg h0]
  go_enter Try.func95, Try.ntmps95
  go_wp2_with (go_at_call 99; refine hi.mono ?_; rintro e w' ⟨rfl, rfl⟩)
  go_ret3
  exact ⟨rfl, ⟨0, rfl⟩⟩
theorem XL.calls (a0 a1 : ByteArray) (r1 r2 : ByteArray) (r3 : Bool) (w : World) (h : XL.f a0 a1 = some (r1, r2, r3)) :
 Calls Try.prog 84 #[.string a0, .string a1] w fun e w' => e = .returned (.tuple #[.string r1, .string r2, .bool r3]) ∧ YZ w w' := by
 unfold XL.f at h
 split at h
 case isFalse => cases h
 rename_i hs
 split at h
 case h_2 => cases h
 rename_i c hc
 obtain rfl : a1 = ⟨#[c]⟩ := by
  cases a1 with
  | mk d => cases d with
    | mk l => simp at hc; subst hc; rfl
 have hcut := YcB a0 c w hs
 have he := Option.some.inj h
 rw [he] at hcut
 clear he h hc
 go_enter Try.func84, Try.ntmps84
 go_wp2_with (go_at_call 95; refine hcut.mono ?_; rintro e w' ⟨rfl, n, rfl⟩)
 go_ret3
 exact ⟨rfl, ⟨_, rfl⟩⟩
def IsS88 (w0 W : World) (g : Nat) (f0 : ByteArray) (f1 : Int) : Prop := W.heap[g]? = some (.cells #[.string f0, .int .i64 f1] 88 (0, 0)) ∧ w0.heap.size ≤ g
theorem IsS88.grown {w0 W : World} {g : Nat} {f0 : ByteArray} {f1 : Int} {W1 : World} {row : Option Nat} (h : IsS88 w0 W g f0 f1) (hw : W.grownBy W1 row) (hne : some g ≠ row) : IsS88 w0 W1 g f0 f1 := by
 obtain ⟨hb, hg⟩ := h
 exact ⟨XU hb hw hne, hg⟩
theorem IsS88.kept {w0 W : World} {g : Nat} {f0 : ByteArray} {f1 : Int} {W1 : World} {S : Nat → Prop} (h : IsS88 w0 W g f0 f1) (hk : Kept W W1 S) (hne : ¬ S g) : IsS88 w0 W1 g f0 f1 := by
 obtain ⟨hb, hg⟩ := h
 exact ⟨blk_kept hb hk hne, hg⟩
theorem IsS88.below {w0 W : World} {g : Nat} {f0 : ByteArray} {f1 : Int} {W1 : World} (h : IsS88 w0 W g f0 f1) (hw : Below W.heap.size W W1) : IsS88 w0 W1 g f0 f1 := h.grown (Um hw none) Z3
theorem IsS88.alloc {w0 W : World} {g : Nat} {f0 : ByteArray} {f1 : Int} (h : IsS88 w0 W g f0 f1) (o : Obj) : IsS88 w0 (W.alloc o) g f0 f1 := h.below (Yc (Below.refl _ _) o)
theorem IsS88.drewN {w0 W : World} {g : Nat} {f0 : ByteArray} {f1 : Int} (h : IsS88 w0 W g f0 f1) (m : Nat) : IsS88 w0 (W.drewN m) g f0 f1 := h
theorem IsS88.drew {w0 W : World} {g : Nat} {f0 : ByteArray} {f1 : Int} (h : IsS88 w0 W g f0 f1) : IsS88 w0 W.drew g f0 f1 := h
theorem IsS88.at_ {w0 W : World} {g : Nat} {f0 : ByteArray} {f1 : Int} {w' : World} {m : Nat} (hq : W.drewN m = w') (h : IsS88 w0 W g f0 f1) : IsS88 w0 w' g f0 f1 := by subst hq; exact IsS88.drewN h m
theorem IsS88.apart {w0 W : World} {g : Nat} {f0 : ByteArray} {f1 : Int} {α : Type} {d : Kd α} {e : Nat} {base : Nat} {ok : Nat → Prop} {v : Value} {xs : List α} (h : IsS88 w0 W g f0 f1) (ho : d.R e W base ok v xs) (ht : ∀ q, q ∈ e :: d.E → q ≠ 88) : d.R e W base (fun k => ok k ∧ k ≠ g) v xs := by
 obtain ⟨hb, hg⟩ := h
 exact Kd.R_types ho hb ht
theorem IsS88.own_ne {w0 W : World} {g : Nat} {f0 : ByteArray} {f1 : Int} {α : Type} {d : Kd α} {e : Nat} {base : Nat} {ok : Nat → Prop} {v : Value} {xs : List α} (h : IsS88 w0 W g f0 f1) (ho : d.R e W base ok v xs) (ht : e ≠ 88) : some g ≠ v.ownBlock := by
 obtain ⟨hb, hg⟩ := h
 exact Kd.R_ne ho hb ht
theorem IsS88.lt {w0 W : World} {g : Nat} {f0 : ByteArray} {f1 : Int} (h : IsS88 w0 W g f0 f1) : g < W.heap.size := by
 obtain ⟨hb, hg⟩ := h
 exact UO hb
theorem IsS88.ge {w0 W : World} {g : Nat} {f0 : ByteArray} {f1 : Int} (h : IsS88 w0 W g f0 f1) : w0.heap.size ≤ g := by
 obtain ⟨hb, hg⟩ := h
 exact hg
theorem IsS88.ne_blk {w0 W : World} {g : Nat} {f0 : ByteArray} {f1 : Int} {a : Nat} {cs : Array Value} {t : TypeId} {fr : Nat × Nat} (h : IsS88 w0 W g f0 f1) (hb2 : W.heap[a]? = some (.cells cs t fr)) (ht : t ≠ 88) : g ≠ a := by
 obtain ⟨hb, hg⟩ := h
 rintro rfl
 rw [hb] at hb2
 injection hb2 with hb2
 injection hb2 with _ ht2
 exact ht ht2.symm
theorem IsS88.far {w0 W : World} {g : Nat} {f0 : ByteArray} {f1 : Int} {p : Addr} (h : IsS88 w0 W g f0 f1) (hne : g ≠ p.block) (u : Value) : IsS88 w0 (W.setCell p u) g f0 f1 := by
 obtain ⟨hb, hg⟩ := h
 exact ⟨Yc1 hb hne u, hg⟩
theorem Xx {W : World} {g : Nat} {f0 : ByteArray} {f1 : Int} (h : W.heap[g]? = some (.cells #[.string f0, .int .i64 f1] 88 (0, 0))) : W.cell? ⟨g, 0, none⟩ = some (.string f0) := (Ya h 0).trans rfl
theorem IsS88.set_0 {w0 W : World} {g : Nat} {f0 : ByteArray} {f1 : Int} (h : IsS88 w0 W g f0 f1) (x : ByteArray) : IsS88 w0 (W.setCell ⟨g, 0, none⟩ (.string x)) g x f1 := by
 obtain ⟨hb, hg⟩ := h
 exact ⟨(by simpa using YaM hb 0 (.string x)), hg⟩
theorem Xw {W : World} {g : Nat} {f0 : ByteArray} {f1 : Int} (h : W.heap[g]? = some (.cells #[.string f0, .int .i64 f1] 88 (0, 0))) : W.cell? ⟨g, 1, none⟩ = some (.int .i64 f1) := (Ya h 1).trans rfl
theorem IsS88.set_1 {w0 W : World} {g : Nat} {f0 : ByteArray} {f1 : Int} (h : IsS88 w0 W g f0 f1) (x : Int) : IsS88 w0 (W.setCell ⟨g, 1, none⟩ (.int .i64 x)) g f0 x := by
 obtain ⟨hb, hg⟩ := h
 exact ⟨(by simpa using YaM hb 1 (.int .i64 x)), hg⟩
theorem IsS88.new (w0 W : World) (f0 : ByteArray) (f1 : Int) (hB : Below w0.heap.size w0 W) : IsS88 w0 (W.alloc (.cells #[.string f0, .int .i64 f1] 88)) W.heap.size f0 f1 := ⟨(by simpa using heap_alloc_new W _), hB.size⟩
def Yk.f (s0_0 : ByteArray) (s0_1 : Int) (a1 : Int) : Option (ByteArray × Bool × ByteArray × Int) :=
 if 0 ≤ s0_1 ∧ s0_1 ≤ s0_0.size ∧ s0_0.size ≤ 9223372036854775000 then
  (XL.f (s0_0.extract s0_1.toNat s0_0.size) (strOfNums [a1])).bind fun r =>
  some (r.1, r.2.2, s0_0, if r.2.2 then s0_1 + (r.1.size + 1) else s0_1) else none
theorem C_byte (w : World) (a : Int) : (Kd.int .u8).C (w.alloc (.cells #[.int .u8 a] 5)).drew (some ⟨w.heap.size, 0, none⟩) 1 [a] :=
 Kd.C_of_reads (d := 0) ⟨rfl, Z1, fun _ => ⟨_, rfl, fun j hj => by
  have : j = 0 := by omega
  subst this
  exact (Ya (Xa w (.cells #[.int .u8 a] 5)) 0).trans rfl⟩⟩
theorem cut_size {s t x1 x2 : ByteArray} {x3 : Bool} (h : XL.f s t = some (x1, x2, x3)) : x1.size ≤ s.size ∧ (x3 = true → x1.size + 1 ≤ s.size) := by
 unfold XL.f at h
 split at h
 case isFalse => cases h
 split at h
 case h_2 => cases h
 rename_i c hc
 have hl := JW s.data.toList c
 have hl2 : s.data.toList.length = s.size := by simp
 rw [hl2] at hl
 generalize Lib.indexByte s.data.toList c = i at h hl
 have h := Option.some.inj h
 unfold Ya1 at h
 split at h
 ·injection h with e1 e2
  injection e2 with e2 e3
  subst e1
  rw [ByteArray.size_extract]
  constructor <;> intros <;> omega
 ·injection h with e1 e2
  injection e2 with e2 e3
  subst e1 e3
  exact ⟨Nat.le_refl _, fun h => by cases h⟩
theorem Yk.calls (g : Nat) (s0_0 : ByteArray) (s0_1 : Int) (a1 : Int) (r1 : ByteArray) (r2 : Bool) (r3 : ByteArray) (r4 : Int) (w0 w : World) (hI : IsS88 w0 w g s0_0 s0_1) (hB : Below w0.heap.size w0 w) (h : Yk.f s0_0 s0_1 a1 = some (r1, r2, r3, r4)) :
 Calls Try.prog 58 #[.pointer (some ⟨g, 0, none⟩), .int .u8 a1] w fun e w' => e = .returned (.tuple #[.string r1, .bool r2]) ∧ IsS88 w0 w' g r3 r4 ∧ Below w0.heap.size w0 w' ∧ Yw w w' g none := by
 unfold Yk.f at h
 split at h
 case isFalse => cases h
 rename_i hc
 obtain ⟨h0, h1, h2⟩ := hc
 cases hx : XL.f (s0_0.extract s0_1.toNat s0_0.size) (strOfNums [a1]) with
 | none => rw [hx] at h; cases h
 | some x =>
 obtain ⟨x1, x2, x3⟩ := x
 have hz := cut_size hx
 rw [ByteArray.size_extract] at hz
 have HX := Aside0.mk hx
 rw [hx] at h
 simp only [Option.bind_some, Option.some.injEq, Prod.mk.injEq] at h
 obtain ⟨rfl, rfl, rfl, rfl⟩ := h
 obtain ⟨hz1, hz2⟩ := hz
 have hz3 : (x1.size : Int) + s0_1 ≤ s0_0.size := by omega
 have HZ := Aside0.mk hz2
 clear hx hz1 hz2
 have HD := Aside0.mk hI.1
 have hge := hI.2
 clear hI
 have q1 : (0 ≤ s0_1) = True := eq_true h0
 have q2 : (s0_1 ≤ (s0_0.size : Int)) = True := eq_true h1
 go_enter Try.func58, Try.ntmps58
 go_wp2_with fail
 refine Yam (n := 20) (S := fun w' => w'.cell? ⟨g, 0, none⟩ = some (.string s0_0) ∧ w'.cell? ⟨g, 1, none⟩ = some (.int .i64 s0_1)) (ds := []) #[false, false, false, false, false, false, false, false, false, false, false, false, false, false, false, false, false, false, false, false] Z2 rfl rfl (⟨(Ya HD.out 0).trans rfl, (Ya HD.out 1).trans rfl⟩) (fun hHeld => ?_)
 refine Jj (rfl : rtab .any (Yaw Try.f58 1) = rtab .any (Yaw Try.f58 1)) (fun HT_ => ?_)
 refine Xr (i := 0) (N := some 10) (v := ?_) (a' := ?_) #[true, false, false, false, false, false, false, false, false, false, false, false, false, false, false, false, false, false, false, false] rfl rfl (any_of HT_.out Z2) (fun _ _ _ h => h) (Or.inl ⟨Z7, ?_⟩) ?_ ?_
 rotate_left
 ·intro w'
  go_simp
  with_reducible rfl
 rotate_left
 ·simp only [Act.put, List.setIfInBounds_toArray, List.set_cons_zero, List.set_cons_succ, YH, YJ]
  rfl
 refine Xr (i := 1) (N := some 11) (v := ?_) (a' := ?_) #[true, true, false, false, false, false, false, false, false, false, false, false, false, false, false, false, false, false, false, false] rfl rfl (any_of HT_.out Z2) (fun _ _ _ h => h) (Or.inl ⟨Z7, ?_⟩) ?_ ?_
 rotate_left
 ·intro w'
  go_simp
  with_reducible rfl
 rotate_left
 ·simp only [Act.put, List.setIfInBounds_toArray, List.set_cons_zero, List.set_cons_succ, YH, YJ]
  rfl
 refine Xr (i := 2) (N := some 12) (v := ?_) (a' := ?_) #[true, true, true, false, false, false, false, false, false, false, false, false, false, false, false, false, false, false, false, false] rfl rfl (any_of HT_.out Z2) (fun _ _ _ h => h) (Or.inl ⟨Z7, ?_⟩) ?_ ?_
 rotate_left
 ·intro w'
  go_simp
  with_reducible rfl
 rotate_left
 ·simp only [Act.put, List.setIfInBounds_toArray, List.set_cons_zero, List.set_cons_succ, YH, YJ]
  rfl
 refine Xr (i := 4) (N := some 14) (v := ?_) (a' := ?_) #[true, true, true, false, true, false, false, false, false, false, false, false, false, false, false, false, false, false, false, false] rfl rfl (any_of HT_.out Z2) (fun _ _ _ h => h) (Or.inl ⟨Z7, ?_⟩) ?_ ?_
 rotate_left
 ·intro w'
  go_simp
  with_reducible rfl
 rotate_left
 ·simp only [Act.put, List.setIfInBounds_toArray, List.set_cons_zero, List.set_cons_succ, YH, YJ]
  rfl
 refine Xr (i := 5) (N := some 15) (v := ?_) (a' := ?_) #[true, true, true, false, true, true, false, false, false, false, false, false, false, false, false, false, false, false, false, false] rfl rfl (any_of HT_.out Z2) (fun _ _ _ h => h) (Or.inl ⟨Z7, ?_⟩) ?_ ?_
 rotate_left
 ·intro w'
  go_simp
  with_reducible rfl
 rotate_left
 ·simp only [Act.put, List.setIfInBounds_toArray, List.set_cons_zero, List.set_cons_succ, YH, YJ]
  rfl
 refine Xr (i := 6) (N := some 16) (v := ?_) (a' := ?_) #[true, true, true, false, true, true, true, false, false, false, false, false, false, false, false, false, false, false, false, false] rfl rfl (any_of HT_.out Z2) (fun _ _ _ h => h) (Or.inl ⟨Z7, ?_⟩) ?_ ?_
 rotate_left
 ·intro w'
  go_simp
  with_reducible rfl
 rotate_left
 ·simp only [Act.put, List.setIfInBounds_toArray, List.set_cons_zero, List.set_cons_succ, YH, YJ]
  rfl
 refine Xr (i := 9) (N := some 19) (v := ?_) (a' := ?_) #[true, true, true, false, true, true, true, false, false, true, false, false, false, false, false, false, false, false, false, false] rfl rfl (any_of HT_.out Z2) (fun _ _ _ h => h) (Or.inl ⟨Z7, ?_⟩) ?_ ?_
 rotate_left
 ·intro w'
  go_simp
  with_reducible rfl
 rotate_left
 ·simp only [Act.put, List.setIfInBounds_toArray, List.set_cons_zero, List.set_cons_succ, YH, YJ]
  rfl
 refine take_ (i := 3) (N := some 13) (v := ?_) (a' := ?_) #[true, true, true, true, true, true, true, false, false, true, false, false, false, false, false, false, false, false, false, false] rfl rfl (take_of HT_.out Z2) (fun _ _ _ h => h) (Or.inl ⟨Z7, ?_⟩) hHeld ?_ ?_
 rotate_left
 ·rintro w' hS; go_split_ands
  go_simp
  with_reducible rfl
 rotate_left
 ·simp only [Act.put, List.setIfInBounds_toArray, List.set_cons_zero, List.set_cons_succ, YH, YJ]
  rfl
 refine take_ (i := 7) (N := some 17) (v := ?_) (a' := ?_) #[true, true, true, true, true, true, true, true, false, true, false, false, false, false, false, false, false, false, false, false] rfl rfl (take_of HT_.out Z2) (fun _ _ _ h => h) (Or.inl ⟨Z7, ?_⟩) hHeld ?_ ?_
 rotate_left
 ·rintro w' hS; go_split_ands
  go_simp
  with_reducible rfl
 rotate_left
 ·simp only [Act.put, List.setIfInBounds_toArray, List.set_cons_zero, List.set_cons_succ, YH, YJ]
  rfl
 refine Xr (i := 8) (N := some 18) (v := ?_) (a' := ?_) #[true, true, true, true, true, true, true, true, true, true, false, false, false, false, false, false, false, false, false, false] rfl rfl (any_of HT_.out Z2) (fun _ _ _ h => h) (Or.inl ⟨Z7, ?_⟩) ?_ ?_
 rotate_left
 ·intro w'
  go_simp
  with_reducible rfl
 rotate_left
 ·simp only [Act.put, List.setIfInBounds_toArray, List.set_cons_zero, List.set_cons_succ, YH, YJ]
  rfl
 refine one_ (i := 10) (N := some 20) #[true, true, true, true, true, true, true, true, true, true, true, false, false, false, false, false, false, false, false, false] rfl rfl (VM HT_.out Z2) Z1 (fun K hK => ?_)
 refine JR (w1 := ?_) (v := ?_) Z7 rfl ?_ ?_
 rotate_left 2
 ·go_simp
  constructor
  ·rfl
  ·rfl
 have HD2 := Aside0.mk (Xh HD.out (.cells #[.int .u8 a1] 5))
 clear HD
 have HD := HD2
 clear HD2
 refine hK.out _ _ (⟨(Ya HD.out 0).trans rfl, (Ya HD.out 1).trans rfl⟩) (fun hHeld => ?_)
 clear hK K
 refine Jd (a' := ?_) ?_ ?_
 rotate_left
 ·show Act.put _ (some 20) _ = _
  simp only [Act.put, List.setIfInBounds_toArray, List.set_cons_zero, List.set_cons_succ, YH, YJ]
  rfl
 refine one_ (i := 11) (N := some 21) #[true, true, true, true, true, true, true, true, true, true, true, true, false, false, false, false, false, false, false, false] rfl rfl (VM HT_.out Z2) Z1 (fun K hK => ?_)
 have hcv := Kd.C_string (P := Try.prog) (src := 29) (dst := 9) (c := 1) Try.underlying29 Try.underlying5 Try.underlying9 (C_byte w a1)
 refine JR (w1 := ?_) (v := ?_) Z7 rfl ?_ ?_
 rotate_left 2
 ·go_simp
  constructor
  ·rfl
  ·rfl
 clear hcv
 refine hK.out _ _ (⟨(Ya HD.out 0).trans rfl, (Ya HD.out 1).trans rfl⟩) (fun hHeld => ?_)
 clear hK K
 refine Jd (a' := ?_) ?_ ?_
 rotate_left
 ·show Act.put _ (some 21) _ = _
  simp only [Act.put, List.setIfInBounds_toArray, List.set_cons_zero, List.set_cons_succ, YH, YJ]
  rfl
 refine one_ (i := 12) (N := some 22) #[true, true, true, true, true, true, true, true, true, true, true, true, true, false, false, false, false, false, false, false] rfl rfl (VM HT_.out Z2) Z1 (fun K hK => ?_)
 refine goes_ Try.func84 Z2 rfl #[.string (s0_0.extract s0_1.toNat s0_0.size), .string (strOfNums [a1])] Z7 rfl rfl Z1z ?_
 with_reducible refine (XL.calls _ _ x1 x2 x3 _ HX.out).mono ?_
 rintro e w3 ⟨rfl, ⟨⟨n, rfl⟩⟩⟩
 refine ⟨_, rfl, ?_⟩
 refine hK.out _ _ (⟨(Ya HD.out 0).trans rfl, (Ya HD.out 1).trans rfl⟩) (fun hHeld => ?_)
 clear hK K
 refine Jd (a' := ?_) ?_ ?_
 rotate_left
 ·show Act.put _ (some 22) _ = _
  simp only [Act.put, List.setIfInBounds_toArray, List.set_cons_zero, List.set_cons_succ, YH, YJ]
  rfl
 refine Xr (i := 13) (N := some 9) (v := ?_) (a' := ?_) #[true, true, true, true, true, true, true, true, true, true, true, true, true, true, false, false, false, false, false, false] rfl rfl (any_of HT_.out Z2) (fun _ _ _ h => h) (Or.inl ⟨Z7, ?_⟩) ?_ ?_
 rotate_left
 ·intro w'
  go_simp
  with_reducible rfl
 rotate_left
 ·simp only [Act.put, List.setIfInBounds_toArray, List.set_cons_zero, List.set_cons_succ, YH, YJ]
  rfl
 refine Xr (i := 14) (N := some 23) (v := ?_) (a' := ?_) #[true, true, true, true, true, true, true, true, true, true, true, true, true, true, true, false, false, false, false, false] rfl rfl (any_of HT_.out Z2) (fun _ _ _ h => h) (Or.inl ⟨Z7, ?_⟩) ?_ ?_
 rotate_left
 ·intro w'
  go_simp
  with_reducible rfl
 rotate_left
 ·simp only [Act.put, List.setIfInBounds_toArray, List.set_cons_zero, List.set_cons_succ, YH, YJ]
  rfl
 refine Xr (i := 15) (N := some 24) (v := ?_) (a' := ?_) #[true, true, true, true, true, true, true, true, true, true, true, true, true, true, true, true, false, false, false, false] rfl rfl (any_of HT_.out Z2) (fun _ _ _ h => h) (Or.inl ⟨Z7, ?_⟩) ?_ ?_
 rotate_left
 ·intro w'
  go_simp
  with_reducible rfl
 rotate_left
 ·simp only [Act.put, List.setIfInBounds_toArray, List.set_cons_zero, List.set_cons_succ, YH, YJ]
  rfl
 refine Xr (i := 16) (N := some 25) (v := ?_) (a' := ?_) #[true, true, true, true, true, true, true, true, true, true, true, true, true, true, true, true, true, false, false, false] rfl rfl (any_of HT_.out Z2) (fun _ _ _ h => h) (Or.inl ⟨Z7, ?_⟩) ?_ ?_
 rotate_left
 ·intro w'
  go_simp
  with_reducible rfl
 rotate_left
 ·simp only [Act.put, List.setIfInBounds_toArray, List.set_cons_zero, List.set_cons_succ, YH, YJ]
  rfl
 refine Xr (i := 17) (N := some 6) (v := ?_) (a' := ?_) #[true, true, true, true, true, true, true, true, true, true, true, true, true, true, true, true, true, true, false, false] rfl rfl (any_of HT_.out Z2) (fun _ _ _ h => h) (Or.inl ⟨Z7, ?_⟩) ?_ ?_
 rotate_left
 ·intro w'
  go_simp
  with_reducible rfl
 rotate_left
 ·simp only [Act.put, List.setIfInBounds_toArray, List.set_cons_zero, List.set_cons_succ, YH, YJ]
  rfl
 refine Xr (i := 18) (N := some 7) (v := ?_) (a' := ?_) #[true, true, true, true, true, true, true, true, true, true, true, true, true, true, true, true, true, true, true, false] rfl rfl (any_of HT_.out Z2) (fun _ _ _ h => h) (Or.inl ⟨Z7, ?_⟩) ?_ ?_
 rotate_left
 ·intro w'
  go_simp
  with_reducible rfl
 rotate_left
 ·simp only [Act.put, List.setIfInBounds_toArray, List.set_cons_zero, List.set_cons_succ, YH, YJ]
  rfl
 refine Xr (i := 19) (N := some 8) (v := ?_) (a' := ?_) #[true, true, true, true, true, true, true, true, true, true, true, true, true, true, true, true, true, true, true, true] rfl rfl (any_of HT_.out Z2) (fun _ _ _ h => h) (Or.inl ⟨Z7, ?_⟩) ?_ ?_
 rotate_left
 ·intro w'
  go_simp
  with_reducible rfl
 rotate_left
 ·simp only [Act.put, List.setIfInBounds_toArray, List.set_cons_zero, List.set_cons_succ, YH, YJ]
  rfl
 refine Ycm (UM HT_.out Z2) ?_
 have HD2 := Aside0.mk (show ((w.alloc (Obj.cells #[Value.int IntKind.u8 a1] 5)).drew.drewN n).heap[g]? = some (.cells #[.string s0_0, .int .i64 s0_1] 88 (0, 0)) from HD.out)
 have HB := Aside0.mk (show Below w0.heap.size w0 ((w.alloc (Obj.cells #[Value.int IntKind.u8 a1] 5)).drew.drewN n) from Xi (VA (Yc hB _)) n)
 have HK := Aside0.mk (show Yw w ((w.alloc (Obj.cells #[Value.int IntKind.u8 a1] 5)).drew.drewN n) g none from Ybd (Yce (Ybe (Yw.refl w g none) _)) n)
 clear hHeld HD hB
 generalize ((w.alloc (Obj.cells #[Value.int IntKind.u8 a1] 5)).drew.drewN n) = w9 at HD2 HB HK ⊢
 have hb0 : w9.cell? ⟨g, 1, none⟩ = some (.int .i64 s0_1) := (Ya HD2.out 1).trans rfl
 have hf0 : w9.frozen? ⟨g, 1, none⟩ = false := Yf HD2.out 1
 cases x3 with
 | false =>
   go_wp2_with fail
   refine bodyPost_ret (v := .tuple #[.string x1, .bool false]) (by simp [results, Try.results58, go_sem]) rfl ⟨rfl, ⟨HD2.out, hge⟩, HB.out, HK.out⟩
 | true =>
   have hz4 : (x1.size : Int) + 1 + s0_1 ≤ s0_0.size := by have := HZ.out rfl; omega
   go_wp2_with fail
   refine bodyPost_ret (v := .tuple #[.string x1, .bool true]) (by simp [results, Try.results58, go_sem]) rfl ⟨rfl, ⟨YM HD2.out 1 _ rfl, hge⟩, ?_, ?_⟩
   ·exact below_set HB.out hge
   ·exact Yw.set_ HK.out _ _
end Go.Proofs.Ytehmhgpogpbjiaa
