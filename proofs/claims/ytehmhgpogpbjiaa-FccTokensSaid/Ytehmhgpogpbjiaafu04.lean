import Derived.Test.YtehmhgpogpbjiaaProg
import Derived.Test.Ytehmhgpogpbjiaafu03
import Derived.Maps.Own
import Derived.Maps.OwnSet
set_option linter.unusedVariables false
set_option linter.unusedSimpArgs false
set_option maxRecDepth 100000
set_option maxHeartbeats 8000000
namespace Go.Proofs.Ytehmhgpogpbjiaa.PFccTokens
open Go.RowKit Go.Proofs.YtehmhgpogpbjiaaW.PrintWords Go.Proofs.YtehmhgpogpbjiaaW.PrintLast Go.Proofs.YtehmhgpogpbjiaaW.PrintMore
attribute [local go_sem] VH VF Ub Ua Vm Vl VG VE
def errW : Option Int → Value
 | none => .nilIface
 | some c => .iface 0 (.int .i64 c)
theorem XG : errW none = .nilIface := rfl
theorem XF (c : Int) : errW (some c) = .iface 0 (.int .i64 c) := rfl
theorem info3 : (Try.prog.info? 3).map (fun i => (i.zero, i.size, i.bytes)) = some (some (.int .i64 0), 1, 8) := by kernel_rfl
theorem UR : (Try.prog.info? 5).map (fun i => (i.zero, i.size, i.bytes)) = some (some (.int .u8 0), 1, 1) := by kernel_rfl
theorem info35 : (Try.prog.info? 35).map (fun i => (i.zero, i.size, i.bytes)) = some (some (.int .u32 0), 1, 4) := by kernel_rfl
theorem YaM : (Try.prog.info? 59).map (fun i => (i.zero, i.size, i.bytes)) = some (some (.agg #[(.int .i64 0), (.string ⟨#[]⟩), (.int .i64 0)]), 3, 32) := by kernel_rfl
structure S34 where
 f0 : ByteArray
 f1 : Int
def z34 : S34 := ⟨(⟨#[]⟩ : ByteArray), (0 : Int)⟩
def k34 : Kd S34 := Kd.iso (Kd.pair Kd.string (Kd.int .i64)) (fun x : S34 => (x.f0, x.f1))
theorem k34_open {w : World} {x : S34} {cs : List Value} (h : k34.K w x cs) : cs = [.string x.f0, .int .i64 x.f1] := by
 obtain ⟨_, _, rfl, rfl, rfl⟩ := h
 exact rfl
theorem k34_mkM (w : World) (base : Nat) (ok : Nat → Prop) (x : S34)  : k34.M w base ok x [.string x.f0, .int .i64 x.f1] := ⟨[.string x.f0], [.int .i64 x.f1], rfl, rfl, rfl⟩
def rd_T34 (xs : List S34) (i : Int) : S34 := xs.getD i.toNat z34
theorem at_T34 {w : World} {A : Option Addr} {n : Nat} {xs : List S34} (h : Kd.C k34 w A n xs) (i : Int) (h0 : 0 ≤ i) (h1 : i < n) : ∃ ad , A = some ad ∧ w.cell? (ad.add (i.toNat * 2)) = some (.string (rd_T34 xs i).f0) ∧ w.cell? ⟨(ad.add (i.toNat * 2)).block, (ad.add (i.toNat * 2)).off + 1, none⟩ = some (.int .i64 (rd_T34 xs i).f1) := by
 obtain ⟨ad, c, e, _, hK, hc0⟩ := Kd.C_get h z34 i h0 h1
 have hc : ∀ j u, c[j]? = some u → w.cell? (ad.add (i.toNat * 2 + j)) = some u := hc0
 obtain rfl := k34_open hK
 exact Z2u
structure S37 where
 f0 : Int
 f1 : Int
 f2 : ByteArray
 f3 : Int
def z37 : S37 := ⟨(0 : Int), (0 : Int), (⟨#[]⟩ : ByteArray), (0 : Int)⟩
def k37 : Kd S37 := Kd.iso (Kd.pair (Kd.int .i64) (Kd.pair (Kd.int .u32) (Kd.pair Kd.string (Kd.int .i64)))) (fun x : S37 => (x.f0, x.f1, x.f2, x.f3))
theorem k37_open {w : World} {x : S37} {cs : List Value} (h : k37.K w x cs) : cs = [.int .i64 x.f0, .int .u32 x.f1, .string x.f2, .int .i64 x.f3] := by
 obtain ⟨_, _, rfl, rfl, ⟨_, _, rfl, rfl, ⟨_, _, rfl, rfl, rfl⟩⟩⟩ := h
 exact rfl
theorem YcN {w : World} {base : Nat} {ok : Nat → Prop} {x : S37} {cs : List Value} (h : k37.M w base ok x cs) : cs = [.int .i64 x.f0, .int .u32 x.f1, .string x.f2, .int .i64 x.f3] := by
 obtain ⟨_, _, rfl, rfl, ⟨_, _, rfl, rfl, ⟨_, _, rfl, rfl, rfl⟩⟩⟩ := h
 exact rfl
theorem JN (w : World) (base : Nat) (ok : Nat → Prop) (x : S37)  : k37.M w base ok x [.int .i64 x.f0, .int .u32 x.f1, .string x.f2, .int .i64 x.f3] := ⟨[.int .i64 x.f0], [.int .u32 x.f1, .string x.f2, .int .i64 x.f3], rfl, rfl, ⟨[.int .u32 x.f1], [.string x.f2, .int .i64 x.f3], rfl, rfl, ⟨[.string x.f2], [.int .i64 x.f3], rfl, rfl, rfl⟩⟩⟩
def Xz (xs : List S37) (i : Int) : S37 := xs.getD i.toNat z37
theorem Ybt {w : World} {A : Option Addr} {n : Nat} {xs : List S37} (h : Kd.C k37 w A n xs) (i : Int) (h0 : 0 ≤ i) (h1 : i < n) : ∃ ad , A = some ad ∧ w.cell? (ad.add (i.toNat * 4)) = some (.int .i64 (Xz xs i).f0) ∧ w.cell? ⟨(ad.add (i.toNat * 4)).block, (ad.add (i.toNat * 4)).off + 1, none⟩ = some (.int .u32 (Xz xs i).f1) ∧ w.cell? ⟨(ad.add (i.toNat * 4)).block, (ad.add (i.toNat * 4)).off + 2, none⟩ = some (.string (Xz xs i).f2) ∧ w.cell? ⟨(ad.add (i.toNat * 4)).block, (ad.add (i.toNat * 4)).off + 3, none⟩ = some (.int .i64 (Xz xs i).f3) := by
 obtain ⟨ad, c, e, _, hK, hc0⟩ := Kd.C_get h z37 i h0 h1
 have hc : ∀ j u, c[j]? = some u → w.cell? (ad.add (i.toNat * 4 + j)) = some u := hc0
 obtain rfl := k37_open hK
 exact ⟨ad, e, hc 0 _ rfl, Z1o, Z2r, (by rw [← Ya0 _ _ 3 Z0]; exact hc 3 _ rfl)⟩
structure S59 where
 f0 : Int
 f1 : ByteArray
 f2 : Int
def z59 : S59 := ⟨(0 : Int), (⟨#[]⟩ : ByteArray), (0 : Int)⟩
def k59 : Kd S59 := Kd.iso (Kd.pair (Kd.int .i64) (Kd.pair Kd.string (Kd.int .i64))) (fun x : S59 => (x.f0, x.f1, x.f2))
theorem k59_open {w : World} {x : S59} {cs : List Value} (h : k59.K w x cs) : cs = [.int .i64 x.f0, .string x.f1, .int .i64 x.f2] := by
 obtain ⟨_, _, rfl, rfl, ⟨_, _, rfl, rfl, rfl⟩⟩ := h
 exact rfl
theorem JM (w : World) (base : Nat) (ok : Nat → Prop) (x : S59)  : k59.M w base ok x [.int .i64 x.f0, .string x.f1, .int .i64 x.f2] := ⟨[.int .i64 x.f0], [.string x.f1, .int .i64 x.f2], rfl, rfl, ⟨[.string x.f1], [.int .i64 x.f2], rfl, rfl, rfl⟩⟩
def Jy (xs : List S59) (i : Int) : S59 := xs.getD i.toNat z59
theorem at_T59 {w : World} {A : Option Addr} {n : Nat} {xs : List S59} (h : Kd.C k59 w A n xs) (i : Int) (h0 : 0 ≤ i) (h1 : i < n) : ∃ ad , A = some ad ∧ w.cell? (ad.add (i.toNat * 3)) = some (.int .i64 (Jy xs i).f0) ∧ w.cell? ⟨(ad.add (i.toNat * 3)).block, (ad.add (i.toNat * 3)).off + 1, none⟩ = some (.string (Jy xs i).f1) ∧ w.cell? ⟨(ad.add (i.toNat * 3)).block, (ad.add (i.toNat * 3)).off + 2, none⟩ = some (.int .i64 (Jy xs i).f2) := by
 obtain ⟨ad, c, e, _, hK, hc0⟩ := Kd.C_get h z59 i h0 h1
 have hc : ∀ j u, c[j]? = some u → w.cell? (ad.add (i.toNat * 3 + j)) = some u := hc0
 obtain rfl := k59_open hK
 exact ⟨ad, e, hc 0 _ rfl, Z1o, Z2r⟩
structure S174 where
 f0 : Int
 f1 : Int
structure S149 where
 f0 : Int
 f1 : (List Int)
def k149 : Kd S149 := Kd.iso (Kd.pair (Kd.int .i64) (Kd.slice 3 (Kd.int .i64))) (fun x : S149 => (x.f0, x.f1))
theorem XL {w : World} {base : Nat} {ok : Nat → Prop} {x : S149} {cs : List Value} (h : k149.M w base ok x cs) : ∃ v1, cs = [.int .i64 x.f0, v1] ∧ (Kd.int .i64).R 3 w base ok v1 x.f1 := by
 obtain ⟨_, _, rfl, rfl, ⟨v1, rfl, g1⟩⟩ := h
 exact ⟨v1, rfl, g1⟩
theorem k149_mkM (w : World) (base : Nat) (ok : Nat → Prop) (x : S149) {v1 : Value} (g1 : (Kd.int .i64).R 3 w base ok v1 x.f1) : k149.M w base ok x [.int .i64 x.f0, v1] := ⟨[.int .i64 x.f0], [v1], rfl, rfl, ⟨v1, rfl, g1⟩⟩
structure S77 where
 f0 : Int
 f1 : Int
def z77 : S77 := ⟨(0 : Int), (0 : Int)⟩
def k77 : Kd S77 := Kd.iso (Kd.pair (Kd.int .i64) (Kd.int .i64)) (fun x : S77 => (x.f0, x.f1))
theorem JD {w : World} {x : S77} {cs : List Value} (h : k77.K w x cs) : cs = [.int .i64 x.f0, .int .i64 x.f1] := by
 obtain ⟨_, _, rfl, rfl, rfl⟩ := h
 exact rfl
theorem k77_mk (w : World) (x : S77)  : k77.K w x [.int .i64 x.f0, .int .i64 x.f1] := ⟨[.int .i64 x.f0], [.int .i64 x.f1], rfl, rfl, rfl⟩
theorem VW (w : World) (base : Nat) (ok : Nat → Prop) (x : S77)  : k77.M w base ok x [.int .i64 x.f0, .int .i64 x.f1] := ⟨[.int .i64 x.f0], [.int .i64 x.f1], rfl, rfl, rfl⟩
def Ybn (xs : List S77) (i : Int) : S77 := xs.getD i.toNat z77
theorem at_T77 {w : World} {A : Option Addr} {n : Nat} {xs : List S77} (h : Kd.C k77 w A n xs) (i : Int) (h0 : 0 ≤ i) (h1 : i < n) : ∃ ad , A = some ad ∧ w.cell? (ad.add (i.toNat * 2)) = some (.int .i64 (Ybn xs i).f0) ∧ w.cell? ⟨(ad.add (i.toNat * 2)).block, (ad.add (i.toNat * 2)).off + 1, none⟩ = some (.int .i64 (Ybn xs i).f1) := by
 obtain ⟨ad, c, e, _, hK, hc0⟩ := Kd.C_get h z77 i h0 h1
 have hc : ∀ j u, c[j]? = some u → w.cell? (ad.add (i.toNat * 2 + j)) = some u := hc0
 obtain rfl := JD hK
 exact Z2u
end Go.Proofs.Ytehmhgpogpbjiaa.PFccTokens
namespace Go.Proofs.Ytehmhgpogpbjiaa.Fcc
abbrev Tk := PFccTokens.S37
abbrev Tin := PFccTokens.S59
abbrev Ch := PFccTokens.S149
abbrev Ld := PFccTokens.S77
structure Mk where
 inp : List Tin
 out : List Tk
 names : List (ByteArray × Int)
 next : Int
 opn : Bool
 name : ByteArray
 code : Int
 origs : List Int
 dests : List Int
 loops : List Int
 cases : List Ch
 leads : List Ld
abbrev Res := Mk ⊕ Int
def emp : ByteArray := ⟨#[]⟩
def Mk.at_ (m : Mk) : Int := m.out.length
def Mk.add (m : Mk) (c : Int) (n : Int := 0) (s : ByteArray := emp) : Mk := { m with out := m.out ++ [⟨c, n, s, 0⟩] }
def XY (m : Mk) : (ByteArray × Mk) ⊕ Int := match m.inp with
 | [] => .inr 15
 | t :: r => if t.f0 = 1 then .inl (t.f1, { m with inp := r }) else .inr 15
def XO (named : ByteArray → Bool) (m : Mk) : (ByteArray × Int × Mk) ⊕ Int := match XY m with
 | .inr _ => .inr 15
 | .inl (s, m1) => if named s = false then .inr 15 else if m1.next > 4095 then .inr 22 else .inl (s, m1.next, { m1 with next := m1.next + 1 })
def popP (l : List Int) : Option (Int × List Int) := match l.getLast? with
 | none => none
 | some x => some (x, l.dropLast)
def resolveP (m : Mk) : Res := match popP m.origs with
 | none => .inr 13
 | some (x, l) => .inl ({ m with origs := l, leads := m.leads ++ ([⟨x, m.at_⟩] : List Ld) }.add 178)
def backP (m : Mk) (c : Int) : Res := match popP m.dests with
 | none => .inr 13
 | some (x, l) => .inl ({ m with dests := l, leads := m.leads ++ ([⟨m.at_, x⟩] : List Ld) }.add c)
def YI (m : Mk) (w : ByteArray) : Option Res :=
 if w.toList = ([105, 102] : List UInt8) ∨ w.toList = ([119, 104, 105, 108, 101] : List UInt8) then some (.inl ({ m with origs := m.origs ++ [m.at_] }.add 20))
 else if w.toList = ([101, 108, 115, 101] : List UInt8) then some (match popP m.origs with
  | none => .inr 13
  | some (x, l) => resolveP ({ m with origs := l ++ [m.at_, x] }.add 19))
 else if w.toList = ([116, 104, 101, 110] : List UInt8) then some (resolveP m)
 else if w.toList = ([98, 101, 103, 105, 110] : List UInt8) then some (.inl ({ m with dests := m.dests ++ [m.at_] }.add 177))
 else if w.toList = ([117, 110, 116, 105, 108] : List UInt8) then some (backP m 20)
 else if w.toList = ([97, 103, 97, 105, 110] : List UInt8) then some (backP m 19)
 else if w.toList = ([114, 101, 112, 101, 97, 116] : List UInt8) then some (match backP m 19 with
  | .inr e => .inr e
  | .inl m1 => resolveP m1)
 else none
def Vg (m : Mk) (w : ByteArray) : Option Res :=
 if w.toList = ([100, 111] : List UInt8) then some (.inl ({ m with loops := m.loops ++ [m.at_] }.add 23))
 else if w.toList = ([63, 100, 111] : List UInt8) then some (.inl ({ m with loops := m.loops ++ [m.at_] }.add 24))
 else if w.toList = ([108, 111, 111, 112] : List UInt8) ∨ w.toList = ([43, 108, 111, 111, 112] : List UInt8) then some (match popP m.loops with
  | none => .inr 13
  | some (x, l) => .inl ({ m with loops := l, leads := m.leads ++ ([⟨m.at_, x⟩, ⟨x, m.at_⟩] : List Ld) }.add (if w.toList = ([43, 108, 111, 111, 112] : List UInt8) then 22 else 21)))
 else if w.toList = ([108, 101, 97, 118, 101] : List UInt8) then some (if m.loops = [] then .inr 13 else .inl (m.add 27))
 else none
def Xg (m : Mk) (w : ByteArray) : Res :=
 if w.toList = ([99, 97, 115, 101] : List UInt8) then .inl ({ m with cases := m.cases ++ ([⟨-1, []⟩] : List Ch) }.add 196)
 else match m.cases.getLast? with
  | none => .inr 13
  | some c =>
    if (c.f0 < 0 ↔ w.toList = ([101, 110, 100, 111, 102] : List UInt8)) then .inr 13
    else if w.toList = ([111, 102] : List UInt8) then .inl ({ m with cases := m.cases.dropLast ++ ([⟨m.at_, c.f1⟩] : List Ch) }.add 28)
    else if w.toList = ([101, 110, 100, 111, 102] : List UInt8) then .inl ({ m with cases := m.cases.dropLast ++ ([⟨-1, c.f1 ++ [m.at_]⟩] : List Ch), leads := m.leads ++ ([⟨c.f0, m.at_⟩] : List Ld) }.add 198)
    else .inl ({ m with cases := m.cases.dropLast, leads := m.leads ++ c.f1.map (fun x => (⟨x, m.at_⟩ : Ld)) }.add 197)
def YJ (w : ByteArray) : Int :=
 if w.toList = ([58] : List UInt8) then 183 else if w.toList = ([99, 111, 110, 115, 116, 97, 110, 116] : List UInt8) then 186 else if w.toList = ([118, 97, 108, 117, 101] : List UInt8) ∨ w.toList = ([105, 110, 115, 116, 97, 110, 99, 101] : List UInt8) then 184
 else if w.toList = ([118, 97, 114, 105, 97, 98, 108, 101] : List UInt8) then 185 else if w.toList = ([100, 101, 102, 101, 114] : List UInt8) then 188 else if w.toList = ([98, 117, 102, 102, 101, 114, 58] : List UInt8) then 189 else 0
def Vz (prims : List (ByteArray × Int)) (m : Mk) (s : ByteArray) : Option Int :=
 match m.names.find? (fun p => decide (p.1 = s)) with
 | some p => some p.2
 | none => (prims.find? (fun p => decide (p.1 = s))).map (·.2)
def YV (named : ByteArray → Bool) (m : Mk) (w : ByteArray) : Res :=
 match (if w.toList = ([105, 110, 115, 116, 97, 110, 99, 101] : List UInt8) then (match XY m with
  | .inl (s, m1) => if s.toList = ([118, 97, 108, 117, 101] : List UInt8) then .inl (m1.add 192) else .inr 15
  | .inr _ => .inr 15) else .inl m : Res) with
 | .inr e => .inr e
 | .inl m1 => match XO named m1 with
   | .inr e => .inr e
   | .inl (s, c, m2) =>
     let m3 := (m2.add 182 c s).add (YJ w)
     if w.toList = ([58] : List UInt8) then .inl { m3 with opn := true, name := s, code := c } else .inl { m3 with names := (s, c) :: m3.names }
def XE (prims : List (ByteArray × Int)) (m : Mk) (c : Int) : Res := match XY m with
 | .inr e => .inr e
 | .inl (s, m1) => match Vz prims m1 s with
   | none => .inr 14
   | some n => .inl (m1.add c n)
def YF (prims : List (ByteArray × Int)) (m : Mk) (w : ByteArray) : Res :=
 if w.toList = ([59] : List UInt8) then (if m.origs.length + m.dests.length + m.loops.length + m.cases.length > 0 then .inr 13 else
  .inl (let m1 := m.add 194; { m1 with opn := false, names := (m1.name, m1.code) :: m1.names }))
 else if w.toList = ([101, 120, 105, 116] : List UInt8) then .inl (m.add 51)
 else if w.toList = ([91, 39, 93] : List UInt8) then XE prims m 17
 else match YI m w with
  | some r => r
  | none => match Vg m w with
    | some r => r
    | none => Xg m w
def YS (w : ByteArray) : Bool := decide (w.toList ∈ ([[105, 102], [119, 104, 105, 108, 101], [101, 108, 115, 101], [116, 104, 101, 110], [98, 101, 103, 105, 110], [97, 103, 97, 105, 110], [117, 110, 116, 105, 108], [114, 101, 112, 101, 97, 116], [100, 111], [63, 100, 111], [108, 111, 111, 112], [43, 108, 111, 111, 112], [108, 101, 97, 118, 101], [99, 97, 115, 101], [111, 102], [101, 110, 100, 111, 102], [101, 110, 100, 99, 97, 115, 101]] : List (List UInt8)))
def XJ (w : ByteArray) : Bool := decide (w.toList = ([59] : List UInt8) ∨ w.toList = ([101, 120, 105, 116] : List UInt8) ∨ w.toList = ([91, 39, 93] : List UInt8)) || YS w
def Xm (w : ByteArray) : Bool := decide (w.toList = ([39] : List UInt8)) || decide (YJ w ≠ 0)
def oneP (named : ByteArray → Bool) (prims : List (ByteArray × Int)) (lit : ByteArray → Option Int) (m : Mk) (w : ByteArray) : Res :=
 if (XJ w && !m.opn) || (Xm w && m.opn) then .inr 13
 else if XJ w then YF prims m w
 else if w.toList = ([39] : List UInt8) then XE prims m 17
 else if Xm w then YV named m w
 else if w.toList = ([116, 111] : List UInt8) then XE prims m 195
 else match Vz prims m w with
  | some c => .inl (m.add c)
  | none => match lit w with
    | none => .inr 14
    | some v => .inl (m.add 16 v)
def tokP (named : ByteArray → Bool) (prims : List (ByteArray × Int)) (lit : ByteArray → Option Int) (m : Mk) (x : Tin) : Res :=
 if x.f0 = 1 then oneP named prims lit m x.f1
 else if x.f0 = 3 then .inl ((m.add 18 0 x.f1).add 144)
 else .inl (m.add 18 0 x.f1)
def allP (named : ByteArray → Bool) (prims : List (ByteArray × Int)) (lit : ByteArray → Option Int) : Nat → Mk → Res
 | 0, m => .inl m
 | k + 1, m => match m.inp with
   | [] => .inl m
   | x :: r => match tokP named prims lit { m with inp := r } x with
     | .inr e => .inr e
     | .inl m1 => allP named prims lit k m1
def endsP (size : Tk → Int) : Int → List Tk → List Int
 | _, [] => []
 | a, t :: l => (a + size t) :: endsP size (a + size t) l
def aimP (size : Tk → Int) (m : Mk) : List Tk :=
 let e := endsP size 0 m.out
 m.leads.foldl (fun out p => out.modify p.f0.toNat fun t => { t with f3 := e.getD p.f1.toNat 0 - e.getD p.f0.toNat 0 + 2 }) m.out
def UH (inp : List Tin) : Mk := ⟨inp, [], [], 2048, false, emp, 0, [], [], [], [], []⟩
def Uj (named : ByteArray → Bool) (prims : List (ByteArray × Int)) (lit : ByteArray → Option Int) (size : Tk → Int) (inp : List Tin) : List Tk × Int :=
 match allP named prims lit inp.length (UH inp) with
 | .inr e => ([], e)
 | .inl m => if m.opn then ([], 13) else (aimP size (m.add 0), 0)
end Go.Proofs.Ytehmhgpogpbjiaa.Fcc
namespace Go.Proofs.Ytehmhgpogpbjiaa.Fcc
open Go.RowKit Go.Proofs.YtehmhgpogpbjiaaW.PrintWords
abbrev Fld := World → (Nat → Prop) → Value → Prop
structure Loc (base : Nat) (P : Fld) : Prop where
 move : ∀ {w w1 : World} {ok ok' : Nat → Prop} {v : Value}, P w ok v → (∀ k, ok k → base ≤ k → k < w.heap.size → w1.heap[k]? = w.heap[k]? ∧ ok' k) → P w1 ok' v
abbrev rowF {α : Type} (d : Kd α) (e base : Nat) (xs : List α) : Fld := fun w ok v => Kd.R d e w base ok v xs
abbrev rowsF {α : Type} (d : Kd α) (e base : Nat) (xs : List α) : Fld := fun w ok v => Kd.S d e w base ok v xs
abbrev valF (x : Value) : Fld := fun _ _ v => v = x
abbrev anyF : Fld := fun _ _ _ => True
theorem loc_row {α : Type} (d : Kd α) (e base : Nat) (xs : List α) : Loc base (rowF d e base xs) :=
 ⟨fun h hm => Kd.R_mono (Kd.R_move (Kd.R_bound h) (fun k hk => (hm k hk.1 hk.2.1 hk.2.2.1).1)) (fun k hk => (hm k hk.1 hk.2.1 hk.2.2.1).2)⟩
theorem loc_rows {α : Type} (d : Kd α) (e base : Nat) (xs : List α) : Loc base (rowsF d e base xs) :=
 ⟨fun h hm => Kd.S_mono (Kd.S_move (Kd.S_bound h) (fun k hk => (hm k hk.1 hk.2.1 hk.2.2.1).1)) (fun k hk => (hm k hk.1 hk.2.1 hk.2.2.1).2)⟩
theorem loc_val (base : Nat) (x : Value) : Loc base (valF x) := ⟨fun h _ => h⟩
theorem loc_any (base : Nat) : Loc base anyF := ⟨fun _ _ => trivial⟩
abbrev mapF {H : Type} (P : Program) (k : TypeId) (R : Value → Option (DataW H × List MemPlace)) (base n : Nat) (D : DataW H) : Fld :=
 fun w ok v => ∃ b, v = .map (some b) ∧ ok b ∧ base ≤ b ∧ w.ownsMap P k R b n D
theorem loc_map {H : Type} (P : Program) (k : TypeId) (R : Value → Option (DataW H × List MemPlace)) (base n : Nat) (D : DataW H) : Loc base (mapF P k R base n D) := by
 refine ⟨fun {w w1 ok ok' v} h hm => ?_⟩
 obtain ⟨b, hv, ho, hb, es, clock, h1, h2, h3, h4⟩ := h
 have hx := hm b ho hb (Vw h1)
 exact ⟨b, hv, hx.2, hb, es, clock, hx.1.trans h1, h2, h3, h4⟩
structure St (w : World) (base g T z : Nat) (vs : List Value) (o : Nat → Nat) (F : List Fld) : Prop where
 box : w.heap[g]? = some (.cells vs.toArray T (0, 0))
 hb : base ≤ g
 own : o g = z
 row : ∀ (i : Nat) (v : Value) (P : Fld), vs[i]? = some v → F[i]? = some P → P w (fun k => o k = z + 1 + i) v
 loc : ∀ (i : Nat) (P : Fld), F[i]? = some P → Loc base P
section
variable {w w1 : World} {base g T z : Nat} {vs : List Value} {o o1 : Nat → Nat} {F : List Fld}
theorem St.lt (h : St w base g T z vs o F) : g < w.heap.size := Vw h.box
theorem St.cell (h : St w base g T z vs o F) (i : Nat) {v : Value} (hv : vs[i]? = some v) : w.cell? ⟨g, i, none⟩ = some v := by
 rw [Yc h.box i]; simpa using hv
theorem St.free (h : St w base g T z vs o F) (i : Nat) : w.frozen? ⟨g, i, none⟩ = false := Yf h.box i
theorem St.keep (h : St w base g T z vs o F) (ho : ∀ k, k < w.heap.size → o1 k = o k) (hk : ∀ k, k < w.heap.size → base ≤ k → z ≤ o k → w1.heap[k]? = w.heap[k]?) : St w1 base g T z vs o1 F := by
 refine ⟨(hk g h.lt h.hb (by rw [h.own]; exact Nat.le_refl _)).trans h.box, h.hb, (ho g h.lt).trans h.own, fun i v P hv hP => ?_, h.loc⟩
 refine (h.loc i P hP).move (h.row i v P hv hP) (fun k hk1 hk2 hk3 => ⟨hk k hk3 hk2 Z0, ?_⟩)
 rw [ho k hk3]; exact hk1
theorem St.below (h : St w base g T z vs o F) (hb : Below w.heap.size w w1) : St w1 base g T z vs o F := h.keep (fun _ _ => rfl) (fun k hk _ _ => hb.block k hk)
theorem St.turn (h : St w base g T z vs o F) (i : Nat) {P' : Fld} (hl : Loc base P') (ho : ∀ k, k < w.heap.size → o1 k = o k)
 (hk : ∀ k, k < w.heap.size → base ≤ k → o k ≠ z + 1 + i → w1.heap[k]? = w.heap[k]?) (hn : ∀ v, vs[i]? = some v → P' w1 (fun k => o1 k = z + 1 + i) v) : St w1 base g T z vs o1 (F.set i P') := by
 refine ⟨(hk g h.lt h.hb (by rw [h.own]; omega)).trans h.box, h.hb, (ho g h.lt).trans h.own, fun j v P hv hP => ?_, fun j P hP => ?_⟩
 ·by_cases hj : i = j
  ·subst hj
   rw [List.getElem?_set_self'] at hP
   cases hF : F[i]? with
   | none => rw [hF] at hP; cases hP
   | some _ => rw [hF] at hP; cases hP; exact hn v hv
  ·rw [List.getElem?_set_ne hj] at hP
   refine (h.loc j P hP).move (h.row j v P hv hP) (fun k hk1 hk2 hk3 => ⟨hk k hk3 hk2 Z0, ?_⟩)
   rw [ho k hk3]; exact hk1
 ·by_cases hj : i = j
  ·subst hj
   rw [List.getElem?_set_self'] at hP
   cases hF : F[i]? with
   | none => rw [hF] at hP; cases hP
   | some _ => rw [hF] at hP; cases hP; exact hl
  ·rw [List.getElem?_set_ne hj] at hP
   exact h.loc j P hP
theorem St.put (h : St w base g T z vs o F) (i : Nat) {P' : Fld} {v' : Value} (hl : Loc base P') (hn : P' w (fun k => o k = z + 1 + i) v') : St (w.setCell ⟨g, i, none⟩ v') base g T z (vs.set i v') o (F.set i P') := by
 have hfar : ∀ k, k ≠ g → (w.setCell ⟨g, i, none⟩ v').heap[k]? = w.heap[k]? := fun k hk => Below.heap_setCell w ⟨g, i, none⟩ v' k hk
 refine ⟨Vv h.box i v' Z6, h.hb, h.own, fun j v P hv hP => ?_, fun j P hP => ?_⟩
 ·by_cases hj : i = j
  ·subst hj
   rw [List.getElem?_set_self'] at hP hv
   cases hF : F[i]? with
   | none => rw [hF] at hP; cases hP
   | some _ =>
     rw [hF] at hP; cases hP
     cases hV : vs[i]? with
     | none => rw [hV] at hv; cases hv
     | some _ =>
       rw [hV] at hv; cases hv
       exact hl.move hn (fun k hk _ _ => ⟨hfar k (fun e => by subst e; rw [h.own] at hk; omega), hk⟩)
  ·rw [List.getElem?_set_ne hj] at hP hv
   exact (h.loc j P hP).move (h.row j v P hv hP) (fun k hk _ _ => ⟨hfar k (fun e => by subst e; rw [h.own] at hk; omega), hk⟩)
 ·by_cases hj : i = j
  ·subst hj
   rw [List.getElem?_set_self'] at hP
   cases hF : F[i]? with
   | none => rw [hF] at hP; cases hP
   | some _ => rw [hF] at hP; cases hP; exact hl
  ·rw [List.getElem?_set_ne hj] at hP
   exact h.loc j P hP
theorem St.grow (h : St w base g T z vs o F) (i : Nat) {P' : Fld} {v v' : Value} (hl : Loc base P') (ho : ∀ k, k < w.heap.size → o1 k = o k) (hg : w.grownBy w1 v.ownBlock) (hv : ∀ k, v.ownBlock = some k → o k = z + 1 + i)
 (hn : P' w1 (fun k => o1 k = z + 1 + i) v') : St (w1.setCell ⟨g, i, none⟩ v') base g T z (vs.set i v') o1 (F.set i P') := by
 have h1 : St w1 base g T z vs o1 (F.set i anyF) := h.turn i (loc_any base) ho (fun k hk _ hne => hg.block k hk (fun e => hne (hv k e.symm))) (fun _ _ => trivial)
 have h2 := h1.put i hl hn
 rwa [List.set_set] at h2
end
def new_ (w : World) (o : Nat → Nat) (i k : Nat) : Nat := if k < w.heap.size then o k else i
theorem Uk {w : World} {o : Nat → Nat} {i k : Nat} (hk : k < w.heap.size) : new_ w o i k = o k := by unfold new_; rw [if_pos hk]
theorem JC {w : World} {o : Nat → Nat} {i k : Nat} (hk : w.heap.size ≤ k) : new_ w o i k = i := by unfold new_; rw [if_neg Z0]
end Go.Proofs.Ytehmhgpogpbjiaa.Fcc
namespace Go.Proofs.Ytehmhgpogpbjiaa.Fcc
open Go.RowKit Go.Proofs.YtehmhgpogpbjiaaW.PrintWords Go.Proofs.YtehmhgpogpbjiaaW.PrintLast Go.Proofs.YtehmhgpogpbjiaaW.PrintMore
theorem pop_calls (bb i : Nat) (A : Option Addr) (n c T : Nat) (xs : List Int) (x : Int) (w : World) (cs : Array Value)
 (hB : w.heap[bb]? = some (.cells cs T (0, 0))) (hi : cs[i]? = some (.slice A (n + 1) c)) (hc : n + 1 ≤ c) (hC : Kd.C (Kd.int .i64) w A (n + 1) (xs ++ [x])) :
 Calls Try.prog 86 #[.pointer (some ⟨bb, i, none⟩)] w fun e w' => e = .returned (.tuple #[.int .i64 x, .bool true]) ∧ w' = w.setCell ⟨bb, i, none⟩ (.slice A n c) := by
 have hb0 : w.cell? ⟨bb, i, none⟩ = some (.slice A (n + 1) c) := (Yc hB i).trans hi
 have hf : w.frozen? ⟨bb, i, none⟩ = false := Yf hB i
 have hlen := hC.2.1
 have hxs : xs.length = n := by have := hC.1; simpa using this
 obtain ⟨ad, e, g0⟩ := Kd.at_int hC (n : Int) Z0 Z0
 cases e
 rw [Int.toNat_natCast] at g0
 have hx : rd (xs ++ [x]) (n : Int) = x := by simp [rd, List.getD_eq_getElem?_getD, ← hxs]
 rw [hx] at g0
 clear hC hx
 have e1 : (n : Int) + 1 - 1 = n := by omega
 have e2 : wrap64 (n : Int) = n := IntWalk.wrap64_in _ ⟨Z0, Z0⟩
 have e3 : ((n : Int) < 0) = False := eq_false Z0
 have p3 : (0 ≤ (n : Int) ∧ (n : Int) ≤ (c : Int)) = True := eq_true ⟨Z0, Z0⟩
 have p0 : (0 ≤ (n : Int)) = True := eq_true Z0
 have p1 : ((n : Int) < (n : Int) + 1) = True := eq_true Z0
 have p2 : ((n : Int) ≤ (c : Int)) = True := eq_true Z0
 go_enter Try.func86, Try.ntmps86
 go_wp2_with fail
 exact bodyPost_ret (v := .tuple #[.int .i64 x, .bool true]) (by simp [results, Try.results86, go_sem]) rfl ⟨rfl, rfl⟩
theorem pop_empty (bb i : Nat) (A : Option Addr) (c T : Nat) (w : World) (cs : Array Value)
 (hB : w.heap[bb]? = some (.cells cs T (0, 0))) (hi : cs[i]? = some (.slice A 0 c)) :
 Calls Try.prog 86 #[.pointer (some ⟨bb, i, none⟩)] w fun e w' => e = .returned (.tuple #[.int .i64 0, .bool false]) ∧ w' = w := by
 have hb0 : w.cell? ⟨bb, i, none⟩ = some (.slice A 0 c) := (Yc hB i).trans hi
 go_enter Try.func86, Try.ntmps86
 go_wp2_with fail
 exact bodyPost_ret (v := .tuple #[.int .i64 0, .bool false]) (by simp [results, Try.results86, go_sem]) rfl ⟨rfl, rfl⟩
section
variable {w : World} {base g T z i : Nat} {vs : List Value} {o : Nat → Nat} {F : List Fld} {xs : List Int} {x : Int} {v : Value}
theorem St.pop (h : St w base g T z vs o F) (hv : vs[i]? = some v) (hF : F[i]? = some (rowF (Kd.int .i64) 3 base (xs ++ [x]))) :
 Calls Try.prog 86 #[.pointer (some ⟨g, i, none⟩)] w fun e w' => e = .returned (.tuple #[.int .i64 x, .bool true]) ∧ ∃ v', St w' base g T z (vs.set i v') o (F.set i (rowF (Kd.int .i64) 3 base xs)) ∧ Below base w w' := by
 have hr : Kd.R (Kd.int .i64) 3 w base (fun k => o k = z + 1 + i) v (xs ++ [x]) := h.row i v _ hv hF
 obtain ⟨A, c, rfl, hc, hC⟩ := Kd.R_reads hr
 have hz : (xs ++ [x]).length = xs.length + 1 := by simp
 rw [hz] at hr hc hC hv
 refine (pop_calls g i A xs.length c T xs x w _ h.box (by simpa using hv) hc hC).mono ?_
 rintro e w' ⟨rfl, rfl⟩
 have ht := Kd.R_take hr (m := xs.length) Z6
 rw [List.take_left'  rfl] at ht
 exact ⟨rfl, _, h.put i (loc_row _ _ _ _) ht, (Below.refl _ _).setCell h.hb _⟩
theorem St.pop_none (h : St w base g T z vs o F) (hv : vs[i]? = some v) (hF : F[i]? = some (rowF (Kd.int .i64) 3 base [])) :
 Calls Try.prog 86 #[.pointer (some ⟨g, i, none⟩)] w fun e w' => e = .returned (.tuple #[.int .i64 0, .bool false]) ∧ w' = w := by
 have hr : Kd.R (Kd.int .i64) 3 w base (fun k => o k = z + 1 + i) v [] := h.row i v _ hv hF
 obtain ⟨A, c, rfl⟩ := Kd.R_slice hr
 exact pop_empty g i A c T w _ h.box (by simpa using hv)
end
end Go.Proofs.Ytehmhgpogpbjiaa.Fcc
namespace Go.Proofs.Ytehmhgpogpbjiaa.Fcc
open Go.RowKit Go.Proofs.YtehmhgpogpbjiaaW.PrintWords Go.Proofs.YtehmhgpogpbjiaaW.PrintLast Go.Proofs.YtehmhgpogpbjiaaW.PrintMore Go.Proofs.Ytehmhgpogpbjiaa.PFccTokens
open Go.Maps (Keyed)
def inF (base : Nat) (l : List S59) : Fld := fun w ok v =>
 ∃ (L : List S59) (A A' : Option Addr) (n c j : Nat), Kd.R k59 59 w base ok (.slice A n c) L ∧ j ≤ L.length ∧ l = L.drop j ∧ v = .slice A' (n - j) (c - j) ∧ (j < n → A' = A.map (·.add (j * 3)))
theorem loc_in (base : Nat) (l : List S59) : Loc base (inF base l) :=
 ⟨fun {w w1 ok ok' v} h hm => by
  obtain ⟨L, A, A', n, c, j, hR, hj, hl, hv⟩ := h
  exact ⟨L, A, A', n, c, j, (loc_row k59 59 base L).move hR hm, hj, hl, hv⟩⟩
def look (l : List (ByteArray × Int)) (s : ByteArray) : Option Int := (l.find? (fun p => decide (p.1 = s))).map (·.2)
def Ybv (D : DataW Unit) (l : List (ByteArray × Int)) : Prop :=
 ∀ s : ByteArray, Maps.has D (.string s.data.toList) = (look l s).isSome ∧ ∀ c, look l s = some c → D.atKey (.string s.data.toList) (.lit (.int .i64 0)) = .lit (.int .i64 c)
def Jg (base : Nat) (l : List (ByteArray × Int)) : Fld := fun w ok v => ∃ (n : Nat) (D : DataW Unit), n ≤ l.length ∧ Ybv D l ∧ mapF Try.prog 9 (plainElem Try.prog 3) base n D w ok v
theorem loc_names (base : Nat) (l : List (ByteArray × Int)) : Loc base (Jg base l) :=
 ⟨fun {w w1 ok ok' v} h hm => by
  obtain ⟨n, D, h1, h2, h3⟩ := h
  exact ⟨n, D, h1, h2, (loc_map Try.prog 9 (plainElem Try.prog 3) base n D).move h3 hm⟩⟩
def mkF (base : Nat) (prims : List (ByteArray × Int)) (m : Mk) : List Fld :=
 [inF base m.inp, rowF k37 37 base m.out, Jg base (m.names ++ prims), valF (.int .i64 m.next), valF (.bool m.opn), valF (.string m.name), valF (.int .i64 m.code),
  rowF (Kd.int .i64) 3 base m.origs, rowF (Kd.int .i64) 3 base m.dests, rowF (Kd.int .i64) 3 base m.loops, rowsF k149 142 base m.cases, rowF k77 101 base m.leads]
structure Mx (w : World) (base g : Nat) (prims : List (ByteArray × Int)) (o : Nat → Nat) (vs : List Value) (m : Mk) : Prop where
 st : St w base g 57 0 vs o (mkF base prims m)
 len : vs.length = 12
section
variable {w : World} {base g : Nat} {prims : List (ByteArray × Int)} {o : Nat → Nat} {vs : List Value} {m : Mk}
theorem Mx.cells (h : Mx w base g prims o vs m) : ∃ v0 A1 c1 b A7 c7 A8 c8 A9 c9 A10 c10 A11 c11, vs = [v0, .slice A1 m.out.length c1, .map (some b), .int .i64 m.next, .bool m.opn, .string m.name, .int .i64 m.code,
 .slice A7 m.origs.length c7, .slice A8 m.dests.length c8, .slice A9 m.loops.length c9, .slice A10 m.cases.length c10, .slice A11 m.leads.length c11] := by
 obtain ⟨st, len⟩ := h
 match vs, len with
 | [v0, v1, v2, v3, v4, v5, v6, v7, v8, v9, v10, v11], _ =>
   obtain ⟨A1, c1, rfl⟩ := Kd.R_slice (st.row 1 v1 _ rfl rfl)
   obtain ⟨n, D, -, -, b, rfl, -⟩ := (st.row 2 v2 _ rfl rfl : Jg base (m.names ++ prims) w _ v2)
   obtain rfl := (st.row 3 v3 _ rfl rfl : v3 = _)
   obtain rfl := (st.row 4 v4 _ rfl rfl : v4 = _)
   obtain rfl := (st.row 5 v5 _ rfl rfl : v5 = _)
   obtain rfl := (st.row 6 v6 _ rfl rfl : v6 = _)
   obtain ⟨A7, c7, rfl⟩ := Kd.R_slice (st.row 7 v7 _ rfl rfl)
   obtain ⟨A8, c8, rfl⟩ := Kd.R_slice (st.row 8 v8 _ rfl rfl)
   obtain ⟨A9, c9, rfl⟩ := Kd.R_slice (st.row 9 v9 _ rfl rfl)
   obtain ⟨A10, c10, rfl, -⟩ := Kd.S_reads (st.row 10 v10 _ rfl rfl)
   obtain ⟨A11, c11, rfl⟩ := Kd.R_slice (st.row 11 v11 _ rfl rfl)
   exact ⟨_, _, _, _, _, _, _, _, _, _, _, _, _, _, rfl⟩
theorem Mx.below {w1 : World} (h : Mx w base g prims o vs m) (hb : Below w.heap.size w w1) : Mx w1 base g prims o vs m := ⟨h.st.below hb, h.len⟩
end
def XT (base g : Nat) (prims : List (ByteArray × Int)) (r : Res) (w : World) (e : Ending) (w' : World) : Prop :=
 Below base w w' ∧ match r with
  | .inl m => e = .returned (.int .i64 0) ∧ ∃ o vs, Mx w' base g prims o vs m
  | .inr c => e = .returned (.int .i64 c)
end Go.Proofs.Ytehmhgpogpbjiaa.Fcc
namespace Go.Proofs.Ytehmhgpogpbjiaa.Fcc
open Go.RowKit Go.Proofs.YtehmhgpogpbjiaaW.PrintWords Go.Proofs.YtehmhgpogpbjiaaW.PrintLast Go.Proofs.YtehmhgpogpbjiaaW.PrintMore Go.Proofs.Ytehmhgpogpbjiaa.PFccTokens
section
variable {α : Type} {d : Kd α} {w : World} {base g T z i e t bytes : Nat} {vs : List Value} {o : Nat → Nat} {F : List Fld} {xs : List α} {v zv : Value} {p : α} {cs : List Value}
theorem St.pushed {w2 : World} {v' : Value} {ys : List α} (h : St w base g T z vs o F) (hv : vs[i]? = some v) (hF : F[i]? = some (rowF d e base xs)) (hg : w.grownBy w2 v.ownBlock)
 (hR : Kd.R d e w2 base (fun k => new_ w o (z + 1 + i) k = z + 1 + i) v' ys) : St (w2.setCell ⟨g, i, none⟩ v') base g T z (vs.set i v') (new_ w o (z + 1 + i)) (F.set i (rowF d e base ys)) :=
 h.grow i (loc_row _ _ _ _) (fun k hk => Uk hk) hg (h.row i v _ hv hF : Kd.R d e w base _ v xs).1 hR
theorem St.pushedS {w2 : World} {v' : Value} {ys : List α} (h : St w base g T z vs o F) (hv : vs[i]? = some v) (hF : F[i]? = some (rowsF d e base xs)) (hg : w.grownBy w2 v.ownBlock)
 (hR : Kd.S d e w2 base (fun k => new_ w o (z + 1 + i) k = z + 1 + i) v' ys) : St (w2.setCell ⟨g, i, none⟩ v') base g T z (vs.set i v') (new_ w o (z + 1 + i)) (F.set i (rowsF d e base ys)) :=
 h.grow i (loc_rows _ _ _ _) (fun k hk => Uk hk) hg (Kd.S_R (h.row i v _ hv hF : Kd.S d e w base _ v xs)).1 hR
theorem St.oldR (h : St w base g T z vs o F) (hv : vs[i]? = some v) (hF : F[i]? = some (rowF d e base xs)) : Kd.R d e w base (fun k => new_ w o (z + 1 + i) k = z + 1 + i) v xs :=
 (loc_row d e base xs).move (h.row i v _ hv hF) (fun k hk _ hl => ⟨rfl, (by rw [Uk hl]; exact hk)⟩)
theorem St.base_le (h : St w base g T z vs o F) : base ≤ w.heap.size := Nat.le_of_lt (Nat.lt_of_le_of_lt h.hb h.lt)
def Yeh (d : Kd α) (e base g T z i : Nat) (w : World) (vs : List Value) (o : Nat → Nat) (F : List Fld) (v : Value) (ys : List α) (v' : Value) (w2 : World) : Prop :=
 St (w2.setCell ⟨g, i, none⟩ v') base g T z (vs.set i v') (new_ w o (z + 1 + i)) (F.set i (rowF d e base ys)) ∧ Below base w w2 ∧ (∃ A c, v' = .slice A ys.length c) ∧ w2.heap[g]? = some (.cells vs.toArray T (0, 0)) ∧ w.grownBy w2 v.ownBlock
theorem St.push {P : Program} {ops : Array Oper} {rest : List Oper} {Q : Exit → Act → World → Prop} {a : Act} {q : Oper} {s x : Operand} (h : St w base g T z vs o F) (hv : vs[i]? = some v) (hF : F[i]? = some (rowF d e base xs)) (p : α) (cs : List Value) (okp : Nat → Prop)
 (hd : d.sz = cs.length) (ht : P.underlying t = some (.slice e)) (hinfo : (P.info? e).map (fun i => (i.zero, i.size, i.bytes)) = some (some zv, d.sz, bytes)) (hz : zv.cells.size = d.sz) (hs0 : 0 < d.sz) (hb0 : 0 < bytes)
 (hgd : q.guard = none) (hq : q.op = .call { callee := .builtin .append, args := #[s, x], argTypes := #[t, t] }) (hs : a.eval s = v) (hx : a.eval x = .slice (some ⟨w.heap.size, 0, none⟩) 1 1)
 (hp : d.M w base (fun _ => False) p cs) (hl : (xs.length + 1) * bytes ≤ 140737488355328)
 (k : ∀ v' w2, Yeh d e base g T z i w vs o F v (xs ++ [p]) v' w2 → wpList P ops Q rest (a.put q.dst v') w2) : wpList P ops Q (q :: rest) a (w.alloc (.cells cs.toArray e)) := by
 refine Kd.R_append d (w0 := w) (W := w) base hgd s x t e zv bytes hq ht hinfo hz hs0 hb0 v xs p cs (fun k => new_ w o (z + 1 + i) k = z + 1 + i) (fun _ => False) hs hx hp (fun _ h => h.elim) (fun k hk => JC hk) (h.oldR hv hF) (Below.refl _ _) h.base_le hl ?_
 intro v' w2 hR hB hg _
 refine k v' w2 ⟨h.pushed hv hF hg hR, hB, ?_, ?_, hg⟩
 ·obtain ⟨A, c, rfl⟩ := Kd.R_slice hR
  exact ⟨A, c, rfl⟩
 ·refine XK h.box hg (fun e2 => ?_)
  have h1 := (h.row i v _ hv hF : Kd.R d e w base _ v xs).1 g e2.symm
  have h2 := h.own
  omega
theorem St.pushD {P : Program} {ops : Array Oper} {Q : Exit → Act → World → Prop} {Kc : Act → World → Prop} {a : Act} {q : Oper} {s x : Operand} (h : St w base g T z vs o F) (hv : vs[i]? = some v) (hF : F[i]? = some (rowF d e base xs)) (p : α) (cs : List Value) (okp : Nat → Prop)
 (hd : d.sz = cs.length) (ht : P.underlying t = some (.slice e)) (hinfo : (P.info? e).map (fun i => (i.zero, i.size, i.bytes)) = some (some zv, d.sz, bytes)) (hz : zv.cells.size = d.sz) (hs0 : 0 < d.sz) (hb0 : 0 < bytes)
 (hw : Region.wanted q (yielded ops a.tmps) = true) (hq : q.op = .call { callee := .builtin .append, args := #[s, x], argTypes := #[t, t] }) (hs : a.eval s = v) (hx : a.eval x = .slice (some ⟨w.heap.size, 0, none⟩) 1 1)
 (hp : d.M w base (fun _ => False) p cs) (hl : (xs.length + 1) * bytes ≤ 140737488355328)
 (k : ∀ v' w2, Yeh d e base g T z i w vs o F v (xs ++ [p]) v' w2 → Kc (a.put q.dst v') w2) :
 if Region.wanted q (yielded ops a.tmps) = true then Oper.wp P q a (w.alloc (.cells cs.toArray e)) Kc Q else Kc (a.put q.dst undef) (w.alloc (.cells cs.toArray e)) := by
 refine Kd.R_append_step d (w0 := w) (W := w) base hw s x t e zv bytes hq ht hinfo hz hs0 hb0 v xs p cs (fun k => new_ w o (z + 1 + i) k = z + 1 + i) (fun _ => False) hs hx hp (fun _ h => h.elim) (fun k hk => JC hk) (h.oldR hv hF) (Below.refl _ _) h.base_le hl ?_
 intro v' w2 hR hB hg _
 refine k v' w2 ⟨h.pushed hv hF hg hR, hB, ?_, ?_, hg⟩
 ·obtain ⟨A, c, rfl⟩ := Kd.R_slice hR
  exact ⟨A, c, rfl⟩
 ·refine XK h.box hg (fun e2 => ?_)
  have h1 := (h.row i v _ hv hF : Kd.R d e w base _ v xs).1 g e2.symm
  have h2 := h.own
  omega
end
theorem YeQ {α : Type} (d : Kd α) (e : Nat) (W : World) (l : List α) (cs : List Value) (hl : l.length ≤ 140737488351232) (hr : Reps (d.K (W.alloc (.cells cs.toArray e))) d.sz l cs) :
 d.C (W.alloc (.cells cs.toArray e)) (some ⟨W.heap.size, 0, none⟩) l.length l := by
 refine ⟨rfl, Z0, fun _ => ⟨_, rfl, fun j p hj => ⟨_, d.K_len (hr.2 j p hj), hr.2 j p hj, fun i u hu => ?_⟩⟩⟩
 have hb := XN W (.cells cs.toArray e)
 have e1 : (⟨W.heap.size, 0, none⟩ : Addr).add (j * d.sz + i) = ⟨W.heap.size, j * d.sz + i, none⟩ := by rw [Yaf, Nat.zero_add]
 rw [e1, Yc hb]
 rw [List.getElem?_take] at hu
 split at hu
 ·rw [List.getElem?_drop] at hu
  simpa using hu
 ·cases hu
section
variable {α : Type} {d : Kd α} {w : World} {base g T z i e t bytes : Nat} {vs : List Value} {o : Nat → Nat} {F : List Fld} {xs : List α} {v zv : Value}
theorem St.pushN {P : Program} {ops : Array Oper} {rest : List Oper} {Q : Exit → Act → World → Prop} {a : Act} {q : Oper} {s x : Operand} (h : St w base g T z vs o F) (hv : vs[i]? = some v) (hF : F[i]? = some (rowF d e base xs)) (ys : List α) (A : Option Addr) (m c : Nat)
 (ht : P.underlying t = some (.slice e)) (hinfo : (P.info? e).map (fun i => (i.zero, i.size, i.bytes)) = some (some zv, d.sz, bytes)) (hz : zv.cells.size = d.sz) (hs0 : 0 < d.sz) (hb0 : 0 < bytes)
 (hgd : q.guard = none) (hq : q.op = .call { callee := .builtin .append, args := #[s, x], argTypes := #[t, t] }) (hs : a.eval s = v) (hx : a.eval x = .slice A m c)
 (hC : d.C w A m ys) (hKM : ∀ x cs, d.K w x cs → d.M w base (fun _ => False) x cs) (hl : (xs.length + m) * bytes ≤ 140737488355328)
 (k : ∀ v' w2, Yeh d e base g T z i w vs o F v (xs ++ ys) v' w2 → wpList P ops Q rest (a.put q.dst v') w2) : wpList P ops Q (q :: rest) a w := by
 refine Kd.R_append_rows d (Rr := d.K w) (w0 := w) (W := w) base hgd s x t e zv bytes hq ht hinfo hz hs0 hb0 v xs ys A m c (fun k => new_ w o (z + 1 + i) k = z + 1 + i) (fun _ => False) hs hx (h.oldR hv hF) hC hKM (fun _ h => h.elim) (fun k hk => JC hk) (Below.refl _ _) h.base_le hl ?_
 intro v' w2 hR hB hg _
 refine k v' w2 ⟨h.pushed hv hF hg hR, hB, ?_, ?_, hg⟩
 ·obtain ⟨A, c, rfl⟩ := Kd.R_slice hR
  exact ⟨A, c, rfl⟩
 ·refine XK h.box hg (fun e2 => ?_)
  have h1 := (h.row i v _ hv hF : Kd.R d e w base _ v xs).1 g e2.symm
  have h2 := h.own
  omega
end
end Go.Proofs.Ytehmhgpogpbjiaa.Fcc
