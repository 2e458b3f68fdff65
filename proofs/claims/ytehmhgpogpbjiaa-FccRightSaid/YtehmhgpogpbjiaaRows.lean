/-
  No cell of these rows narrows 'for every input' (looked for: loops, veiled, ifaces, maps, wideKeys, modest, calm, conditions, laid).
  DERIVED. THE GIVEN ROWS OF THIS SEAT. 3 by the template 'for every input the law returns true; each argument reads behind the call as it read before'; 0 by the template 'total and deterministic' (their statements: YtehmhgpogpbjiaaTotals.lean).
  GIVEN WITH THE SEED: the statements are not yours to turn. If you find one false, say at which input.
  Laid BY PROGRAM, IN A SANDBOX (cutbox-rows.mjs): the forced cells as the released guide's own fill.sh prints them over the translation ffb03ce990f2a68a… (all of the seat's roots in one cut). By AI agents, Wed Nov 11 2026. No macro, syntax, notation, axiom, sorry.
-/
import Derived.Test.YtehmhgpogpbjiaaChecked
import GoSem.Claim
import GoSem.ClaimJoined
import GoSem.ClaimMapViews
import Derived.JoinedTies
import Derived.KernelRfl
namespace Go.Proofs.Ytehmhgpogpbjiaa
/- THE CELL 'sum', in the pinned program and in every row, IS THE sha256 OF THE DUMP (.gsa) THAT YtehmhgpogpbjiaaProg.lean LOADS. Nothing in Lean hashes anything: it is a label: what it is worth is what the hold of that sum in a sandbox is worth. -/
noncomputable def Try.pinned : Pinned := { name := "ytehmhgpogpbjiaa", sum := "ffb03ce990f2a68a15249e00ae46369e0f3df5ca1b7c4774d0c46479f559eb9f", checked := Try.checked }
namespace Rows
def none {H : Type} : Left H := { results := [], args := [] }

/-- 'tinderlaw15.FccTokens': WHATEVER THE INPUT: true; the input reads as it did. -/
def fccTokensSpec : ChangeSpec := { name := "fccTokens", fn := fun _ => fun
  | [d] => { results := [.lit (.bool true)], args := [d] }
  | _ => none }
def fccTokensRow : OpenClaim := { program := "ytehmhgpogpbjiaa", sum := "ffb03ce990f2a68a15249e00ae46369e0f3df5ca1b7c4774d0c46479f559eb9f", func := "tinder/tinderlaw15.FccTokens", spec := "fccTokens", inPlace := ["internal/bytealg.IndexByteString", "internal/bytealg.IndexString"], unfollowed := true, recurses := true, named := ["internal/bytealg.MaxLen"], apart := false }
def FccTokensSaid : Prop := fccTokensRow.holds Try.pinned (OpenSpec.ofChange fccTokensSpec)

/-- ITS FALSE NEIGHBOUR: 'it returns false'. Refute it at one input. -/
def fccTokensWrong : ChangeSpec := { name := "fccTokens", fn := fun _ => fun
  | [d] => { results := [.lit (.bool false)], args := [d] }
  | _ => none }
def FccTokensWrongFalsely : Prop := fccTokensRow.holds Try.pinned (OpenSpec.ofChange fccTokensWrong)

/-- 'tinderlaw15.FccWords': WHATEVER THE INPUT: true; the input reads as it did. -/
def fccWordsSpec : ChangeSpec := { name := "fccWords", fn := fun _ => fun
  | [d1, d2] => { results := [.lit (.bool true)], args := [d1, d2] }
  | _ => none }
def fccWordsRow : OpenClaim := { program := "ytehmhgpogpbjiaa", sum := "ffb03ce990f2a68a15249e00ae46369e0f3df5ca1b7c4774d0c46479f559eb9f", func := "tinder/tinderlaw15.FccWords", spec := "fccWords", inPlace := ["internal/bytealg.IndexByteString", "internal/bytealg.IndexString"], unfollowed := true, recurses := true, named := ["internal/bytealg.MaxLen"], apart := false }
def FccWordsSaid : Prop := fccWordsRow.holds Try.pinned (OpenSpec.ofChange fccWordsSpec)

/-- ITS FALSE NEIGHBOUR: 'it returns false'. Refute it at one input. -/
def fccWordsWrong : ChangeSpec := { name := "fccWords", fn := fun _ => fun
  | [d1, d2] => { results := [.lit (.bool false)], args := [d1, d2] }
  | _ => none }
def FccWordsWrongFalsely : Prop := fccWordsRow.holds Try.pinned (OpenSpec.ofChange fccWordsWrong)

/-- 'tinderlaw15.FccRight': WHATEVER THE INPUT: true; the input reads as it did. -/
def fccRightSpec : ChangeSpec := { name := "fccRight", fn := fun _ => fun
  | [d] => { results := [.lit (.bool true)], args := [d] }
  | _ => none }
def fccRightRow : OpenClaim := { program := "ytehmhgpogpbjiaa", sum := "ffb03ce990f2a68a15249e00ae46369e0f3df5ca1b7c4774d0c46479f559eb9f", func := "tinder/tinderlaw15.FccRight", spec := "fccRight", inPlace := ["internal/bytealg.IndexByteString", "internal/bytealg.IndexString"], unfollowed := true, recurses := true, named := ["internal/bytealg.MaxLen"], apart := false }
def FccRightSaid : Prop := fccRightRow.holds Try.pinned (OpenSpec.ofChange fccRightSpec)

/-- ITS FALSE NEIGHBOUR: 'it returns false'. Refute it at one input. -/
def fccRightWrong : ChangeSpec := { name := "fccRight", fn := fun _ => fun
  | [d] => { results := [.lit (.bool false)], args := [d] }
  | _ => none }
def FccRightWrongFalsely : Prop := fccRightRow.holds Try.pinned (OpenSpec.ofChange fccRightWrong)

/- THE SECOND FORM. 'bulk': how many values and letters a reading holds, each counted each time it is reached (what is shared counts as often as it is met; a slice's spare places count too). A statement '..UptoSaid' is the law's where the arguments, and the package variables that the reading takes, are together of bulk at most 1048576: NARROWER than '..Said'. Prove '..Said' where nothing that the law and all that it calls make is longer than what came in: it says more and counts as full. Else prove '..UptoSaid'. A law counts once. -/
mutual
def uptoBulk {H : Type} : DataW H → Nat
  | .lit (.string bytes) => bytes.length + 1
  | .lit _ => 1
  | .nil => 1
  | .ptr d => uptoBulk d + 1
  | .slice elems spare => uptoBulkAll elems + uptoBulkAll spare + 1
  | .agg parts => uptoBulkAll parts + 1
  | .iface _ d => uptoBulk d + 1
  | .map entries => uptoBulkEntries entries + 1
  | .held _ => 1
def uptoBulkAll {H : Type} : List (DataW H) → Nat
  | [] => 0
  | d :: r => uptoBulk d + uptoBulkAll r
def uptoBulkEntries {H : Type} : List (Lit × DataW H) → Nat
  | [] => 0
  | x :: r => uptoBulkEntry x + uptoBulkEntries r
def uptoBulkEntry {H : Type} : Lit × DataW H → Nat
  | (.string bytes, d) => bytes.length + uptoBulk d + 1
  | (_, d) => uptoBulk d + 1
 end
def uptoSmall : (H : Type) → List (DataW H) → Bool := fun _ ds => decide (uptoBulkAll ds ≤ 1048576)
def OpenSpec.upto (s : _root_.Go.ChangeSpec) : _root_.Go.OpenSpec := { _root_.Go.OpenSpec.ofChange s with cond := some uptoSmall }

/-- 'tinderlaw15.FccTokens', WHERE WHAT IT READS IS OF BULK AT MOST 1048576: true; the input reads as it did. -/
def fccTokensUptoRow : OpenClaim := { program := "ytehmhgpogpbjiaa", sum := "ffb03ce990f2a68a15249e00ae46369e0f3df5ca1b7c4774d0c46479f559eb9f", func := "tinder/tinderlaw15.FccTokens", spec := "fccTokens", inPlace := ["internal/bytealg.IndexByteString", "internal/bytealg.IndexString"], unfollowed := true, recurses := true, named := ["internal/bytealg.MaxLen"], apart := false, narrowed := true }
def FccTokensUptoSaid : Prop := fccTokensUptoRow.holds Try.pinned (OpenSpec.upto fccTokensSpec)

/-- 'tinderlaw15.FccWords', WHERE WHAT IT READS IS OF BULK AT MOST 1048576: true; the input reads as it did. -/
def fccWordsUptoRow : OpenClaim := { program := "ytehmhgpogpbjiaa", sum := "ffb03ce990f2a68a15249e00ae46369e0f3df5ca1b7c4774d0c46479f559eb9f", func := "tinder/tinderlaw15.FccWords", spec := "fccWords", inPlace := ["internal/bytealg.IndexByteString", "internal/bytealg.IndexString"], unfollowed := true, recurses := true, named := ["internal/bytealg.MaxLen"], apart := false, narrowed := true }
def FccWordsUptoSaid : Prop := fccWordsUptoRow.holds Try.pinned (OpenSpec.upto fccWordsSpec)

/-- 'tinderlaw15.FccRight', WHERE WHAT IT READS IS OF BULK AT MOST 1048576: true; the input reads as it did. -/
def fccRightUptoRow : OpenClaim := { program := "ytehmhgpogpbjiaa", sum := "ffb03ce990f2a68a15249e00ae46369e0f3df5ca1b7c4774d0c46479f559eb9f", func := "tinder/tinderlaw15.FccRight", spec := "fccRight", inPlace := ["internal/bytealg.IndexByteString", "internal/bytealg.IndexString"], unfollowed := true, recurses := true, named := ["internal/bytealg.MaxLen"], apart := false, narrowed := true }
def FccRightUptoSaid : Prop := fccRightUptoRow.holds Try.pinned (OpenSpec.upto fccRightSpec)

end Rows
end Go.Proofs.Ytehmhgpogpbjiaa
