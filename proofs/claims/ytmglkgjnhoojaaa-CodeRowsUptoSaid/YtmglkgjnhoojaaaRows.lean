/-
  No cell of these rows narrows 'for every input' (looked for: loops, veiled, ifaces, maps, wideKeys, modest, calm, conditions, laid).
  DERIVED. THE GIVEN ROWS OF THIS SEAT. 5 by the template 'for every input the law returns true; each argument reads behind the call as it read before'; 0 by the template 'total and deterministic' (their statements: YtmglkgjnhoojaaaTotals.lean).
  GIVEN WITH THE SEED: the statements are not yours to turn. If you find one false, say at which input.
  Laid BY PROGRAM, IN A SANDBOX (cutbox-rows.mjs): the forced cells as the released guide's own fill.sh prints them over the translation 6760ea337cf09b96… (all of the seat's roots in one cut). By AI agents, Wed Nov 11 2026. No macro, syntax, notation, axiom, sorry.
-/
import Derived.Test.YtmglkgjnhoojaaaChecked
import GoSem.Claim
import GoSem.ClaimJoined
import GoSem.ClaimMapViews
import Derived.JoinedTies
import Derived.KernelRfl
namespace Go.Proofs.Ytmglkgjnhoojaaa
/- THE CELL 'sum', in the pinned program and in every row, IS THE sha256 OF THE DUMP (.gsa) THAT YtmglkgjnhoojaaaProg.lean LOADS. Nothing in Lean hashes anything: it is a label: what it is worth is what the hold of that sum in a sandbox is worth. -/
noncomputable def Try.pinned : Pinned := { name := "ytmglkgjnhoojaaa", sum := "6760ea337cf09b96b7a82a61dc76948436be91650ca80b5ac2ca1e41cdc5b02b", checked := Try.checked }
namespace Rows
def none {H : Type} : Left H := { results := [], args := [] }

/-- 'tinderlaw10.CodeActs': WHATEVER THE INPUT: true; the input reads as it did. -/
def codeActsSpec : ChangeSpec := { name := "codeActs", fn := fun _ => fun
  | [d1, d2] => { results := [.lit (.bool true)], args := [d1, d2] }
  | _ => none }
def codeActsRow : OpenClaim := { program := "ytmglkgjnhoojaaa", sum := "6760ea337cf09b96b7a82a61dc76948436be91650ca80b5ac2ca1e41cdc5b02b", func := "tinder/tinderlaw10.CodeActs", spec := "codeActs", unfollowed := true, recurses := true, apart := false }
def CodeActsSaid : Prop := codeActsRow.holds Try.pinned (OpenSpec.ofChange codeActsSpec)

/-- ITS FALSE NEIGHBOUR: 'it returns false'. Refute it at one input. -/
def codeActsWrong : ChangeSpec := { name := "codeActs", fn := fun _ => fun
  | [d1, d2] => { results := [.lit (.bool false)], args := [d1, d2] }
  | _ => none }
def CodeActsWrongFalsely : Prop := codeActsRow.holds Try.pinned (OpenSpec.ofChange codeActsWrong)

/-- 'tinderlaw10.CodePuts': WHATEVER THE INPUT: true; the input reads as it did. -/
def codePutsSpec : ChangeSpec := { name := "codePuts", fn := fun _ => fun
  | [d1, d2] => { results := [.lit (.bool true)], args := [d1, d2] }
  | _ => none }
def codePutsRow : OpenClaim := { program := "ytmglkgjnhoojaaa", sum := "6760ea337cf09b96b7a82a61dc76948436be91650ca80b5ac2ca1e41cdc5b02b", func := "tinder/tinderlaw10.CodePuts", spec := "codePuts", unfollowed := true, recurses := true, apart := false }
def CodePutsSaid : Prop := codePutsRow.holds Try.pinned (OpenSpec.ofChange codePutsSpec)

/-- ITS FALSE NEIGHBOUR: 'it returns false'. Refute it at one input. -/
def codePutsWrong : ChangeSpec := { name := "codePuts", fn := fun _ => fun
  | [d1, d2] => { results := [.lit (.bool false)], args := [d1, d2] }
  | _ => none }
def CodePutsWrongFalsely : Prop := codePutsRow.holds Try.pinned (OpenSpec.ofChange codePutsWrong)

/-- 'tinderlaw10.CodeSound': WHATEVER THE INPUT: true; the input reads as it did. -/
def codeSoundSpec : ChangeSpec := { name := "codeSound", fn := fun _ => fun
  | [d] => { results := [.lit (.bool true)], args := [d] }
  | _ => none }
def codeSoundRow : OpenClaim := { program := "ytmglkgjnhoojaaa", sum := "6760ea337cf09b96b7a82a61dc76948436be91650ca80b5ac2ca1e41cdc5b02b", func := "tinder/tinderlaw10.CodeSound", spec := "codeSound", unfollowed := true, recurses := true, apart := false }
def CodeSoundSaid : Prop := codeSoundRow.holds Try.pinned (OpenSpec.ofChange codeSoundSpec)

/-- ITS FALSE NEIGHBOUR: 'it returns false'. Refute it at one input. -/
def codeSoundWrong : ChangeSpec := { name := "codeSound", fn := fun _ => fun
  | [d] => { results := [.lit (.bool false)], args := [d] }
  | _ => none }
def CodeSoundWrongFalsely : Prop := codeSoundRow.holds Try.pinned (OpenSpec.ofChange codeSoundWrong)

/-- 'tinderlaw10.CodeRows': WHATEVER THE INPUT: true; the input reads as it did. -/
def codeRowsSpec : ChangeSpec := { name := "codeRows", fn := fun _ => fun
  | [d] => { results := [.lit (.bool true)], args := [d] }
  | _ => none }
def codeRowsRow : OpenClaim := { program := "ytmglkgjnhoojaaa", sum := "6760ea337cf09b96b7a82a61dc76948436be91650ca80b5ac2ca1e41cdc5b02b", func := "tinder/tinderlaw10.CodeRows", spec := "codeRows", unfollowed := true, recurses := true, apart := false }
def CodeRowsSaid : Prop := codeRowsRow.holds Try.pinned (OpenSpec.ofChange codeRowsSpec)

/-- ITS FALSE NEIGHBOUR: 'it returns false'. Refute it at one input. -/
def codeRowsWrong : ChangeSpec := { name := "codeRows", fn := fun _ => fun
  | [d] => { results := [.lit (.bool false)], args := [d] }
  | _ => none }
def CodeRowsWrongFalsely : Prop := codeRowsRow.holds Try.pinned (OpenSpec.ofChange codeRowsWrong)

/-- 'tinderlaw10.CodeBetween': WHATEVER THE INPUT: true; the input reads as it did. -/
def codeBetweenSpec : ChangeSpec := { name := "codeBetween", fn := fun _ => fun
  | [d1, d2] => { results := [.lit (.bool true)], args := [d1, d2] }
  | _ => none }
def codeBetweenRow : OpenClaim := { program := "ytmglkgjnhoojaaa", sum := "6760ea337cf09b96b7a82a61dc76948436be91650ca80b5ac2ca1e41cdc5b02b", func := "tinder/tinderlaw10.CodeBetween", spec := "codeBetween", unfollowed := true, recurses := true, apart := false }
def CodeBetweenSaid : Prop := codeBetweenRow.holds Try.pinned (OpenSpec.ofChange codeBetweenSpec)

/-- ITS FALSE NEIGHBOUR: 'it returns false'. Refute it at one input. -/
def codeBetweenWrong : ChangeSpec := { name := "codeBetween", fn := fun _ => fun
  | [d1, d2] => { results := [.lit (.bool false)], args := [d1, d2] }
  | _ => none }
def CodeBetweenWrongFalsely : Prop := codeBetweenRow.holds Try.pinned (OpenSpec.ofChange codeBetweenWrong)

/- THE SECOND FORM. 'bulk': how many values and letters a reading holds, each counted each time it is reached (what is shared counts as often as it is met; a slice's spare places count too). A statement '..UptoSaid' is the law's where the arguments, and the package variables that the reading takes, are together of bulk at most 1048576: NARROWER than '..Said'. Prove '..Said' where nothing that the law and all that it calls make is longer than what came in: it says more and counts as full. Else prove '..UptoSaid'. A law counts once. -/
mutual
def uptoBulk {H : Type} : DataW H → Nat
  | .lit (.string bytes) => bytes.length + 1
  | .lit _ => 1
  | .nil => 1
  | .ptr d => uptoBulk d + 1
  | .slice elems spare => uptoBulkAll elems + uptoBulkAll spare + 1
  | .agg parts => uptoBulkAll parts + 1
  | .iface _ d => uptoBulk d + 1
  | .map entries => uptoBulkEntries entries + 1
  | .held _ => 1
def uptoBulkAll {H : Type} : List (DataW H) → Nat
  | [] => 0
  | d :: r => uptoBulk d + uptoBulkAll r
def uptoBulkEntries {H : Type} : List (Lit × DataW H) → Nat
  | [] => 0
  | x :: r => uptoBulkEntry x + uptoBulkEntries r
def uptoBulkEntry {H : Type} : Lit × DataW H → Nat
  | (.string bytes, d) => bytes.length + uptoBulk d + 1
  | (_, d) => uptoBulk d + 1
 end
def uptoSmall : (H : Type) → List (DataW H) → Bool := fun _ ds => decide (uptoBulkAll ds ≤ 1048576)
def OpenSpec.upto (s : _root_.Go.ChangeSpec) : _root_.Go.OpenSpec := { _root_.Go.OpenSpec.ofChange s with cond := some uptoSmall }

/-- 'tinderlaw10.CodeActs', WHERE WHAT IT READS IS OF BULK AT MOST 1048576: true; the input reads as it did. -/
def codeActsUptoRow : OpenClaim := { program := "ytmglkgjnhoojaaa", sum := "6760ea337cf09b96b7a82a61dc76948436be91650ca80b5ac2ca1e41cdc5b02b", func := "tinder/tinderlaw10.CodeActs", spec := "codeActs", unfollowed := true, recurses := true, apart := false, narrowed := true }
def CodeActsUptoSaid : Prop := codeActsUptoRow.holds Try.pinned (OpenSpec.upto codeActsSpec)

/-- 'tinderlaw10.CodePuts', WHERE WHAT IT READS IS OF BULK AT MOST 1048576: true; the input reads as it did. -/
def codePutsUptoRow : OpenClaim := { program := "ytmglkgjnhoojaaa", sum := "6760ea337cf09b96b7a82a61dc76948436be91650ca80b5ac2ca1e41cdc5b02b", func := "tinder/tinderlaw10.CodePuts", spec := "codePuts", unfollowed := true, recurses := true, apart := false, narrowed := true }
def CodePutsUptoSaid : Prop := codePutsUptoRow.holds Try.pinned (OpenSpec.upto codePutsSpec)

/-- 'tinderlaw10.CodeSound', WHERE WHAT IT READS IS OF BULK AT MOST 1048576: true; the input reads as it did. -/
def codeSoundUptoRow : OpenClaim := { program := "ytmglkgjnhoojaaa", sum := "6760ea337cf09b96b7a82a61dc76948436be91650ca80b5ac2ca1e41cdc5b02b", func := "tinder/tinderlaw10.CodeSound", spec := "codeSound", unfollowed := true, recurses := true, apart := false, narrowed := true }
def CodeSoundUptoSaid : Prop := codeSoundUptoRow.holds Try.pinned (OpenSpec.upto codeSoundSpec)

/-- 'tinderlaw10.CodeRows', WHERE WHAT IT READS IS OF BULK AT MOST 1048576: true; the input reads as it did. -/
def codeRowsUptoRow : OpenClaim := { program := "ytmglkgjnhoojaaa", sum := "6760ea337cf09b96b7a82a61dc76948436be91650ca80b5ac2ca1e41cdc5b02b", func := "tinder/tinderlaw10.CodeRows", spec := "codeRows", unfollowed := true, recurses := true, apart := false, narrowed := true }
def CodeRowsUptoSaid : Prop := codeRowsUptoRow.holds Try.pinned (OpenSpec.upto codeRowsSpec)

/-- 'tinderlaw10.CodeBetween', WHERE WHAT IT READS IS OF BULK AT MOST 1048576: true; the input reads as it did. -/
def codeBetweenUptoRow : OpenClaim := { program := "ytmglkgjnhoojaaa", sum := "6760ea337cf09b96b7a82a61dc76948436be91650ca80b5ac2ca1e41cdc5b02b", func := "tinder/tinderlaw10.CodeBetween", spec := "codeBetween", unfollowed := true, recurses := true, apart := false, narrowed := true }
def CodeBetweenUptoSaid : Prop := codeBetweenUptoRow.holds Try.pinned (OpenSpec.upto codeBetweenSpec)

end Rows
end Go.Proofs.Ytmglkgjnhoojaaa
