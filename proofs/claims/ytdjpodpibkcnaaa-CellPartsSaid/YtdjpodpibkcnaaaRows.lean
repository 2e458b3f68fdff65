/-
  No cell of these rows narrows 'for every input' (looked for: loops, veiled, ifaces, maps, wideKeys, modest, calm, conditions, laid).
  DERIVED. THE GIVEN ROWS OF THIS SEAT. 6 by the template 'for every input the law returns true; each argument reads behind the call as it read before'; 0 by the template 'total and deterministic' (their statements: YtdjpodpibkcnaaaTotals.lean).
  GIVEN WITH THE SEED: the statements are not yours to turn. If you find one false, say at which input.
  Laid BY PROGRAM, IN A SANDBOX (cutbox-rows.mjs): the forced cells as the released guide's own fill.sh prints them over the translation 334d4c2e8e55a3b8… (all of the seat's roots in one cut). By AI agents, Wed Nov 11 2026. No macro, syntax, notation, axiom, sorry.
-/
import Derived.Test.YtdjpodpibkcnaaaChecked
import GoSem.Claim
import GoSem.ClaimJoined
import GoSem.ClaimMapViews
import Derived.JoinedTies
import Derived.KernelRfl
namespace Go.Proofs.Ytdjpodpibkcnaaa
/- THE CELL 'sum', in the pinned program and in every row, IS THE sha256 OF THE DUMP (.gsa) THAT YtdjpodpibkcnaaaProg.lean LOADS. Nothing in Lean hashes anything: it is a label: what it is worth is what the hold of that sum in a sandbox is worth. -/
noncomputable def Try.pinned : Pinned := { name := "ytdjpodpibkcnaaa", sum := "334d4c2e8e55a3b847a96e474682d47787efa74be12e0bfde331fc1c2b3dc2cb", checked := Try.checked }
namespace Rows
def none {H : Type} : Left H := { results := [], args := [] }

/-- 'tinderlaw01.CellBins': WHATEVER THE INPUT: true; the input reads as it did. -/
def cellBinsSpec : ChangeSpec := { name := "cellBins", fn := fun _ => fun
  | [d1, d2, d3] => { results := [.lit (.bool true)], args := [d1, d2, d3] }
  | _ => none }
def cellBinsRow : OpenClaim := { program := "ytdjpodpibkcnaaa", sum := "334d4c2e8e55a3b847a96e474682d47787efa74be12e0bfde331fc1c2b3dc2cb", func := "tinder/tinderlaw01.CellBins", spec := "cellBins", apart := false }
def CellBinsSaid : Prop := cellBinsRow.holds Try.pinned (OpenSpec.ofChange cellBinsSpec)

/-- ITS FALSE NEIGHBOUR: 'it returns false'. Refute it at one input. -/
def cellBinsWrong : ChangeSpec := { name := "cellBins", fn := fun _ => fun
  | [d1, d2, d3] => { results := [.lit (.bool false)], args := [d1, d2, d3] }
  | _ => none }
def CellBinsWrongFalsely : Prop := cellBinsRow.holds Try.pinned (OpenSpec.ofChange cellBinsWrong)

/-- 'tinderlaw01.CellDivides': WHATEVER THE INPUT: true; the input reads as it did. -/
def cellDividesSpec : ChangeSpec := { name := "cellDivides", fn := fun _ => fun
  | [d1, d2, d3] => { results := [.lit (.bool true)], args := [d1, d2, d3] }
  | _ => none }
def cellDividesRow : OpenClaim := { program := "ytdjpodpibkcnaaa", sum := "334d4c2e8e55a3b847a96e474682d47787efa74be12e0bfde331fc1c2b3dc2cb", func := "tinder/tinderlaw01.CellDivides", spec := "cellDivides", apart := false }
def CellDividesSaid : Prop := cellDividesRow.holds Try.pinned (OpenSpec.ofChange cellDividesSpec)

/-- ITS FALSE NEIGHBOUR: 'it returns false'. Refute it at one input. -/
def cellDividesWrong : ChangeSpec := { name := "cellDivides", fn := fun _ => fun
  | [d1, d2, d3] => { results := [.lit (.bool false)], args := [d1, d2, d3] }
  | _ => none }
def CellDividesWrongFalsely : Prop := cellDividesRow.holds Try.pinned (OpenSpec.ofChange cellDividesWrong)

/-- 'tinderlaw01.CellEuclid': WHATEVER THE INPUT: true; the input reads as it did. -/
def cellEuclidSpec : ChangeSpec := { name := "cellEuclid", fn := fun _ => fun
  | [d1, d2] => { results := [.lit (.bool true)], args := [d1, d2] }
  | _ => none }
def cellEuclidRow : OpenClaim := { program := "ytdjpodpibkcnaaa", sum := "334d4c2e8e55a3b847a96e474682d47787efa74be12e0bfde331fc1c2b3dc2cb", func := "tinder/tinderlaw01.CellEuclid", spec := "cellEuclid", apart := false }
def CellEuclidSaid : Prop := cellEuclidRow.holds Try.pinned (OpenSpec.ofChange cellEuclidSpec)

/-- ITS FALSE NEIGHBOUR: 'it returns false'. Refute it at one input. -/
def cellEuclidWrong : ChangeSpec := { name := "cellEuclid", fn := fun _ => fun
  | [d1, d2] => { results := [.lit (.bool false)], args := [d1, d2] }
  | _ => none }
def CellEuclidWrongFalsely : Prop := cellEuclidRow.holds Try.pinned (OpenSpec.ofChange cellEuclidWrong)

/-- 'tinderlaw01.CellParts': WHATEVER THE INPUT: true; the input reads as it did. -/
def cellPartsSpec : ChangeSpec := { name := "cellParts", fn := fun _ => fun
  | [d1, d2] => { results := [.lit (.bool true)], args := [d1, d2] }
  | _ => none }
def cellPartsRow : OpenClaim := { program := "ytdjpodpibkcnaaa", sum := "334d4c2e8e55a3b847a96e474682d47787efa74be12e0bfde331fc1c2b3dc2cb", func := "tinder/tinderlaw01.CellParts", spec := "cellParts", apart := false }
def CellPartsSaid : Prop := cellPartsRow.holds Try.pinned (OpenSpec.ofChange cellPartsSpec)

/-- ITS FALSE NEIGHBOUR: 'it returns false'. Refute it at one input. -/
def cellPartsWrong : ChangeSpec := { name := "cellParts", fn := fun _ => fun
  | [d1, d2] => { results := [.lit (.bool false)], args := [d1, d2] }
  | _ => none }
def CellPartsWrongFalsely : Prop := cellPartsRow.holds Try.pinned (OpenSpec.ofChange cellPartsWrong)

/-- 'tinderlaw01.CellDoubles': WHATEVER THE INPUT: true; the input reads as it did. -/
def cellDoublesSpec : ChangeSpec := { name := "cellDoubles", fn := fun _ => fun
  | [d1, d2, d3] => { results := [.lit (.bool true)], args := [d1, d2, d3] }
  | _ => none }
def cellDoublesRow : OpenClaim := { program := "ytdjpodpibkcnaaa", sum := "334d4c2e8e55a3b847a96e474682d47787efa74be12e0bfde331fc1c2b3dc2cb", func := "tinder/tinderlaw01.CellDoubles", spec := "cellDoubles", apart := false }
def CellDoublesSaid : Prop := cellDoublesRow.holds Try.pinned (OpenSpec.ofChange cellDoublesSpec)

/-- ITS FALSE NEIGHBOUR: 'it returns false'. Refute it at one input. -/
def cellDoublesWrong : ChangeSpec := { name := "cellDoubles", fn := fun _ => fun
  | [d1, d2, d3] => { results := [.lit (.bool false)], args := [d1, d2, d3] }
  | _ => none }
def CellDoublesWrongFalsely : Prop := cellDoublesRow.holds Try.pinned (OpenSpec.ofChange cellDoublesWrong)

/-- 'tinderlaw01.CellSymmetric': WHATEVER THE INPUT: true; the input reads as it did. -/
def cellSymmetricSpec : ChangeSpec := { name := "cellSymmetric", fn := fun _ => fun
  | [d1, d2, d3] => { results := [.lit (.bool true)], args := [d1, d2, d3] }
  | _ => none }
def cellSymmetricRow : OpenClaim := { program := "ytdjpodpibkcnaaa", sum := "334d4c2e8e55a3b847a96e474682d47787efa74be12e0bfde331fc1c2b3dc2cb", func := "tinder/tinderlaw01.CellSymmetric", spec := "cellSymmetric", named := ["math/bits.overflowError"], apart := false }
def CellSymmetricSaid : Prop := cellSymmetricRow.holds Try.pinned (OpenSpec.ofChange cellSymmetricSpec)

/-- ITS FALSE NEIGHBOUR: 'it returns false'. Refute it at one input. -/
def cellSymmetricWrong : ChangeSpec := { name := "cellSymmetric", fn := fun _ => fun
  | [d1, d2, d3] => { results := [.lit (.bool false)], args := [d1, d2, d3] }
  | _ => none }
def CellSymmetricWrongFalsely : Prop := cellSymmetricRow.holds Try.pinned (OpenSpec.ofChange cellSymmetricWrong)

/- THE SECOND FORM. 'bulk': how many values and letters a reading holds, each counted each time it is reached (what is shared counts as often as it is met; a slice's spare places count too). A statement '..UptoSaid' is the law's where the arguments, and the package variables that the reading takes, are together of bulk at most 1048576: NARROWER than '..Said'. Prove '..Said' where nothing that the law and all that it calls make is longer than what came in: it says more and counts as full. Else prove '..UptoSaid'. A law counts once. -/
mutual
def uptoBulk {H : Type} : DataW H → Nat
  | .lit (.string bytes) => bytes.length + 1
  | .lit _ => 1
  | .nil => 1
  | .ptr d => uptoBulk d + 1
  | .slice elems spare => uptoBulkAll elems + uptoBulkAll spare + 1
  | .agg parts => uptoBulkAll parts + 1
  | .iface _ d => uptoBulk d + 1
  | .map entries => uptoBulkEntries entries + 1
  | .held _ => 1
def uptoBulkAll {H : Type} : List (DataW H) → Nat
  | [] => 0
  | d :: r => uptoBulk d + uptoBulkAll r
def uptoBulkEntries {H : Type} : List (Lit × DataW H) → Nat
  | [] => 0
  | x :: r => uptoBulkEntry x + uptoBulkEntries r
def uptoBulkEntry {H : Type} : Lit × DataW H → Nat
  | (.string bytes, d) => bytes.length + uptoBulk d + 1
  | (_, d) => uptoBulk d + 1
 end
def uptoSmall : (H : Type) → List (DataW H) → Bool := fun _ ds => decide (uptoBulkAll ds ≤ 1048576)
def OpenSpec.upto (s : _root_.Go.ChangeSpec) : _root_.Go.OpenSpec := { _root_.Go.OpenSpec.ofChange s with cond := some uptoSmall }

/-- 'tinderlaw01.CellBins', WHERE WHAT IT READS IS OF BULK AT MOST 1048576: true; the input reads as it did. -/
def cellBinsUptoRow : OpenClaim := { program := "ytdjpodpibkcnaaa", sum := "334d4c2e8e55a3b847a96e474682d47787efa74be12e0bfde331fc1c2b3dc2cb", func := "tinder/tinderlaw01.CellBins", spec := "cellBins", apart := false, narrowed := true }
def CellBinsUptoSaid : Prop := cellBinsUptoRow.holds Try.pinned (OpenSpec.upto cellBinsSpec)

/-- 'tinderlaw01.CellDivides', WHERE WHAT IT READS IS OF BULK AT MOST 1048576: true; the input reads as it did. -/
def cellDividesUptoRow : OpenClaim := { program := "ytdjpodpibkcnaaa", sum := "334d4c2e8e55a3b847a96e474682d47787efa74be12e0bfde331fc1c2b3dc2cb", func := "tinder/tinderlaw01.CellDivides", spec := "cellDivides", apart := false, narrowed := true }
def CellDividesUptoSaid : Prop := cellDividesUptoRow.holds Try.pinned (OpenSpec.upto cellDividesSpec)

/-- 'tinderlaw01.CellEuclid', WHERE WHAT IT READS IS OF BULK AT MOST 1048576: true; the input reads as it did. -/
def cellEuclidUptoRow : OpenClaim := { program := "ytdjpodpibkcnaaa", sum := "334d4c2e8e55a3b847a96e474682d47787efa74be12e0bfde331fc1c2b3dc2cb", func := "tinder/tinderlaw01.CellEuclid", spec := "cellEuclid", apart := false, narrowed := true }
def CellEuclidUptoSaid : Prop := cellEuclidUptoRow.holds Try.pinned (OpenSpec.upto cellEuclidSpec)

/-- 'tinderlaw01.CellParts', WHERE WHAT IT READS IS OF BULK AT MOST 1048576: true; the input reads as it did. -/
def cellPartsUptoRow : OpenClaim := { program := "ytdjpodpibkcnaaa", sum := "334d4c2e8e55a3b847a96e474682d47787efa74be12e0bfde331fc1c2b3dc2cb", func := "tinder/tinderlaw01.CellParts", spec := "cellParts", apart := false, narrowed := true }
def CellPartsUptoSaid : Prop := cellPartsUptoRow.holds Try.pinned (OpenSpec.upto cellPartsSpec)

/-- 'tinderlaw01.CellDoubles', WHERE WHAT IT READS IS OF BULK AT MOST 1048576: true; the input reads as it did. -/
def cellDoublesUptoRow : OpenClaim := { program := "ytdjpodpibkcnaaa", sum := "334d4c2e8e55a3b847a96e474682d47787efa74be12e0bfde331fc1c2b3dc2cb", func := "tinder/tinderlaw01.CellDoubles", spec := "cellDoubles", apart := false, narrowed := true }
def CellDoublesUptoSaid : Prop := cellDoublesUptoRow.holds Try.pinned (OpenSpec.upto cellDoublesSpec)

/-- 'tinderlaw01.CellSymmetric', WHERE WHAT IT READS IS OF BULK AT MOST 1048576: true; the input reads as it did. -/
def cellSymmetricUptoRow : OpenClaim := { program := "ytdjpodpibkcnaaa", sum := "334d4c2e8e55a3b847a96e474682d47787efa74be12e0bfde331fc1c2b3dc2cb", func := "tinder/tinderlaw01.CellSymmetric", spec := "cellSymmetric", named := ["math/bits.overflowError"], apart := false, narrowed := true }
def CellSymmetricUptoSaid : Prop := cellSymmetricUptoRow.holds Try.pinned (OpenSpec.upto cellSymmetricSpec)

end Rows
end Go.Proofs.Ytdjpodpibkcnaaa
