-- written by a program of this session (xprint.py) out of the translation
import Derived.Test.YtdjpodpibkcnaabProg
import Derived.Below
import Derived.Deep.Draws
import Derived.Deep.AppendLies
import Derived.Maps.AppendAt
import Derived.OwnWalk
import Derived.Laws.BytesArg
import Derived.Laws.MakeOwn
import Derived.Laws.OwnMore
import Derived.Deep.OwnRows
import Derived.Tactics
import Derived.Lib.ConvBytes
import Derived.Laws.Slices
import Derived.WalkKit
import Derived.KernelRfl
import Derived.RowKit3
import Derived.Deep.LoopGhost
import Derived.Deep.QuietTactic
import Derived.BigQuiet
import Derived.WideLaws
import Derived.Deep.DeepCutAuto
import Derived.Deep.CutBlock
import Derived.Deep.RegionHeld3
import Derived.Laws.Rows
import Derived.Lib.AppendStr
import Derived.ArgAppend
import Derived.Laws.IdiomCopy
import Derived.OrdersHeld
import Derived.Laws.BitsLemmas
import Derived.RowKit
import Derived.Test.YtdjpodpibkcnaabWWords
import Derived.Test.YtdjpodpibkcnaabWLast
import Derived.Test.YtdjpodpibkcnaabWTab
import Derived.Test.YtdjpodpibkcnaabWFour
import Derived.Test.YtdjpodpibkcnaabWQPut
import Derived.Test.YtdjpodpibkcnaabWApart
import Derived.Test.YtdjpodpibkcnaabWArr
import Derived.Test.YtdjpodpibkcnaabWZeros
import Derived.Test.YtdjpodpibkcnaabWFoot
import Derived.Test.YtdjpodpibkcnaabWKept
import Derived.Test.YtdjpodpibkcnaabWShare
import Derived.Test.YtdjpodpibkcnaabWN
import Derived.Test.YtdjpodpibkcnaabWFootNe
import Derived.Test.YtdjpodpibkcnaabWAt
import Derived.Test.YtdjpodpibkcnaabWEqStruct
import Derived.Test.YtdjpodpibkcnaabWRepsOne
import Derived.Test.YtdjpodpibkcnaabWInv
import Derived.Test.YtdjpodpibkcnaabWInvWords
import Derived.Test.YtdjpodpibkcnaabWGuard
import Derived.Test.YtdjpodpibkcnaabWNEv
import Derived.Test.YtdjpodpibkcnaabWMore
namespace Go.Proofs.Ytdjpodpibkcnaab.QCellWides
open Go.RowKit Go.Proofs.YtdjpodpibkcnaabW.PrintWords Go.Proofs.YtdjpodpibkcnaabW.PrintLast Go.Proofs.YtdjpodpibkcnaabW.PrintMore
attribute [local go_sem] max2_int min2_int max_two min_two max_three min_three max_four min_four   -- for this text's walks alone
set_option linter.unusedVariables false
set_option linter.unusedSimpArgs false



def errW : Option Int → Value
  | none => .nilIface
  | some c => .iface 0 (.int .i64 c)
theorem errW_none : errW none = .nilIface := rfl
theorem errW_some (c : Int) : errW (some c) = .iface 0 (.int .i64 c) := rfl

-- the values' own types

end Go.Proofs.Ytdjpodpibkcnaab.QCellWides
