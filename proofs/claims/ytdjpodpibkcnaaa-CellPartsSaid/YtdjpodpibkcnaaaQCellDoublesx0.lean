-- written by a program of this session (xprint.py) out of the translation
import Derived.Test.YtdjpodpibkcnaaaProg
import Derived.Below
import Derived.Deep.Draws
import Derived.Deep.AppendLies
import Derived.Maps.AppendAt
import Derived.OwnWalk
import Derived.Laws.BytesArg
import Derived.Laws.MakeOwn
import Derived.Laws.OwnMore
import Derived.Deep.OwnRows
import Derived.Tactics
import Derived.Lib.ConvBytes
import Derived.Laws.Slices
import Derived.WalkKit
import Derived.KernelRfl
import Derived.RowKit3
import Derived.Deep.LoopGhost
import Derived.Deep.QuietTactic
import Derived.BigQuiet
import Derived.WideLaws
import Derived.Deep.DeepCutAuto
import Derived.Deep.CutBlock
import Derived.Deep.RegionHeld3
import Derived.Laws.Rows
import Derived.Lib.AppendStr
import Derived.ArgAppend
import Derived.Laws.IdiomCopy
import Derived.OrdersHeld
import Derived.Laws.BitsLemmas
import Derived.RowKit
import Derived.Test.YtdjpodpibkcnaaaWWords
import Derived.Test.YtdjpodpibkcnaaaWLast
import Derived.Test.YtdjpodpibkcnaaaWTab
import Derived.Test.YtdjpodpibkcnaaaWFour
import Derived.Test.YtdjpodpibkcnaaaWQPut
import Derived.Test.YtdjpodpibkcnaaaWApart
import Derived.Test.YtdjpodpibkcnaaaWArr
import Derived.Test.YtdjpodpibkcnaaaWZeros
import Derived.Test.YtdjpodpibkcnaaaWFoot
import Derived.Test.YtdjpodpibkcnaaaWKept
import Derived.Test.YtdjpodpibkcnaaaWShare
import Derived.Test.YtdjpodpibkcnaaaWN
import Derived.Test.YtdjpodpibkcnaaaWFootNe
import Derived.Test.YtdjpodpibkcnaaaWAt
import Derived.Test.YtdjpodpibkcnaaaWEqStruct
import Derived.Test.YtdjpodpibkcnaaaWRepsOne
import Derived.Test.YtdjpodpibkcnaaaWInv
import Derived.Test.YtdjpodpibkcnaaaWInvWords
import Derived.Test.YtdjpodpibkcnaaaWGuard
import Derived.Test.YtdjpodpibkcnaaaWNEv
import Derived.Test.YtdjpodpibkcnaaaWMore
namespace Go.Proofs.Ytdjpodpibkcnaaa.QCellDoubles
open Go.RowKit Go.Proofs.YtdjpodpibkcnaaaW.PrintWords Go.Proofs.YtdjpodpibkcnaaaW.PrintLast Go.Proofs.YtdjpodpibkcnaaaW.PrintMore
attribute [local go_sem] max2_int min2_int max_two min_two max_three min_three max_four min_four   -- for this text's walks alone
set_option linter.unusedVariables false
set_option linter.unusedSimpArgs false



def errW : Option Int → Value
  | none => .nilIface
  | some c => .iface 0 (.int .i64 c)
theorem errW_none : errW none = .nilIface := rfl
theorem errW_some (c : Int) : errW (some c) = .iface 0 (.int .i64 c) := rfl

-- the values' own types

end Go.Proofs.Ytdjpodpibkcnaaa.QCellDoubles
