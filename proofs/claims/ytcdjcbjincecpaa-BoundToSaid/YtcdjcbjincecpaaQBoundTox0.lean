-- Written by a program of the session (wip/xprint.sh, wip/xpatch.py; a variant of the print) out of the translation. Lean checks it.
import Derived.Test.YtcdjcbjincecpaaProg
import Derived.Below
import Derived.Deep.Draws
import Derived.Deep.AppendLies
import Derived.Maps.AppendAt
import Derived.OwnWalk
import Derived.Laws.BytesArg
import Derived.Laws.MakeOwn
import Derived.Laws.OwnMore
import Derived.Deep.OwnRows
import Derived.Tactics
import Derived.Lib.ConvBytes
import Derived.Laws.Slices
import Derived.WalkKit
import Derived.KernelRfl
import Derived.RowKit3
import Derived.Deep.LoopGhost
import Derived.Deep.QuietTactic
import Derived.BigQuiet
import Derived.WideLaws
import Derived.Deep.DeepCutAuto
import Derived.Deep.CutBlock
import Derived.Deep.RegionHeld3
import Derived.Laws.Rows
import Derived.Lib.AppendStr
import Derived.ArgAppend
import Derived.Laws.IdiomCopy
import Derived.OrdersHeld
import Derived.Laws.BitsLemmas
import Derived.RowKit
import Derived.Test.YtcdjcbjincecpaaWWords
import Derived.Test.YtcdjcbjincecpaaWLast
import Derived.Test.YtcdjcbjincecpaaWTab
import Derived.Test.YtcdjcbjincecpaaWFour
import Derived.Test.YtcdjcbjincecpaaWQPut
import Derived.Test.YtcdjcbjincecpaaWApart
import Derived.Test.YtcdjcbjincecpaaWArr
import Derived.Test.YtcdjcbjincecpaaWZeros
import Derived.Test.YtcdjcbjincecpaaWFoot
import Derived.Test.YtcdjcbjincecpaaWKept
import Derived.Test.YtcdjcbjincecpaaWShare
import Derived.Test.YtcdjcbjincecpaaWN
import Derived.Test.YtcdjcbjincecpaaWFootNe
import Derived.Test.YtcdjcbjincecpaaWAt
import Derived.Test.YtcdjcbjincecpaaWEqStruct
import Derived.Test.YtcdjcbjincecpaaWRepsOne
import Derived.Test.YtcdjcbjincecpaaWInv
import Derived.Test.YtcdjcbjincecpaaWInvWords
import Derived.Test.YtcdjcbjincecpaaWGuard
import Derived.Test.YtcdjcbjincecpaaWNEv
import Derived.Test.YtcdjcbjincecpaaWMore
namespace Go.Proofs.Ytcdjcbjincecpaa.QBoundTo
open Go.RowKit Go.Proofs.YtcdjcbjincecpaaW.PrintWords Go.Proofs.YtcdjcbjincecpaaW.PrintLast Go.Proofs.YtcdjcbjincecpaaW.PrintMore
attribute [local go_sem] max2_int min2_int max_two min_two max_three min_three max_four min_four   -- for this text's walks alone
set_option linter.unusedVariables false
set_option linter.unusedSimpArgs false



def errW : Option Int → Value
  | none => .nilIface
  | some c => .iface 0 (.int .i64 c)
theorem errW_none : errW none = .nilIface := rfl
theorem errW_some (c : Int) : errW (some c) = .iface 0 (.int .i64 c) := rfl

-- the values' own types

end Go.Proofs.Ytcdjcbjincecpaa.QBoundTo
