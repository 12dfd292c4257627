-- Written by a program of the session (wip/xprint.sh, wip/xpatch.py; a variant of the print) out of the translation. Lean checks it.
import Derived.Test.YtdonphglmeimbaaProg
import Derived.Below
import Derived.Deep.Draws
import Derived.Deep.AppendLies
import Derived.Maps.AppendAt
import Derived.OwnWalk
import Derived.Laws.BytesArg
import Derived.Laws.MakeOwn
import Derived.Laws.OwnMore
import Derived.Deep.OwnRows
import Derived.Tactics
import Derived.Lib.ConvBytes
import Derived.Laws.Slices
import Derived.WalkKit
import Derived.KernelRfl
import Derived.RowKit3
import Derived.Deep.LoopGhost
import Derived.Deep.QuietTactic
import Derived.BigQuiet
import Derived.WideLaws
import Derived.Deep.DeepCutAuto
import Derived.Deep.CutBlock
import Derived.Deep.RegionHeld3
import Derived.Laws.Rows
import Derived.Lib.AppendStr
import Derived.ArgAppend
import Derived.Laws.IdiomCopy
import Derived.OrdersHeld
import Derived.Laws.BitsLemmas
import Derived.RowKit
import Derived.Test.YtdonphglmeimbaaShelf
import Derived.Test.YtdonphglmeimbaaWWords
import Derived.Test.YtdonphglmeimbaaWLast
import Derived.Test.YtdonphglmeimbaaWTab
import Derived.Test.YtdonphglmeimbaaWFour
import Derived.Test.YtdonphglmeimbaaWQPut
import Derived.Test.YtdonphglmeimbaaWApart
import Derived.Test.YtdonphglmeimbaaWArr
import Derived.Test.YtdonphglmeimbaaWZeros
import Derived.Test.YtdonphglmeimbaaWFoot
import Derived.Test.YtdonphglmeimbaaWKept
import Derived.Test.YtdonphglmeimbaaWShare
import Derived.Test.YtdonphglmeimbaaWN
import Derived.Test.YtdonphglmeimbaaWFootNe
import Derived.Test.YtdonphglmeimbaaWAt
import Derived.Test.YtdonphglmeimbaaWEqStruct
import Derived.Test.YtdonphglmeimbaaWRepsOne
import Derived.Test.YtdonphglmeimbaaWInv
import Derived.Test.YtdonphglmeimbaaWInvWords
import Derived.Test.YtdonphglmeimbaaWGuard
import Derived.Test.YtdonphglmeimbaaWNEv
import Derived.Test.YtdonphglmeimbaaWMore
namespace Go.Proofs.Ytdonphglmeimbaa.QNumWides
open Go.RowKit Go.Proofs.YtdonphglmeimbaaW.PrintWords Go.Proofs.YtdonphglmeimbaaW.PrintLast Go.Proofs.YtdonphglmeimbaaW.PrintMore
attribute [local go_sem] max2_int min2_int max_two min_two max_three min_three max_four min_four   -- for this text's walks alone
set_option linter.unusedVariables false
set_option linter.unusedSimpArgs false



def errW : Option Int → Value
  | none => .nilIface
  | some c => .iface 0 (.int .i64 c)
theorem errW_none : errW none = .nilIface := rfl
theorem errW_some (c : Int) : errW (some c) = .iface 0 (.int .i64 c) := rfl

theorem info26 : (Try.prog.info? 26).map (fun i => (i.zero, i.size, i.bytes)) = some (some (.int .u64 0), 1, 8) := by kernel_rfl
-- the values' own types

end Go.Proofs.Ytdonphglmeimbaa.QNumWides
