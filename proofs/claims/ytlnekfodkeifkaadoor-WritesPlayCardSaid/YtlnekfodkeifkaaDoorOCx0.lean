/- Walks of the Go functions that the statement reaches: each call answers what the plain Lean function beside it says (a step on the way to the statement). Written by a program of the session's own; not a printed file. No conditions. -/
import Derived.Test.YtlnekfodkeifkaaDoorProg
import Derived.Below
import Derived.Deep.Draws
import Derived.Deep.AppendLies
import Derived.Maps.AppendAt
import Derived.OwnWalk
import Derived.Laws.BytesArg
import Derived.Laws.MakeOwn
import Derived.Laws.OwnMore
import Derived.Deep.OwnRows
import Derived.Tactics
import Derived.Lib.ConvBytes
import Derived.Laws.Slices
import Derived.WalkKit
import Derived.KernelRfl
import Derived.RowKit3
import Derived.Deep.LoopGhost
import Derived.Deep.QuietTactic
import Derived.BigQuiet
import Derived.WideLaws
import Derived.Deep.DeepCutAuto
import Derived.Deep.CutBlock
import Derived.Deep.RegionHeld3
import Derived.Laws.Rows
import Derived.Lib.AppendStr
import Derived.ArgAppend
import Derived.Laws.IdiomCopy
import Derived.OrdersHeld
import Derived.Laws.BitsLemmas
import Derived.RowKit
import Derived.Test.YtlnekfodkeifkaaDoorWWords
import Derived.Test.YtlnekfodkeifkaaDoorWLast
import Derived.Test.YtlnekfodkeifkaaDoorWTab
import Derived.Test.YtlnekfodkeifkaaDoorWFour
import Derived.Test.YtlnekfodkeifkaaDoorWQPut
import Derived.Test.YtlnekfodkeifkaaDoorWApart
import Derived.Test.YtlnekfodkeifkaaDoorWArr
import Derived.Test.YtlnekfodkeifkaaDoorWZeros
import Derived.Test.YtlnekfodkeifkaaDoorWFoot
import Derived.Test.YtlnekfodkeifkaaDoorWKept
import Derived.Test.YtlnekfodkeifkaaDoorWShare
import Derived.Test.YtlnekfodkeifkaaDoorWN
import Derived.Test.YtlnekfodkeifkaaDoorWFootNe
import Derived.Test.YtlnekfodkeifkaaDoorWAt
import Derived.Test.YtlnekfodkeifkaaDoorWEqStruct
import Derived.Test.YtlnekfodkeifkaaDoorWRepsOne
import Derived.Test.YtlnekfodkeifkaaDoorWInv
import Derived.Test.YtlnekfodkeifkaaDoorWInvWords
import Derived.Test.YtlnekfodkeifkaaDoorWGuard
import Derived.Test.YtlnekfodkeifkaaDoorWNEv
import Derived.Test.YtlnekfodkeifkaaDoorWMore
namespace Go.Proofs.YtlnekfodkeifkaaDoor.OC
open Go.RowKit Go.Proofs.YtlnekfodkeifkaaDoorW.PrintWords Go.Proofs.YtlnekfodkeifkaaDoorW.PrintLast Go.Proofs.YtlnekfodkeifkaaDoorW.PrintMore
attribute [local go_sem] max2_int min2_int max_two min_two max_three min_three max_four min_four   -- for this text's walks alone
set_option linter.unusedVariables false
set_option linter.unusedSimpArgs false



def errW : Option Int → Value
  | none => .nilIface
  | some c => .iface 0 (.int .i64 c)
theorem errW_none : errW none = .nilIface := rfl
theorem errW_some (c : Int) : errW (some c) = .iface 0 (.int .i64 c) := rfl

-- the values' own types

end Go.Proofs.YtlnekfodkeifkaaDoor.OC
