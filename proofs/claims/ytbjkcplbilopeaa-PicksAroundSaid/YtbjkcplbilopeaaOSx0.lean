/- Walks of the Go functions that the statement reaches: each call answers what the plain Lean function beside it says (a step on the way to the statement). Written by a program of the session's own; not a printed file. No conditions. -/
import Derived.Test.YtbjkcplbilopeaaProg
import Derived.Below
import Derived.Deep.Draws
import Derived.Deep.AppendLies
import Derived.Maps.AppendAt
import Derived.OwnWalk
import Derived.Laws.BytesArg
import Derived.Laws.MakeOwn
import Derived.Laws.OwnMore
import Derived.Deep.OwnRows
import Derived.Tactics
import Derived.Lib.ConvBytes
import Derived.Laws.Slices
import Derived.WalkKit
import Derived.KernelRfl
import Derived.RowKit3
import Derived.Deep.LoopGhost
import Derived.Deep.QuietTactic
import Derived.BigQuiet
import Derived.WideLaws
import Derived.Deep.DeepCutAuto
import Derived.Deep.CutBlock
import Derived.Deep.RegionHeld3
import Derived.Laws.Rows
import Derived.Lib.AppendStr
import Derived.ArgAppend
import Derived.Laws.IdiomCopy
import Derived.OrdersHeld
import Derived.Laws.BitsLemmas
import Derived.RowKit
import Derived.Maps.RangeWalk
import Derived.Test.YtbjkcplbilopeaaWWords
import Derived.Test.YtbjkcplbilopeaaWLast
import Derived.Test.YtbjkcplbilopeaaWTab
import Derived.Test.YtbjkcplbilopeaaWFour
import Derived.Test.YtbjkcplbilopeaaWQPut
import Derived.Test.YtbjkcplbilopeaaWApart
import Derived.Test.YtbjkcplbilopeaaWArr
import Derived.Test.YtbjkcplbilopeaaWZeros
import Derived.Test.YtbjkcplbilopeaaWFoot
import Derived.Test.YtbjkcplbilopeaaWKept
import Derived.Test.YtbjkcplbilopeaaWShare
import Derived.Test.YtbjkcplbilopeaaWN
import Derived.Test.YtbjkcplbilopeaaWFootNe
import Derived.Test.YtbjkcplbilopeaaWAt
import Derived.Test.YtbjkcplbilopeaaWEqStruct
import Derived.Test.YtbjkcplbilopeaaWRepsOne
import Derived.Test.YtbjkcplbilopeaaWInv
import Derived.Test.YtbjkcplbilopeaaWInvWords
import Derived.Test.YtbjkcplbilopeaaWGuard
import Derived.Test.YtbjkcplbilopeaaWNEv
import Derived.Test.YtbjkcplbilopeaaWMore
namespace Go.Proofs.Ytbjkcplbilopeaa.OS
open Go.RowKit Go.Proofs.YtbjkcplbilopeaaW.PrintWords Go.Proofs.YtbjkcplbilopeaaW.PrintLast Go.Proofs.YtbjkcplbilopeaaW.PrintMore
attribute [local go_sem] max2_int min2_int max_two min_two max_three min_three max_four min_four   -- for this text's walks alone
set_option linter.unusedVariables false
set_option linter.unusedSimpArgs false



def errW : Option Int → Value
  | none => .nilIface
  | some c => .iface 0 (.int .i64 c)
theorem errW_none : errW none = .nilIface := rfl
theorem errW_some (c : Int) : errW (some c) = .iface 0 (.int .i64 c) := rfl

theorem info3 : (Try.prog.info? 3).map (fun i => (i.zero, i.size, i.bytes)) = some (some (.int .i64 0), 1, 8) := by kernel_rfl
theorem info4 : (Try.prog.info? 4).map (fun i => (i.zero, i.size, i.bytes)) = some (some (.bool false), 1, 1) := by kernel_rfl
-- the values' own types

end Go.Proofs.Ytbjkcplbilopeaa.OS
