-- Written by the session (wip/tools) for this claim: functions of the program as Lean functions, and their contracts.
import Derived.Test.YteddflcloeelhaaProg
import Derived.Below
import Derived.Deep.Draws
import Derived.Deep.AppendLies
import Derived.Maps.AppendAt
import Derived.OwnWalk
import Derived.Laws.BytesArg
import Derived.Laws.MakeOwn
import Derived.Laws.OwnMore
import Derived.Deep.OwnRows
import Derived.Tactics
import Derived.Lib.ConvBytes
import Derived.Laws.Slices
import Derived.WalkKit
import Derived.KernelRfl
import Derived.RowKit3
import Derived.Deep.LoopGhost
import Derived.Deep.QuietTactic
import Derived.BigQuiet
import Derived.WideLaws
import Derived.Deep.DeepCutAuto
import Derived.Deep.CutBlock
import Derived.Deep.RegionHeld3
import Derived.Laws.Rows
import Derived.Lib.AppendStr
import Derived.ArgAppend
import Derived.Laws.IdiomCopy
import Derived.OrdersHeld
import Derived.Laws.BitsLemmas
import Derived.RowKit
import Derived.Test.YteddflcloeelhaaWWords
import Derived.Test.YteddflcloeelhaaWLast
import Derived.Test.YteddflcloeelhaaWTab
import Derived.Test.YteddflcloeelhaaWFour
import Derived.Test.YteddflcloeelhaaWQPut
import Derived.Test.YteddflcloeelhaaWApart
import Derived.Test.YteddflcloeelhaaWArr
import Derived.Test.YteddflcloeelhaaWZeros
import Derived.Test.YteddflcloeelhaaWFoot
import Derived.Test.YteddflcloeelhaaWKept
import Derived.Test.YteddflcloeelhaaWShare
import Derived.Test.YteddflcloeelhaaWN
import Derived.Test.YteddflcloeelhaaWFootNe
import Derived.Test.YteddflcloeelhaaWAt
import Derived.Test.YteddflcloeelhaaWEqStruct
import Derived.Test.YteddflcloeelhaaWRepsOne
import Derived.Test.YteddflcloeelhaaWInv
import Derived.Test.YteddflcloeelhaaWInvWords
import Derived.Test.YteddflcloeelhaaWGuard
import Derived.Test.YteddflcloeelhaaWNEv
import Derived.Test.YteddflcloeelhaaWMore
import Derived.Test.YteddflcloeelhaaXWords
namespace Go.Proofs.Yteddflcloeelhaa.FRing
open Go.RowKit Go.Proofs.YteddflcloeelhaaW.PrintWords Go.Proofs.YteddflcloeelhaaW.PrintLast Go.Proofs.YteddflcloeelhaaW.PrintMore
attribute [local go_sem] max2_int min2_int max_two min_two max_three min_three max_four min_four   -- for this text's walks alone
set_option linter.unusedVariables false
set_option linter.unusedSimpArgs false



def errW : Option Int → Value
  | none => .nilIface
  | some c => .iface 0 (.int .i64 c)
theorem errW_none : errW none = .nilIface := rfl
theorem errW_some (c : Int) : errW (some c) = .iface 0 (.int .i64 c) := rfl

theorem info3 : (Try.prog.info? 3).map (fun i => (i.zero, i.size, i.bytes)) = some (some (.int .i64 0), 1, 8) := by kernel_rfl
-- the values' own types

end Go.Proofs.Yteddflcloeelhaa.FRing
