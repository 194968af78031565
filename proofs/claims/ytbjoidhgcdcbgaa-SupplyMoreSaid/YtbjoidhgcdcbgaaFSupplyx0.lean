-- Written by the session (wip/tools) for this claim: functions of the program as Lean functions, and their contracts.
import Derived.Test.YtbjoidhgcdcbgaaProg
import Derived.Below
import Derived.Deep.Draws
import Derived.Deep.AppendLies
import Derived.Maps.AppendAt
import Derived.OwnWalk
import Derived.Laws.BytesArg
import Derived.Laws.MakeOwn
import Derived.Laws.OwnMore
import Derived.Deep.OwnRows
import Derived.Tactics
import Derived.Lib.ConvBytes
import Derived.Laws.Slices
import Derived.WalkKit
import Derived.KernelRfl
import Derived.RowKit3
import Derived.Deep.LoopGhost
import Derived.Deep.QuietTactic
import Derived.BigQuiet
import Derived.WideLaws
import Derived.Deep.DeepCutAuto
import Derived.Deep.CutBlock
import Derived.Deep.RegionHeld3
import Derived.Laws.Rows
import Derived.Lib.AppendStr
import Derived.ArgAppend
import Derived.Laws.IdiomCopy
import Derived.OrdersHeld
import Derived.Laws.BitsLemmas
import Derived.RowKit
import Derived.Test.YtbjoidhgcdcbgaaWWords
import Derived.Test.YtbjoidhgcdcbgaaWLast
import Derived.Test.YtbjoidhgcdcbgaaWTab
import Derived.Test.YtbjoidhgcdcbgaaWFour
import Derived.Test.YtbjoidhgcdcbgaaWQPut
import Derived.Test.YtbjoidhgcdcbgaaWApart
import Derived.Test.YtbjoidhgcdcbgaaWArr
import Derived.Test.YtbjoidhgcdcbgaaWZeros
import Derived.Test.YtbjoidhgcdcbgaaWFoot
import Derived.Test.YtbjoidhgcdcbgaaWKept
import Derived.Test.YtbjoidhgcdcbgaaWShare
import Derived.Test.YtbjoidhgcdcbgaaWN
import Derived.Test.YtbjoidhgcdcbgaaWFootNe
import Derived.Test.YtbjoidhgcdcbgaaWAt
import Derived.Test.YtbjoidhgcdcbgaaWEqStruct
import Derived.Test.YtbjoidhgcdcbgaaWRepsOne
import Derived.Test.YtbjoidhgcdcbgaaWInv
import Derived.Test.YtbjoidhgcdcbgaaWInvWords
import Derived.Test.YtbjoidhgcdcbgaaWGuard
import Derived.Test.YtbjoidhgcdcbgaaWNEv
import Derived.Test.YtbjoidhgcdcbgaaWMore
import Derived.Test.YtbjoidhgcdcbgaaXWords
namespace Go.Proofs.Ytbjoidhgcdcbgaa.FSupply
open Go.RowKit Go.Proofs.YtbjoidhgcdcbgaaW.PrintWords Go.Proofs.YtbjoidhgcdcbgaaW.PrintLast Go.Proofs.YtbjoidhgcdcbgaaW.PrintMore
attribute [local go_sem] max2_int min2_int max_two min_two max_three min_three max_four min_four   -- for this text's walks alone
set_option linter.unusedVariables false
set_option linter.unusedSimpArgs false



def errW : Option Int → Value
  | none => .nilIface
  | some c => .iface 0 (.int .i64 c)
theorem errW_none : errW none = .nilIface := rfl
theorem errW_some (c : Int) : errW (some c) = .iface 0 (.int .i64 c) := rfl

theorem info3 : (Try.prog.info? 3).map (fun i => (i.zero, i.size, i.bytes)) = some (some (.int .i64 0), 1, 8) := by kernel_rfl
theorem info4 : (Try.prog.info? 4).map (fun i => (i.zero, i.size, i.bytes)) = some (some (.bool false), 1, 1) := by kernel_rfl
-- the values' own types

end Go.Proofs.Ytbjoidhgcdcbgaa.FSupply
