/- Words of the kit's print (print.sh), trimmed to what this claim names (wip/tools/pack.py). No condition. -/
import Derived.Test.YteddflcloeelhaaZWInv
import Derived.Test.YteddflcloeelhaaZWFootNe
namespace Go.Proofs.YteddflcloeelhaaW.PrintWords
open Go.RowKit
end Go.Proofs.YteddflcloeelhaaW.PrintWords
namespace Go.Proofs.YteddflcloeelhaaW.PrintLast
section
variable {ops : Array Oper} {a : Act} {o og : Oper} {g : Nat} {t : Tmp} {u : Bool}
end
end Go.Proofs.YteddflcloeelhaaW.PrintLast
