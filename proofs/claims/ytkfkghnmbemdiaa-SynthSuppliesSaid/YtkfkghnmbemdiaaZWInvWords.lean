/- Words of the kit's print (print.sh), trimmed to what this claim names (wip/tools/pack.py). No condition. -/
import Derived.Test.YtkfkghnmbemdiaaZWInv
import Derived.Test.YtkfkghnmbemdiaaZWFootNe
namespace Go.Proofs.YtkfkghnmbemdiaaW.PrintWords
open Go.RowKit
end Go.Proofs.YtkfkghnmbemdiaaW.PrintWords
namespace Go.Proofs.YtkfkghnmbemdiaaW.PrintLast
section
variable {ops : Array Oper} {a : Act} {o og : Oper} {g : Nat} {t : Tmp} {u : Bool}
end
end Go.Proofs.YtkfkghnmbemdiaaW.PrintLast
