/- Words of the kit's print (print.sh), trimmed to what this claim names (wip/tools/pack.py). No condition. -/
import Derived.Test.YteddflcloeelhaaAWWords
import Derived.Laws.StructEq
/-! ### 53. '==' of structs as_ one Bool -/
namespace Go.Proofs.YteddflcloeelhaaW.PrintWords
open Go.RowKit
section
variable {P : Program} {d : Nat} {xs ys : Array Value} {f : Field} {fs : List Field} {a b : Value} {r s : Bool} {w : World}
end
end Go.Proofs.YteddflcloeelhaaW.PrintWords
