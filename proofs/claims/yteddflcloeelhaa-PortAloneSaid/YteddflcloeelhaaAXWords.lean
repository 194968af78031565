/- Laws of the walk beside the print's words: a cut with a capacity. No condition. -/
import Derived.Test.YteddflcloeelhaaAWMore
namespace Go.Proofs.YteddflcloeelhaaW.PrintWords
open Go.RowKit
section
variable {α : Type} {P : Program}
end
end Go.Proofs.YteddflcloeelhaaW.PrintWords
