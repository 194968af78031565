-- Written by the session (wip/tools) for this claim: functions of the program as Lean functions, and their contracts.
import Derived.Test.YtbjoidhgcdcbgaaFArithx0
import Derived.Test.YtbjoidhgcdcbgaaFArithx1
import Derived.Test.YtbjoidhgcdcbgaaFArithx2
import Derived.Test.YtbjoidhgcdcbgaaFArithx3
import Derived.Test.YtbjoidhgcdcbgaaFArithx4
import Derived.Test.YtbjoidhgcdcbgaaFArithx5
namespace Go.Proofs.Ytbjoidhgcdcbgaa.FArith
open Go.RowKit Go.Proofs.YtbjoidhgcdcbgaaW.PrintWords Go.Proofs.YtbjoidhgcdcbgaaW.PrintLast Go.Proofs.YtbjoidhgcdcbgaaW.PrintMore
attribute [local go_sem] max2_int min2_int max_two min_two max_three min_three max_four min_four   -- for this text's walks alone
set_option linter.unusedVariables false
set_option linter.unusedSimpArgs false

end Go.Proofs.Ytbjoidhgcdcbgaa.FArith
