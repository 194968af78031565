-- Written by the session (wip/tools) for this claim: functions of the program as Lean functions, and their contracts.
import Derived.Test.YtbjoidhgcdcbgaaFSupplyx0
import Derived.Test.YtbjoidhgcdcbgaaFSupplyx1
import Derived.Test.YtbjoidhgcdcbgaaFSupplyx2
import Derived.Test.YtbjoidhgcdcbgaaFSupplyx3
import Derived.Test.YtbjoidhgcdcbgaaFSupplyx4
import Derived.Test.YtbjoidhgcdcbgaaFSupplyx5
import Derived.Test.YtbjoidhgcdcbgaaFSupplyx6
import Derived.Test.YtbjoidhgcdcbgaaFSupplyx7
import Derived.Test.YtbjoidhgcdcbgaaFSupplyx8
import Derived.Test.YtbjoidhgcdcbgaaFSupplyx9
namespace Go.Proofs.Ytbjoidhgcdcbgaa.FSupply
open Go.RowKit Go.Proofs.YtbjoidhgcdcbgaaW.PrintWords Go.Proofs.YtbjoidhgcdcbgaaW.PrintLast Go.Proofs.YtbjoidhgcdcbgaaW.PrintMore
attribute [local go_sem] max2_int min2_int max_two min_two max_three min_three max_four min_four   -- for this text's walks alone
set_option linter.unusedVariables false
set_option linter.unusedSimpArgs false

end Go.Proofs.Ytbjoidhgcdcbgaa.FSupply
