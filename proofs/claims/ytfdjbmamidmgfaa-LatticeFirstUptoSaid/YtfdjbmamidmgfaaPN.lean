/- The row of subresultants: why its divisions leave no rest. -/
import Derived.Test.YtfdjbmamidmgfaaPM
import Derived.Test.YtfdjbmamidmgfaaPF
set_option linter.unusedVariables false
namespace Go.Dt
open Go.Py
end Go.Dt
