/- The row of subresultants: why its divisions leave no rest. -/
import Derived.Test.YtfdjbmamidmgfaaGreatPM
import Derived.Test.YtfdjbmamidmgfaaGreatPF
set_option linter.unusedVariables false
namespace Go.Dt
open Go.Py
end Go.Dt
