/- The resultant: what it is, and when it is nothing. -/
import Derived.Test.YtfdjbmamidmgfaaPN
set_option linter.unusedVariables false
namespace Go.Dt
open Go.Py
end Go.Dt
