/- Polynomials over the integers: shifts, contents, quotients; the plain laws. -/
import Derived.Test.YtfdjbmamidmgfaaPA
set_option linter.unusedVariables false
namespace Go.Py
end Go.Py
