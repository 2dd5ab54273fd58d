/- Polynomials over the integers: the greatest common divisor; the plain laws. -/
import Derived.Test.YtfdjbmamidmgfaaPE
set_option linter.unusedVariables false
namespace Go.Py
end Go.Py
