/- Polynomials over the integers: a shift made in place; the plain laws. -/
import Derived.Test.YtfdjbmamidmgfaaPD
set_option linter.unusedVariables false
namespace Go.Py
end Go.Py
