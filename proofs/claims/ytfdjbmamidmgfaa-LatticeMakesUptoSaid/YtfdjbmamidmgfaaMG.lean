/- Primes. -/
import Derived.Test.YtfdjbmamidmgfaaMF
import Derived.Test.YtfdjbmamidmgfaaS4
import Derived.Test.YtfdjbmamidmgfaaME
import Derived.Test.YtfdjbmamidmgfaaS5
set_option linter.unusedVariables false
set_option linter.unusedSimpArgs false
namespace Go.Vw
open Go.Proofs
attribute [local simp] zv V.fits fillOk fillV Z_eq
attribute [local simp] rv Q_eq
end Go.Vw
