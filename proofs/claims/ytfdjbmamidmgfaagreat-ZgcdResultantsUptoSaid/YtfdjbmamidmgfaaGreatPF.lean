/- Polynomials over the integers: the greatest common divisor; the plain laws. -/
import Derived.Test.YtfdjbmamidmgfaaGreatPE
set_option linter.unusedVariables false
namespace Go.Py
theorem ldL_eqp {a b : List Int} (h : Eqp a b) : ldL a = ldL b := by rw [ldL, ldL, tr_of_eqp h]
def gdZ (a b : List Int) : List Int := scL (Nat.gcd (gcL a) (gcL b) : Int) (gdL (ppL a) (ppL b))
end Go.Py
