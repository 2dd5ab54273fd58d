/- Polynomials over the integers: the greatest common divisor; the plain laws. -/
import Derived.Test.YtelkndcchjhgcaaPE
set_option linter.unusedVariables false
namespace Go.Py

theorem ldL_eqp {a b : List Int} (h : Eqp a b) : ldL a = ldL b := by rw [ldL, ldL, tr_of_eqp h]
end Go.Py

