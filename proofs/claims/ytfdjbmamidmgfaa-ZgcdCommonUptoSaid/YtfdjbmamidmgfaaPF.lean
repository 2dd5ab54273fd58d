/- Polynomials over the integers: the greatest common divisor; the plain laws. -/
import Derived.Test.YtfdjbmamidmgfaaPE
set_option linter.unusedVariables false
namespace Go.Py

theorem ldL_eqp {a b : List Int} (h : Eqp a b) : ldL a = ldL b := by rw [ldL, ldL, tr_of_eqp h]
/-- The greatest common divisor. -/
def gdZ (a b : List Int) : List Int := scL (Nat.gcd (gcL a) (gcL b) : Int) (gdL (ppL a) (ppL b))
theorem gd_zero {a b : List Int} : Nat.gcd (gcL a) (gcL b) = 0 ↔ tr a = [] ∧ tr b = [] := by
  rw [Nat.gcd_eq_zero_iff, gcL_zero, gcL_zero]
end Go.Py

