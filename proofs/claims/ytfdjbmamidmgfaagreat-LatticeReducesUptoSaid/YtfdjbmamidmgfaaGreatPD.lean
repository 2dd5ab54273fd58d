/- Polynomials over the integers: the loops' plain laws. -/
import Derived.Test.YtfdjbmamidmgfaaGreatPC
set_option linter.unusedVariables false
namespace Go.Py
theorem cf_range (n:Nat) (f:Nat->Int) (i:Nat):cf ((List.range n).map f) i=if i<n then f i else 0:=by
 by_cases h:i<n
 . rw [if_pos h,cf_lt (by simpa using h)]; simp
 . rw [if_neg h,cf_ge (by simpa using h)]
end Go.Py
