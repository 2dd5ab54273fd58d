/- Polynomials over the integers: a shift made in place; the plain laws. -/
import Derived.Test.YtfdjbmamidmgfaaGreatPD
set_option linter.unusedVariables false
namespace Go.Py
theorem cf_append (a b : List Int) (i : Nat) : cf (a ++ b) i = if i < a.length then cf a i else cf b (i - a.length) := by
 split
 · rename_i h
   rw [cf_lt (by simp; omega), cf_lt h, List.getElem_append_left h]
 · rename_i h
   by_cases hi : i < (a ++ b).length
   · have h2 : i - a.length < b.length := by simp at hi; omega
     rw [cf_lt hi, cf_lt h2, List.getElem_append_right (by omega)]
   · rw [cf_ge (by omega), cf_ge (by simp at hi; omega)]
end Go.Py
