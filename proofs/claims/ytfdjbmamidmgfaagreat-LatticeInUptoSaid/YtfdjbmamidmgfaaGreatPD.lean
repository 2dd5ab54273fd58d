/- Polynomials over the integers: the loops' plain laws. -/
import Derived.Test.YtfdjbmamidmgfaaGreatPC
set_option linter.unusedVariables false
namespace Go.Py
theorem cf_take (a:List Int) (n i:Nat):cf (a.take n) i=if i<n then cf a i else 0:=by
 by_cases h:i<n
 . rw [if_pos h];by_cases hi:i<a.length
   . rw [cf_lt (by simp; omega),cf_lt hi]; simp
   . rw [cf_ge (by simp; omega),cf_ge (by omega)]
 . rw [if_neg h,cf_ge (by simp; omega)]
theorem ext_cf {a b:List Int} (hl:a.length=b.length) (h:Eqp a b):a=b:=by
 apply List.ext_getElem hl;intro i h1 h2;rw [<- cf_lt h1,<-cf_lt h2,h i]
theorem cf_range (n:Nat) (f:Nat->Int) (i:Nat):cf ((List.range n).map f) i=if i<n then f i else 0:=by
 by_cases h:i<n
 . rw [if_pos h,cf_lt (by simpa using h)]; simp
 . rw [if_neg h,cf_ge (by simpa using h)]
end Go.Py
