/- Subresultants, as determinants of rows. -/
import Derived.Test.YtfdjbmamidmgfaaGreatPK
set_option linter.unusedVariables false
namespace Go.Dt
theorem Dt_one (p:Po) (cols:Nat->Nat):Dt [p] cols=p (cols 0):=by
 have:=Dt_corner (p:=p) (X:=[]) (cols:=cols) (by simp);rw [this,show Dt [] (λc=>cols (c+1))=1 from rfl]; grind
end Go.Dt
