/- Polynomials over the integers: quotients; the plain laws. -/
import Derived.Test.YtfdjbmamidmgfaaPB
set_option linter.unusedVariables false
namespace Go.Py
open Classical in
noncomputable def pq (a b:List Int):Option (List Int):=if h:∃ q,Eqp a (mulL q b) then some (tr h.choose) else none
end Go.Py
