/- Polynomials over the integers: rests of so many times a polynomial, common divisors; the plain laws. -/
import Derived.Test.YtfdjbmamidmgfaaPD
set_option linter.unusedVariables false
namespace Go.Py
theorem scL_eqp_mul (c:Int) (a:List Int):Eqp (scL c a) (mulL [c] a):=fun i=>by
 show _=cf (addL (scL c a) (0::mulL [] a)) i;rw [cf_addL,mulL]; cases i<;>simp
def Dv (d a:List Int):Prop:=∃ q,Eqp a (mulL q d)
theorem Dv.eqp {d a b:List Int} (h:Dv d a) (e:Eqp a b):Dv d b:=by
 obtain ⟨q,hq⟩:=h;exact ⟨q,e.symm.trans hq⟩
theorem Dv.add {d a b:List Int} (h:Dv d a) (g:Dv d b):Dv d (addL a b):=by
 obtain ⟨q,hq⟩:=h;obtain ⟨p,hp⟩:=g;exact ⟨addL q p,(eqp_addL hq hp).trans (mulL_addL_left q p d).symm⟩
theorem Dv.mul {d a:List Int} (h:Dv d a) (c:List Int):Dv d (mulL c a):=by
 obtain ⟨q,hq⟩:=h;exact ⟨mulL c q,(eqp_mulL_right hq c).trans (mulL_assoc c q d).symm⟩
theorem Dv.sc {d a:List Int} (h:Dv d a) (c:Int):Dv d (scL c a):=(h.mul [c]).eqp (scL_eqp_mul c a).symm
theorem Dv.zero {d a:List Int} (h:tr a=[]):Dv d a:=⟨[],fun i=>by rw [(tr_nil_iff a).1 h i,mulL]; simp⟩
end Go.Py
