/- Polynomials over the integers, as lists of coefficients: the plain laws. -/
set_option linter.unusedVariables false
namespace Go.Py
def cf (l:List Int) (i:Nat):Int:=l.getD i 0
@[simp] theorem cf_nil (i:Nat):cf [] i=0:=by simp [cf]
@[simp] theorem cf_zero (x:Int) (l:List Int):cf (x::l) 0=x:=by simp [cf]
@[simp] theorem cf_succ (x:Int) (l:List Int) (i:Nat):cf (x::l) (i+1)=cf l i:=by simp [cf]
theorem cf_ge {l:List Int} {i:Nat} (h:l.length<=i):cf l i=0:=by simp [cf,List.getD_eq_getElem?_getD,List.getElem?_eq_none h]
theorem cf_lt {l:List Int} {i:Nat} (h:i<l.length):cf l i=l[i]:=by simp [cf,List.getD_eq_getElem?_getD,List.getElem?_eq_getElem h]
end Go.Py
