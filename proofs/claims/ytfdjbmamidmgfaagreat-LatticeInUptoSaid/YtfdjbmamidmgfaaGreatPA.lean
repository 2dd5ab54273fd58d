/- Polynomials over the integers, as lists of coefficients: the plain laws. -/
set_option linter.unusedVariables false
namespace Go.Py
def cf (l:List Int) (i:Nat):Int:=l.getD i 0
@[simp] theorem cf_nil (i:Nat):cf [] i=0:=by simp [cf]
@[simp] theorem cf_zero (x:Int) (l:List Int):cf (x::l) 0=x:=by simp [cf]
@[simp] theorem cf_succ (x:Int) (l:List Int) (i:Nat):cf (x::l) (i+1)=cf l i:=by simp [cf]
theorem cf_ge {l:List Int} {i:Nat} (h:l.length<=i):cf l i=0:=by simp [cf,List.getD_eq_getElem?_getD,List.getElem?_eq_none h]
theorem cf_lt {l:List Int} {i:Nat} (h:i<l.length):cf l i=l[i]:=by simp [cf,List.getD_eq_getElem?_getD,List.getElem?_eq_getElem h]
def Eqp (a b:List Int):Prop:=∀ i,cf a i=cf b i
theorem Eqp.rfl' {a:List Int}:Eqp a a:=λ_=>rfl
theorem Eqp.symm {a b:List Int} (h:Eqp a b):Eqp b a:=λi=>(h i).symm
theorem eqp_cons {x:Int} {a b:List Int} (h:Eqp a b):Eqp (x::a) (x::b):=λi=>by cases i<;>simp [h _]
def tr:List Int->List Int
 | []=>[]
 | x::r=>if tr r=[] then (if x=0 then [] else [x]) else x::tr r
theorem cf_tr (l:List Int):Eqp (tr l) l:=by
 induction l with
 | nil=>exact Eqp.rfl'
 | cons x r ih=>
  rw [tr];split
  . rename_i h;rw [h] at ih;split
    . rename_i h0;subst h0;intro i; cases i<;>simp [<- ih _]
    . intro i; cases i<;>simp [<- ih _]
  . exact eqp_cons ih
theorem tr_len (l:List Int):(tr l).length<=l.length:=by
 induction l with
 | nil=>simp [tr]
 | cons x r ih=>
  rw [tr];split
  . split<;>simp
  . simp; exact ih
theorem tr_nil_iff (l:List Int):tr l=[]↔∀ i,cf l i=0:=by
 constructor
 . intro h i;have:=cf_tr l i;rw [h] at this
   simpa using this.symm
 . induction l with
   | nil=>intro _; rfl
   | cons x r ih=>
    intro h;have hx:x=0:=by simpa using h 0
    have hr:=ih (λi=>by simpa using h (i+1));rw [tr,if_pos hr,if_pos hx]
theorem tr_take {l:List Int} {m:Nat} (hm:m<=l.length) (h0:∀ i,m<=i->cf l i=0) (h1:m=0\/cf l (m-1)≠0):tr l=l.take m:=by
 induction l generalizing m with
 | nil=>simp [tr]
 | cons x r ih=>
  cases m with
  | zero=>rw [List.take_zero]; exact (tr_nil_iff _).2 (λi=>h0 i (by omega))
  | succ m=>
   have hr:tr r=r.take m:=by
    refine ih (by simpa using hm) (λi hi=>by simpa using h0 (i+1) (by omega)) ?_;cases m with
    | zero=>exact .inl rfl
    | succ m=>
     right;rcases h1 with h1 | h1
     . omega
     . simpa using h1
   rw [tr,hr];cases m with
   | zero=>
    rcases h1 with h1 | h1
    . omega
    . simp at h1 ⊢; exact h1
   | succ m=>
    cases r with
    | nil=>simp at hm
    | cons y r=>simp
end Go.Py
