/- Polynomials over the integers, as lists of coefficients: the plain laws. -/
set_option linter.unusedVariables false
namespace Go.Py
def cf (l:List Int) (i:Nat):Int:=l.getD i 0
@[simp] theorem cf_nil (i:Nat):cf [] i=0:=by simp [cf]
@[simp] theorem cf_zero (x:Int) (l:List Int):cf (x::l) 0=x:=by simp [cf]
@[simp] theorem cf_succ (x:Int) (l:List Int) (i:Nat):cf (x::l) (i+1)=cf l i:=by simp [cf]
theorem cf_ge {l:List Int} {i:Nat} (h:l.length<=i):cf l i=0:=by simp [cf,List.getD_eq_getElem?_getD,List.getElem?_eq_none h]
theorem cf_lt {l:List Int} {i:Nat} (h:i<l.length):cf l i=l[i]:=by simp [cf,List.getD_eq_getElem?_getD,List.getElem?_eq_getElem h]
def Eqp (a b:List Int):Prop:=∀ i,cf a i=cf b i
theorem Eqp.rfl' {a:List Int}:Eqp a a:=fun _=>rfl
theorem Eqp.symm {a b:List Int} (h:Eqp a b):Eqp b a:=fun i=>(h i).symm
theorem Eqp.trans {a b c:List Int} (h:Eqp a b) (g:Eqp b c):Eqp a c:=fun i=>(h i).trans (g i)
theorem eqp_cons {x:Int} {a b:List Int} (h:Eqp a b):Eqp (x::a) (x::b):=fun i=>by cases i<;>simp [h _]
theorem eqp_tail {x y:Int} {a b:List Int} (h:Eqp (x::a) (y::b)):x=y/\Eqp a b:=⟨by simpa using h 0,fun i=>by simpa using h (i+1)⟩
def tr:List Int->List Int
 | []=>[]
 | x::r=>if tr r=[] then (if x=0 then [] else [x]) else x::tr r
theorem cf_tr (l:List Int):Eqp (tr l) l:=by
 induction l with
 | nil=>exact Eqp.rfl'
 | cons x r ih=>
  rw [tr];split
  . rename_i h;rw [h] at ih;split
    . rename_i h0;subst h0;intro i; cases i<;>simp [<- ih _]
    . intro i; cases i<;>simp [<- ih _]
  . exact eqp_cons ih
theorem tr_nil_iff (l:List Int):tr l=[]↔∀ i,cf l i=0:=by
 constructor
 . intro h i;have:=cf_tr l i;rw [h] at this
   simpa using this.symm
 . induction l with
   | nil=>intro _; rfl
   | cons x r ih=>
    intro h;have hx:x=0:=by simpa using h 0
    have hr:=ih (fun i=>by simpa using h (i+1));rw [tr,if_pos hr,if_pos hx]
theorem tr_of_eqp:∀ {a b:List Int},Eqp a b->tr a=tr b
 | [],b,h=>by
  rw [tr,(tr_nil_iff b).2 (fun i=>by rw [<- h i]; simp)]
 | x::a,[],h=>by
  rw [(tr_nil_iff (x::a)).2 (fun i=>by rw [h i]; simp),tr]
 | x::a,y::b,h=>by
  obtain ⟨rfl,ht⟩:=eqp_tail h;rw [tr,tr,tr_of_eqp ht]
theorem tr_last:∀ (l:List Int),tr l≠[]->cf (tr l) ((tr l).length-1)≠0
 | [],h=>absurd rfl h
 | x::r,h=>by
  rw [tr] at h ⊢;by_cases hr:tr r=[]
  . rw [if_pos hr] at h ⊢;by_cases hx:x=0
    . rw [if_pos hx] at h; exact absurd rfl h
    . rw [if_neg hx]; simpa using hx
  . rw [if_neg hr];have ih:=tr_last r hr;have hl:0<(tr r).length:=List.length_pos_iff.2 hr;rw [List.length_cons,Nat.add_sub_cancel,show (tr r).length=((tr r).length-1)+1 by omega,cf_succ];exact ih
def addL:List Int->List Int->List Int
 | [],b=>b
 | x::a,[]=>x::a
 | x::a,y::b=>(x+y)::addL a b
theorem cf_addL:∀ (a b:List Int) (i:Nat),cf (addL a b) i=cf a i+cf b i
 | [],b,i=>by simp [addL]
 | x::a,[],i=>by simp [addL]
 | x::a,y::b,0=>by simp [addL]
 | x::a,y::b,i+1=>by simp [addL,cf_addL a b i]
def scL (c:Int) (a:List Int):List Int:=a.map (c* ·)
theorem cf_scL (c:Int) (a:List Int) (i:Nat):cf (scL c a) i=c*cf a i:=by
 induction a generalizing i with
 | nil=>simp [scL]
 | cons x a ih=>cases i with
  | zero=>simp [scL]
  | succ i=>simpa [scL] using ih i
def mulL:List Int->List Int->List Int
 | [],_=>[]
 | x::a,b=>addL (scL x b) (0::mulL a b)
theorem cf_mulL_zero (x:Int) (a b:List Int):cf (mulL (x::a) b) 0=x*cf b 0:=by simp [mulL,cf_addL,cf_scL]
theorem cf_mulL_succ (x:Int) (a b:List Int) (i:Nat):cf (mulL (x::a) b) (i+1)=x*cf b (i+1)+cf (mulL a b) i:=by simp [mulL,cf_addL,cf_scL]
theorem eqp_addL {a b c d:List Int} (h:Eqp a b) (g:Eqp c d):Eqp (addL a c) (addL b d):=fun i=>by rw [cf_addL,cf_addL,h i,g i]
theorem eqp_scL {a b:List Int} (c:Int) (h:Eqp a b):Eqp (scL c a) (scL c b):=fun i=>by rw [cf_scL,cf_scL,h i]
theorem eqp_mulL_right {b c:List Int} (h:Eqp b c):∀ a:List Int,Eqp (mulL a b) (mulL a c)
 | []=>Eqp.rfl'
 | x::a=>by
  rw [mulL,mulL];exact eqp_addL (eqp_scL x h) (eqp_cons (eqp_mulL_right h a))
theorem mulL_zeros {a:List Int} (h:∀ i,cf a i=0) (b:List Int):∀ i,cf (mulL a b) i=0:=by
 induction a with
 | nil=>intro i; simp [mulL]
 | cons x a ih=>
  have hx:x=0:=by simpa using h 0
  have hr:=ih (fun i=>by simpa using h (i+1));intro i;cases i with
  | zero=>rw [cf_mulL_zero,hx,Int.zero_mul]
  | succ i=>rw [cf_mulL_succ,hx,Int.zero_mul,hr i]; rfl
theorem eqp_mulL_left:∀ {a b:List Int} (c:List Int),Eqp a b->Eqp (mulL a c) (mulL b c)
 | [],b,c,h=>fun i=>by rw [mulL,mulL_zeros (fun i=>by rw [<- h i]; simp)]; simp
 | x::a,[],c,h=>fun i=>by rw [mulL_zeros (a:=x::a) (fun i=>by rw [h i]; simp)]; simp [mulL]
 | x::a,y::b,c,h=>by
  obtain ⟨rfl,ht⟩:=eqp_tail h;rw [mulL,mulL];exact eqp_addL Eqp.rfl' (eqp_cons (eqp_mulL_left c ht))
theorem mulL_nil (a:List Int):Eqp (mulL a []) []:=by
 induction a with
 | nil=>exact Eqp.rfl'
 | cons x a ih=>intro i; cases i with
  | zero=>rw [cf_mulL_zero]; simp
  | succ i=>rw [cf_mulL_succ,ih i]; simp
theorem mulL_cons (a:List Int) (y:Int) (b:List Int):Eqp (mulL a (y::b)) (addL (scL y a) (0::mulL a b)):=by
 induction a with
 | nil=>intro i; cases i<;>simp [mulL,addL,scL]
 | cons x a ih=>
  intro i;cases i with
  | zero=>rw [cf_mulL_zero]; simp [cf_addL,cf_scL,Int.mul_comm]
  | succ i=>
   rw [cf_mulL_succ,ih i,cf_addL,cf_addL,cf_scL,cf_scL,cf_succ,cf_succ,cf_succ];cases i with
   | zero=>rw [cf_mulL_zero,cf_zero]; omega
   | succ i=>rw [cf_mulL_succ,cf_succ]; omega
theorem mulL_comm (a b:List Int):Eqp (mulL a b) (mulL b a):=by
 induction a with
 | nil=>exact (mulL_nil b).symm
 | cons x a ih=>
  refine Eqp.trans ?_ (mulL_cons b x a).symm;rw [mulL];exact eqp_addL Eqp.rfl' (eqp_cons ih)
theorem mulL_addL_left:∀ (a b c:List Int),Eqp (mulL (addL a b) c) (addL (mulL a c) (mulL b c))
 | [],b,c=>fun i=>by simp [addL,mulL]
 | x::a,[],c=>fun i=>by rw [cf_addL]; simp [addL,mulL]
 | x::a,y::b,c=>fun i=>by
  cases i with
  | zero=>rw [addL,cf_mulL_zero,cf_addL,cf_mulL_zero,cf_mulL_zero,Int.add_mul]
  | succ i=>rw [addL,cf_mulL_succ,cf_addL,cf_mulL_succ,cf_mulL_succ,mulL_addL_left a b c i,cf_addL,Int.add_mul]; omega
theorem mulL_scL (c:Int) (a b:List Int):Eqp (mulL (scL c a) b) (scL c (mulL a b)):=by
 induction a with
 | nil=>exact Eqp.rfl'
 | cons x a ih=>
  intro i;show cf (mulL ((c*x)::scL c a) b) i=_;cases i with
  | zero=>rw [cf_mulL_zero,cf_scL,cf_mulL_zero,Int.mul_assoc]
  | succ i=>rw [cf_mulL_succ,cf_scL,cf_mulL_succ,ih i,cf_scL,Int.mul_add,Int.mul_assoc]
theorem mulL_shift (a b:List Int):Eqp (mulL (0::a) b) (0::mulL a b):=fun i=>by
 cases i with
 | zero=>rw [cf_mulL_zero]; simp
 | succ i=>rw [cf_mulL_succ]; simp
theorem mulL_assoc (a b c:List Int):Eqp (mulL (mulL a b) c) (mulL a (mulL b c)):=by
 induction a with
 | nil=>exact Eqp.rfl'
 | cons x a ih=>
  show Eqp (mulL (addL (scL x b) (0::mulL a b)) c) (addL (scL x (mulL b c)) (0::mulL a (mulL b c)));exact (mulL_addL_left _ _ _).trans (eqp_addL (mulL_scL x b c) ((mulL_shift _ _).trans (eqp_cons ih)))
def evL (x:Int):List Int->Int
 | []=>0
 | c::a=>c+x*evL x a
theorem evL_zeros {x:Int} {a:List Int} (h:∀ i,cf a i=0):evL x a=0:=by
 induction a with
 | nil=>rfl
 | cons c a ih=>
  have hc:c=0:=by simpa using h 0
  rw [evL,hc,ih (fun i=>by simpa using h (i+1))]; simp
theorem evL_eqp (x:Int):∀ {a b:List Int},Eqp a b->evL x a=evL x b
 | [],b,h=>by rw [evL_zeros (a:=b) (fun i=>by rw [<- h i]; simp)]; rfl
 | c::a,[],h=>by rw [evL_zeros (a:=c::a) (fun i=>by rw [h i]; simp)]; rfl
 | c::a,d::b,h=>by
  obtain ⟨rfl,ht⟩:=eqp_tail h;rw [evL,evL,evL_eqp x ht]
theorem evL_addL (x:Int):∀ a b:List Int,evL x (addL a b)=evL x a+evL x b
 | [],b=>by simp [addL,evL]
 | c::a,[]=>by simp [addL,evL]
 | c::a,d::b=>by rw [addL,evL,evL,evL,evL_addL x a b,Int.mul_add]; omega
theorem evL_scL (x c:Int) (a:List Int):evL x (scL c a)=c*evL x a:=by
 induction a with
 | nil=>simp [scL,evL]
 | cons d a ih=>
  show (c*d)+x*evL x (scL c a)=_;rw [ih,evL]; grind
theorem evL_mulL (x:Int) (a b:List Int):evL x (mulL a b)=evL x a*evL x b:=by
 induction a with
 | nil=>simp [mulL,evL]
 | cons c a ih=>rw [mulL,evL_addL,evL_scL,evL,evL,ih]; grind
theorem cf_mulL_top:∀ (a b:List Int) (n m:Nat),(∀ i,n<i->cf a i=0)->(∀ i,m<i->cf b i=0)->cf (mulL a b) (n+m)=cf a n*cf b m/\∀ i,n+m<i->cf (mulL a b) i=0
 | [],b,n,m,ha,hb=>by simp [mulL]
 | x::a,b,0,m,ha,hb=>by
  have hz:∀ i,cf a i=0:=fun i=>by simpa using ha (i+1) (by omega)
  have hm:=mulL_zeros hz b;rw [Nat.zero_add,cf_zero];constructor
  . cases m with
    | zero=>rw [cf_mulL_zero]
    | succ m=>rw [cf_mulL_succ,hm]; omega
  . intro i hi;cases i with
    | zero=>omega
    | succ i=>rw [cf_mulL_succ,hm,hb _ hi,Int.mul_zero]; rfl
 | x::a,b,n+1,m,ha,hb=>by
  obtain ⟨h1,h2⟩:=cf_mulL_top a b n m (fun i hi=>by simpa using ha (i+1) (by omega)) hb;constructor
  . rw [show n+1+m=(n+m)+1 by omega,cf_mulL_succ,h1,cf_succ,hb _ (by omega),Int.mul_zero,Int.zero_add]
  . intro i hi;cases i with
    | zero=>omega
    | succ i=>rw [cf_mulL_succ,h2 i (by omega),hb _ (by omega),Int.mul_zero]; rfl
theorem tr_mulL_nil {a b:List Int}:tr (mulL a b)=[]↔tr a=[]\/tr b=[]:=by
 constructor
 . intro h;by_cases ha:tr a=[]
   . exact .inl ha
   . by_cases hb:tr b=[]
     . exact .inr hb
     . exfalso;have e:Eqp (mulL a b) (mulL (tr a) (tr b)):=(eqp_mulL_left b (cf_tr a).symm).trans (eqp_mulL_right (cf_tr b).symm _);have la:=List.length_pos_iff.2 ha;have lb:=List.length_pos_iff.2 hb;have t:=(cf_mulL_top (tr a) (tr b) ((tr a).length-1) ((tr b).length-1) (fun i hi=>cf_ge (by omega)) (fun i hi=>cf_ge (by omega))).1;have z:=(tr_nil_iff _).1 h ((tr a).length-1+((tr b).length-1));rw [e,t] at z;rcases Int.mul_eq_zero.1 z with z | z
       . exact tr_last a ha z
       . exact tr_last b hb z
 . rintro (h | h)
   . exact (tr_nil_iff _).2 (mulL_zeros ((tr_nil_iff _).1 h) b)
   . refine (tr_nil_iff _).2 fun i=>?_;rw [mulL_comm a b i];exact mulL_zeros ((tr_nil_iff _).1 h) a i
theorem tr_len_of {l:List Int} {n:Nat} (h:cf l n≠0) (hz:∀ i,n<i->cf l i=0):(tr l).length=n+1:=by
 have hn:tr l≠[]:=fun e=>h ((tr_nil_iff l).1 e n);have hl:=List.length_pos_iff.2 hn;have h1:=tr_last l hn;rw [cf_tr l] at h1;rcases Nat.lt_trichotomy ((tr l).length-1) n with h2 | h2 | h2
 . have:=cf_ge (l:=tr l) (i:=n) (by omega);rw [cf_tr l] at this;exact absurd this h
 . omega
 . exact absurd (hz _ h2) h1
theorem tr_mulL_len {a b:List Int} (ha:tr a≠[]) (hb:tr b≠[]):(tr (mulL a b)).length=(tr a).length+(tr b).length-1:=by
 have e:Eqp (mulL a b) (mulL (tr a) (tr b)):=(eqp_mulL_left b (cf_tr a).symm).trans (eqp_mulL_right (cf_tr b).symm _);have la:=List.length_pos_iff.2 ha;have lb:=List.length_pos_iff.2 hb;obtain ⟨t1,t2⟩:=cf_mulL_top (tr a) (tr b) ((tr a).length-1) ((tr b).length-1) (fun i hi=>cf_ge (by omega)) (fun i hi=>cf_ge (by omega));have:=tr_len_of (l:=mulL a b) (n:=(tr a).length-1+((tr b).length-1)) (by
  rw [e,t1];intro z;rcases Int.mul_eq_zero.1 z with z | z
  . exact tr_last a ha z
  . exact tr_last b hb z) (fun i hi=>by rw [e,t2 i hi])
 omega
end Go.Py
