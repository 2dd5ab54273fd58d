/- Numbers as lists of digits: plain laws. -/
namespace Go.Nm
def val (B:Nat):List Nat->Nat
 | []=>0
 | x::r=>x+B*val B r
def trim:List Nat->List Nat
 | []=>[]
 | x::r=>match trim r with
  | []=>if x=0 then [] else [x]
  | t=>x::t
def digF (B:Nat):Nat->Nat->List Nat
 | 0,_=>[]
 | f+1,n=>if n=0 then [] else n%B::digF B f (n / B)
def dig (B n:Nat):List Nat:=digF B n n
def Dl (B:Nat) (l:List Nat):Prop:=∀ x∈l,x<B
theorem Dl.nil (B:Nat):Dl B []:=λx hx=>by cases hx
theorem Dl.cons {B x:Nat} {l:List Nat} (h:x<B) (hl:Dl B l):Dl B (x::l):=λy hy=>by
 rcases List.mem_cons.1 hy with rfl | hy
 . exact h
 . exact hl y hy
theorem Dl.head {B x:Nat} {l:List Nat} (h:Dl B (x::l)):x<B:=h x (by simp)
theorem Dl.tail {B x:Nat} {l:List Nat} (h:Dl B (x::l)):Dl B l:=λy hy=>h y (by simp [hy])
theorem Dl.append {B:Nat} {a b:List Nat} (h:Dl B a) (k:Dl B b):Dl B (a++b):=λy hy=>by
 rcases List.mem_append.1 hy with hy | hy
 . exact h y hy
 . exact k y hy
theorem Dl.get {B:Nat} {l:List Nat} (h:Dl B l) (hB:0<B) (k:Nat):l.getD k 0<B:=by
 by_cases hk:k<l.length
 . simp only [List.getD,List.getElem?_eq_getElem hk,Option.getD_some]; exact h _ (List.getElem_mem hk)
 . simp [List.getD,List.getElem?_eq_none (Nat.le_of_not_lt hk),hB]
theorem Dl.take {B:Nat} {l:List Nat} (h:Dl B l) (k:Nat):Dl B (l.take k):=λy hy=>h y (List.mem_of_mem_take hy)
theorem Dl.drop {B:Nat} {l:List Nat} (h:Dl B l) (k:Nat):Dl B (l.drop k):=λy hy=>h y (List.mem_of_mem_drop hy)
theorem Dl.replicate {B:Nat} (hB:0<B) (k:Nat):Dl B (List.replicate k 0):=λy hy=>by rw [List.eq_of_mem_replicate hy]; exact hB
theorem val_append (B:Nat):∀ (a b:List Nat),val B (a++b)=val B a+B^a.length*val B b
 | [],b=>by simp [val]
 | x::a,b=>by
  simp only [List.cons_append,val,val_append B a b,List.length_cons,Nat.pow_succ,Nat.mul_add,Nat.add_assoc];congr 2;rw [<- Nat.mul_assoc,Nat.mul_comm B]
theorem val_replicate (B:Nat):∀ k,val B (List.replicate k 0)=0
 | 0=>rfl
 | k+1=>by simp [List.replicate_succ,val,val_replicate B k]
theorem val_lt {B:Nat}:∀ {l:List Nat},Dl B l->val B l<B^l.length
 | [],_=>by simp [val]
 | x::r,h=>by
  have ih:=val_lt h.tail;have hx:=h.head;simp only [val,List.length_cons,Nat.pow_succ]
  calc x+B*val B r<B+B*val B r:=by omega
   _=B*(val B r+1):=by rw [Nat.mul_add]; omega
   _<=B*B^r.length:=Nat.mul_le_mul_left _ ih
   _=B^r.length*B:=Nat.mul_comm _ _
theorem digF_fuel {B:Nat} (hB:2<=B):∀ (f g n:Nat),n<=f->n<=g->digF B f n=digF B g n
 | 0,0,n,_,_=>rfl
 | 0,g+1,n,h,_=>by have:n=0:=by omega
                   subst this; simp [digF]
 | f+1,0,n,_,h=>by have:n=0:=by omega
                   subst this; simp [digF]
 | f+1,g+1,n,h,k=>by
  simp only [digF];by_cases hn:n=0
  . simp [hn]
  . have hlt:n / B<n:=Nat.div_lt_self (by omega) (by omega);rw [if_neg hn,if_neg hn,digF_fuel hB f g (n / B) (by omega) (by omega)]
theorem dig_zero (B:Nat):dig B 0=[]:=rfl
theorem dig_pos {B n:Nat} (hB:2<=B) (hn:0<n):dig B n=n%B::dig B (n / B):=by
 unfold dig;cases n with
 | zero=>omega
 | succ k=>
  have hlt:(k+1) / B<k+1:=Nat.div_lt_self (by omega) (by omega);simp only [digF];rw [if_neg (by omega),digF_fuel hB k ((k+1) / B) _ (by omega) (Nat.le_refl _)]
theorem val_dig {B:Nat} (hB:2<=B) (n:Nat):val B (dig B n)=n:=by
 induction n using Nat.strongRecOn with
 | _ n ih=>
  by_cases hn:n=0
  . subst hn; rfl
  . rw [dig_pos hB (by omega),val,ih _ (Nat.div_lt_self (by omega) (by omega))];exact Nat.mod_add_div n B
theorem dig_lt {B:Nat} (hB:2<=B) (n:Nat):Dl B (dig B n):=by
 induction n using Nat.strongRecOn with
 | _ n ih=>
  by_cases hn:n=0
  . subst hn; exact Dl.nil B
  . rw [dig_pos hB (by omega)];exact Dl.cons (Nat.mod_lt _ (by omega)) (ih _ (Nat.div_lt_self (by omega) (by omega)))
theorem trim_val (B:Nat):∀ l,val B (trim l)=val B l
 | []=>rfl
 | x::r=>by
  have ih:=trim_val B r;simp only [trim];split
  . rename_i h;rw [h] at ih;simp only [val] at ih;simp only [val];rw [<- ih,Nat.mul_zero,Nat.add_zero];split
    . rename_i h0; rw [h0]; rfl
    . simp [val]
  . simp only [val,ih]
theorem dig_val {B:Nat} (hB:2<=B):∀ {l:List Nat},Dl B l->dig B (val B l)=trim l
 | [],_=>rfl
 | x::r,h=>by
  have ih:=dig_val hB h.tail;have hx:=h.head;have hm:(x+B*val B r)%B=x:=by rw [Nat.add_mul_mod_self_left,Nat.mod_eq_of_lt hx]
  have hd:(x+B*val B r) / B=val B r:=by rw [Nat.add_mul_div_left _ _ (by omega),Nat.div_eq_of_lt hx]; omega
  simp only [val,trim];by_cases h0:x+B*val B r=0
  . have hx0:x=0:=by omega
    have hv:val B r=0:=by
     have:B*val B r=0:=by omega
     rcases Nat.mul_eq_zero.1 this with h | h<;>omega
    rw [h0,dig_zero];rw [hv,dig_zero] at ih;rw [<- ih]; simp [hx0]
  . rw [dig_pos hB (by omega),hm,hd,ih];split
    . rename_i ht;have hv:val B r=0:=by rw [<- trim_val,ht]; rfl
      rw [if_neg (by rw [hv] at h0; omega),ht]
    . rfl
theorem trim_length_le:∀ l,(trim l).length<=l.length
 | []=>Nat.le_refl _
 | x::r=>by
  have ih:=trim_length_le r;simp only [trim];split
  . split<;>simp
  . rename_i h;simp only [List.length_cons]; omega
theorem trim_take:∀ l,trim l=l.take (trim l).length
 | []=>rfl
 | x::r=>by
  have ih:=trim_take r;simp only [trim];split
  . split<;>simp_all
  . rename_i h;simp only [List.length_cons,List.take_succ_cons];rw [<- ih]
theorem trim_snoc_zero:∀ (l:List Nat),trim (l++[0])=trim l
 | []=>rfl
 | x::r=>by simp only [List.cons_append,trim,trim_snoc_zero r]
theorem trim_snoc:∀ (l:List Nat) {y:Nat},y≠0->trim (l++[y])=l++[y]
 | [],y,h=>by simp [trim,h]
 | x::r,y,h=>by
  simp only [List.cons_append,trim,trim_snoc r h];cases r<;>rfl
theorem dig_length_le {B:Nat} (hB:2<=B):∀ {n k:Nat},n<B^k->(dig B n).length<=k:=by
 intro n;induction n using Nat.strongRecOn with
 | _ n ih=>
  intro k hk;by_cases hn:n=0
  . subst hn; simp [dig_zero]
  . cases k with
    | zero=>simp at hk; omega
    | succ k=>
     rw [dig_pos hB (by omega),List.length_cons];have:=ih (n / B) (Nat.div_lt_self (by omega) (by omega)) (k:=k) (Nat.div_lt_of_lt_mul (by rw [Nat.pow_succ] at hk; rw [Nat.mul_comm]; exact hk));omega
theorem trim_dig {B:Nat} (hB:2<=B) (n:Nat):trim (dig B n)=dig B n:=by
 rw [<- dig_val hB (dig_lt hB n),val_dig hB]
theorem dig_nil {B n:Nat} (hB:2<=B):dig B n=[]↔n=0:=by
 constructor
 . intro h; rw [<- val_dig hB n,h]; rfl
 . rintro rfl; rfl
end Go.Nm
set_option linter.unusedVariables false
namespace Go.Nm
def pad (B:Nat):Nat->Nat->List Nat
 | 0,_=>[]
 | k+1,n=>n%B::pad B k (n / B)
theorem pad_length (B:Nat):∀ (k n:Nat),(pad B k n).length=k
 | 0,_=>rfl
 | k+1,n=>by simp [pad,pad_length B k]
theorem pad_lt {B:Nat} (hB:0<B):∀ (k n:Nat),Dl B (pad B k n)
 | 0,_=>Dl.nil B
 | k+1,n=>Dl.cons (Nat.mod_lt _ hB) (pad_lt hB k _)
theorem val_pad (B:Nat):∀ (k n:Nat),val B (pad B k n)=n%B^k
 | 0,n=>by simp [pad,val,Nat.mod_one]
 | k+1,n=>by
  simp only [pad,val,val_pad B k,Nat.pow_succ,Nat.mul_comm (B^k) B,Nat.mod_mul]
theorem pad_of {B:Nat} (hB:0<B):∀ {l:List Nat},Dl B l->∀ c,l=pad B l.length (val B l+B^l.length*c)
 | [],_,c=>rfl
 | x::r,h,c=>by
  have hx:=h.head;have e:x+B*val B r+B^(r.length+1)*c=x+B*(val B r+B^r.length*c):=by
   rw [Nat.pow_succ,Nat.mul_comm (B^r.length) B,Nat.mul_add,Nat.mul_assoc]; omega
  simp only [List.length_cons,pad,val,e];rw [Nat.add_mul_mod_self_left,Nat.mod_eq_of_lt hx,Nat.add_mul_div_left _ _ hB,Nat.div_eq_of_lt hx,Nat.zero_add,<-pad_of hB h.tail c]
theorem pad_unique {B:Nat} (hB:0<B) {l:List Nat} (h:Dl B l) {k c N:Nat} (hk:l.length=k) (hv:val B l+B^k*c=N):l=pad B k N/\c=N / B^k:=by
 subst hk; subst hv;refine ⟨pad_of hB h c,?_⟩;rw [Nat.add_mul_div_left _ _ (Nat.pow_pos hB),Nat.div_eq_of_lt (val_lt h),Nat.zero_add]
theorem trim_pad {B:Nat} (hB:2<=B) {k n:Nat} (h:n<B^k):trim (pad B k n)=dig B n:=by
 rw [<- dig_val hB (pad_lt (by omega) k n),val_pad,Nat.mod_eq_of_lt h]
theorem pad_snoc {B:Nat}:∀ (k n:Nat),pad B (k+1) n=pad B k n++[n / B^k%B]
 | 0,n=>by simp [pad]
 | k+1,n=>by
  rw [pad,pad_snoc k (n / B),pad,Nat.div_div_eq_div_mul,Nat.pow_succ,Nat.mul_comm B]; rfl
theorem pad_cat {B:Nat} (n:Nat) (k:Nat) (h:n / B^k<B):pad B k n++[n / B^k]=pad B (k+1) n:=by
 rw [pad_snoc,Nat.mod_eq_of_lt h]
theorem val_take_succ (B:Nat):∀ (l:List Nat) (k:Nat),val B (l.take (k+1))=val B (l.take k)+B^k*l.getD k 0
 | [],k=>by simp [val]
 | x::r,0=>by simp [val]
 | x::r,k+1=>by
  simp only [List.take_succ_cons,val,val_take_succ B r k,List.getD_cons_succ,Nat.mul_add,Nat.pow_succ,Nat.mul_comm (B^k) B,Nat.mul_assoc,Nat.add_assoc]
theorem val_drop (B:Nat):∀ (l:List Nat) (k:Nat),val B (l.drop k)=l.getD k 0+B*val B (l.drop (k+1))
 | [],k=>by simp [val]
 | x::r,0=>by simp [val]
 | x::r,k+1=>by simpa using val_drop B r k
theorem val_split (B:Nat) (l:List Nat) (k:Nat) (hk:k<=l.length):val B l=val B (l.take k)+B^k*val B (l.drop k):=by
 conv=>lhs; rw [<- List.take_append_drop k l,val_append]
 simp [Nat.min_eq_left hk]
def crun (F:Nat->Nat->Nat × Nat):Nat->List Nat × Nat
 | 0=>([],0)
 | k+1=>((crun F k).1++[(F k (crun F k).2).1],(F k (crun F k).2).2)
theorem crun_length (F:Nat->Nat->Nat × Nat):∀ k,(crun F k).1.length=k
 | 0=>rfl
 | k+1=>by simp [crun,crun_length F k]
def sumD (B:Nat) (D:Nat->Nat):Nat->Nat
 | 0=>0
 | k+1=>sumD B D k+B^k*D k
theorem sumD_get (B:Nat) (l:List Nat):∀ k,sumD B (λk=>l.getD k 0) k=val B (l.take k)
 | 0=>by simp [sumD,val]
 | k+1=>by rw [sumD,sumD_get B l k,val_take_succ]
theorem sumD_add (B:Nat) (D E:Nat->Nat):∀ k,sumD B (λk=>D k+E k) k=sumD B D k+sumD B E k
 | 0=>rfl
 | k+1=>by simp only [sumD,sumD_add B D E k,Nat.mul_add]; omega
theorem sumD_mul (B:Nat) (D:Nat->Nat) (x:Nat):∀ k,sumD B (λk=>D k*x) k=sumD B D k*x
 | 0=>by simp [sumD]
 | k+1=>by simp only [sumD,sumD_mul B D x k,Nat.add_mul,Nat.mul_assoc]
theorem crun_sum {B n:Nat} {F:Nat->Nat->Nat × Nat} {D:Nat->Nat} {I:Nat->Prop} (h0:I 0)
 (hF:∀ k c,k<n->I c->(F k c).1<B/\(F k c).1+B*(F k c).2=D k+c/\I (F k c).2):
 ∀ k,k<=n->Dl B (crun F k).1/\I (crun F k).2/\val B (crun F k).1+B^k*(crun F k).2=sumD B D k
 | 0,_=>⟨Dl.nil B,h0,by simp [crun,val,sumD]⟩
 | k+1,hk=>by
  obtain ⟨h1,h2,h3⟩:=crun_sum h0 hF k (by omega);obtain ⟨f1,f2,f3⟩:=hF k _ (by omega) h2;refine ⟨h1.append (Dl.cons f1 (Dl.nil B)),f3,?_⟩;simp only [crun,val_append,crun_length,val,sumD,Nat.mul_zero,Nat.add_zero];rw [<- h3,Nat.pow_succ,Nat.mul_assoc,Nat.add_assoc,<-Nat.mul_add,f2,Nat.mul_add]; omega
theorem crun_pad {B n:Nat} {F:Nat->Nat->Nat × Nat} {D:Nat->Nat} {I:Nat->Prop} (hB:0<B) (h0:I 0)
 (hF:∀ k c,k<n->I c->(F k c).1<B/\(F k c).1+B*(F k c).2=D k+c/\I (F k c).2):
 crun F n=(pad B n (sumD B D n),sumD B D n / B^n)/\I (sumD B D n / B^n):=by
 obtain ⟨h1,h2,h3⟩:=crun_sum h0 hF n (Nat.le_refl _);obtain ⟨p1,p2⟩:=pad_unique hB h1 (crun_length F n) h3;exact ⟨Prod.ext p1 p2,p2 ▸ h2⟩
theorem crun_inv {n:Nat} {F:Nat->Nat->Nat × Nat} {I:Nat->Prop} (h0:I 0) (hF:∀ k c,k<n->I c->I (F k c).2):∀ k,k<=n->I (crun F k).2
 | 0,_=>h0
 | k+1,hk=>hF k _ (by omega) (crun_inv h0 hF k (by omega))
def addF (B:Nat) (a b:List Nat) (k c:Nat):Nat × Nat:=((a.getD k 0+b.getD k 0+c)%B,(a.getD k 0+b.getD k 0+c) / B)
def subF (B:Nat) (a b:List Nat) (k c:Nat):Nat × Nat:=((a.getD k 0+B-b.getD k 0-c)%B,if a.getD k 0<b.getD k 0+c then 1 else 0)
def rowF (B:Nat) (a:List Nat) (x k c:Nat):Nat × Nat:=((a.getD k 0*x+c)%B,(a.getD k 0*x+c) / B)
theorem take_all {l:List Nat} {n:Nat} (h:l.length<=n):l.take n=l:=List.take_of_length_le h
theorem crun_add {B:Nat} (hB:2<=B) {a b:List Nat} (ha:Dl B a) (hb:Dl B b) {n:Nat} (h1:a.length<=n) (h2:b.length<=n):
 crun (addF B a b) n=(pad B n (val B a+val B b),(val B a+val B b) / B^n)/\(val B a+val B b) / B^n<=1:=by
 have:=crun_pad (B:=B) (n:=n) (F:=addF B a b) (D:=λk=>a.getD k 0+b.getD k 0) (I:=λc=>c<=1) (by omega) (by omega) λk c _ hc=>by
  have g1:=ha.get (by omega) k;have g2:=hb.get (by omega) k;refine ⟨Nat.mod_lt _ (by omega),Nat.mod_add_div _ _,?_⟩;simp only [addF];have:a.getD k 0+b.getD k 0+c<2*B:=by omega
  have:=Nat.div_lt_of_lt_mul (k:=2) (n:=B) (m:=a.getD k 0+b.getD k 0+c) (by omega);omega
 rw [sumD_add,sumD_get,sumD_get,take_all h1,take_all h2] at this;exact this
theorem add_carry (B:Nat) (a b:List Nat) (k c:Nat) (hB:2<=B) (ha:Dl B a) (hb:Dl B b) (hc:c<=1):(addF B a b k c).2<=1:=by
 have g1:=ha.get (by omega) k;have g2:=hb.get (by omega) k;simp only [addF];have:=Nat.div_lt_of_lt_mul (k:=2) (n:=B) (m:=a.getD k 0+b.getD k 0+c) (by omega);omega
theorem sub_carry (B:Nat) (a b:List Nat) (k c:Nat):(subF B a b k c).2<=1:=by
 simp only [subF]; split<;>omega
theorem sub_step {B x y c:Nat} (hx:x<B) (hy:y<B) (hc:c<=1):(x+B-y-c)%B+y+c=x+B*(if x<y+c then 1 else 0):=by
 by_cases h:x<y+c
 . rw [if_pos h,Nat.mod_eq_of_lt (by omega)]; omega
 . rw [if_neg h];have:(x+B-y-c)=(x-y-c)+B:=by omega
   rw [this,Nat.add_mod_right,Nat.mod_eq_of_lt (by omega)]; omega
theorem crun_sub_inv {B:Nat} (hB:2<=B) {a b:List Nat} (ha:Dl B a) (hb:Dl B b):
 ∀ k,Dl B (crun (subF B a b) k).1/\(crun (subF B a b) k).2<=1/\val B (crun (subF B a b) k).1+val B (b.take k)=val B (a.take k)+B^k*(crun (subF B a b) k).2
 | 0=>⟨Dl.nil B,by simp [crun],by simp [crun,val]⟩
 | k+1=>by
  obtain ⟨h1,h2,h3⟩:=crun_sub_inv hB ha hb k;have g1:=ha.get (by omega) k;have g2:=hb.get (by omega) k;have st:=sub_step g1 g2 h2;refine ⟨h1.append (Dl.cons (Nat.mod_lt _ (by omega)) (Dl.nil B)),sub_carry B _ _ _ _,?_⟩;simp only [crun,val_append,crun_length,val,Nat.mul_zero,Nat.add_zero,val_take_succ];rw [Nat.pow_succ,Nat.mul_assoc];have:B^k*(subF B a b k (crun (subF B a b) k).2).1+B^k*b.getD k 0+B^k*(crun (subF B a b) k).2=B^k*a.getD k 0+B^k*(B*(subF B a b k (crun (subF B a b) k).2).2):=by
   rw [<- Nat.mul_add,<-Nat.mul_add,<-Nat.mul_add]; exact congrArg _ st
  omega
theorem crun_sub {B:Nat} (hB:2<=B) {a b:List Nat} (ha:Dl B a) (hb:Dl B b) {n:Nat} (h1:a.length<=n) (h2:b.length<=n):
 (val B b<=val B a->crun (subF B a b) n=(pad B n (val B a-val B b),0))/\(val B a<val B b->(crun (subF B a b) n).2=1):=by
 obtain ⟨i1,i2,i3⟩:=crun_sub_inv hB ha hb n;rw [take_all h1,take_all h2] at i3;have hl:=crun_length (subF B a b) n;have hlt:=val_lt i1;rw [hl] at hlt;have hva:=val_lt ha;have hpa:B^a.length<=B^n:=Nat.pow_le_pow_right (by omega) h1;rcases Nat.le_one_iff_eq_zero_or_eq_one.1 i2 with hc | hc
 . rw [hc,Nat.mul_zero,Nat.add_zero] at i3;refine ⟨λh=>?_,λh=>by omega⟩;have:=pad_unique (c:=0) (N:=val B a-val B b) (by omega) i1 hl (by omega);exact Prod.ext this.1 hc
 . rw [hc,Nat.mul_one] at i3;exact ⟨λh=>by omega,λ_=>hc⟩
theorem row_carry {B:Nat} (hB:2<=B) {a:List Nat} (ha:Dl B a) {x:Nat} (hx:x<B) {k c:Nat} (hc:c<B):a.getD k 0*x+c<B*B:=by
 have g1:=ha.get (by omega) k;have h1:a.getD k 0*x<=(B-1)*(B-1):=Nat.mul_le_mul (by omega) (by omega);have h2:(B-1)*(B-1)+B<=B*B:=by
  obtain ⟨d,rfl⟩:∃ d,B=d+1:=⟨B-1,by omega⟩;simp only [Nat.add_sub_cancel,Nat.add_mul,Nat.mul_add,Nat.mul_one,Nat.one_mul]; omega
 omega
theorem crun_row {B:Nat} (hB:2<=B) {a:List Nat} (ha:Dl B a) {x:Nat} (hx:x<B):
 crun (rowF B a x) a.length=(pad B a.length (val B a*x),val B a*x / B^a.length)/\val B a*x / B^a.length<B:=by
 have:=crun_pad (B:=B) (n:=a.length) (F:=rowF B a x) (D:=λk=>a.getD k 0*x) (I:=λc=>c<B) (by omega) (by omega) λk c _ hc=>
  ⟨Nat.mod_lt _ (by omega),Nat.mod_add_div _ _,Nat.div_lt_of_lt_mul (row_carry hB ha hx hc)⟩
 rw [sumD_mul,sumD_get,take_all (Nat.le_refl _)] at this;exact this
def shlF (B s:Nat) (a:List Nat) (k c:Nat):Nat × Nat:=(a.getD k 0*2^s%B+c,a.getD k 0*2^s / B)
theorem crun_shl {s t:Nat} {a:List Nat} (ha:Dl (2^(s+t)) a):
 crun (shlF (2^(s+t)) s a) a.length=(pad (2^(s+t)) a.length (val (2^(s+t)) a*2^s),val (2^(s+t)) a*2^s / (2^(s+t))^a.length)/\val (2^(s+t)) a*2^s / (2^(s+t))^a.length<2^s:=by
 have hs:0<2^s:=Nat.pow_pos (by omega);have ht:0<2^t:=Nat.pow_pos (by omega);have hB:0<2^(s+t):=Nat.pow_pos (by omega);have hBe:2^(s+t)=2^s*2^t:=Nat.pow_add ..;have:=crun_pad (B:=2^(s+t)) (n:=a.length) (F:=shlF (2^(s+t)) s a) (D:=λk=>a.getD k 0*2^s) (I:=λc=>c<2^s) hB hs λk c _ hc=>by
  have g:=ha.get hB k;simp only [shlF];refine ⟨?_,?_,?_⟩
  . rw [hBe,Nat.mul_comm (a.getD k 0),Nat.mul_mod_mul_left];have:a.getD k 0%2^t+1<=2^t:=Nat.mod_lt _ ht
    calc 2^s*(a.getD k 0%2^t)+c<2^s*(a.getD k 0%2^t)+2^s:=by omega
     _=2^s*(a.getD k 0%2^t+1):=by rw [Nat.mul_add,Nat.mul_one]
     _<=2^s*2^t:=Nat.mul_le_mul_left _ this
  . have:=Nat.mod_add_div (a.getD k 0*2^s) (2^(s+t)); omega
  . exact Nat.div_lt_of_lt_mul (by rw [Nat.mul_comm (a.getD k 0)]; rw [Nat.mul_comm (2^(s+t))]; exact Nat.mul_lt_mul_of_pos_left g hs)
 rw [sumD_mul,sumD_get,take_all (Nat.le_refl _)] at this;exact this
def shrF (s t:Nat) (a:List Nat) (k:Nat):Nat:=a.getD k 0 / 2^s+a.getD (k+1) 0%2^s*2^t
theorem shr_sum {s t:Nat} (a:List Nat):∀ k,val (2^(s+t)) a / 2^s=sumD (2^(s+t)) (shrF s t a) k+(2^(s+t))^k*(val (2^(s+t)) (a.drop k) / 2^s)
 | 0=>by simp [sumD]
 | k+1=>by
  have hs:0<2^s:=Nat.pow_pos (by omega);rw [shr_sum a k,sumD,val_drop _ a k];have key:(a.getD k 0+2^(s+t)*val (2^(s+t)) (a.drop (k+1))) / 2^s=shrF s t a k+2^(s+t)*(val (2^(s+t)) (a.drop (k+1)) / 2^s):=by
   generalize hR:val (2^(s+t)) (a.drop (k+1))=R;have hm:a.getD (k+1) 0%2^s=R%2^s:=by
    rw [<- hR,val_drop _ a (k+1),Nat.pow_add,Nat.mul_assoc,Nat.add_mul_mod_self_left]
   rw [shrF,hm];have e1:2^(s+t)*R=2^s*(2^t*R):=by rw [Nat.pow_add,Nat.mul_assoc]
   rw [e1,Nat.add_mul_div_left _ _ hs];have e2:2^(s+t)*(R / 2^s)=2^t*(2^s*(R / 2^s)):=by rw [Nat.pow_add,Nat.mul_comm (2^s),Nat.mul_assoc]
   rw [e2,Nat.mul_comm (R%2^s),Nat.add_assoc,<-Nat.mul_add,Nat.mod_add_div]
  rw [key,Nat.mul_add,Nat.pow_succ,Nat.mul_assoc]; omega
theorem shrF_lt {s t:Nat} {a:List Nat} (ha:Dl (2^(s+t)) a) (k:Nat):shrF s t a k<2^(s+t):=by
 have hB:0<2^(s+t):=Nat.pow_pos (by omega);have hs:0<2^s:=Nat.pow_pos (by omega);have g:=ha.get hB k;have h1:a.getD k 0 / 2^s<2^t:=Nat.div_lt_of_lt_mul (by rw [<- Nat.pow_add]; exact g);have h2:a.getD (k+1) 0%2^s+1<=2^s:=Nat.mod_lt _ hs
 calc shrF s t a k<2^t+a.getD (k+1) 0%2^s*2^t:=by unfold shrF; omega
  _=(a.getD (k+1) 0%2^s+1)*2^t:=by rw [Nat.add_mul,Nat.one_mul,Nat.add_comm]
  _<=2^s*2^t:=Nat.mul_le_mul_right _ h2
  _=_:=(Nat.pow_add ..).symm
theorem crun_shr {s t:Nat} {a:List Nat} (ha:Dl (2^(s+t)) a):
 crun (λk _=>(shrF s t a k,0)) a.length=(pad (2^(s+t)) a.length (val (2^(s+t)) a / 2^s),0):=by
 have hB:0<2^(s+t):=Nat.pow_pos (by omega);have hs:=shr_sum (s:=s) (t:=t) a a.length;simp only [List.drop_length,val,Nat.zero_div,Nat.mul_zero,Nat.add_zero] at hs;have:=crun_pad (B:=2^(s+t)) (n:=a.length) (F:=λk _=>(shrF s t a k,0)) (D:=shrF s t a) (I:=λc=>c=0) hB rfl λk c _ hc=>
  ⟨shrF_lt ha k,by simp [hc],rfl⟩
 rw [<- hs] at this;rw [this.1,this.2]
theorem shr_lt {s t:Nat} {a:List Nat} (ha:Dl (2^(s+t)) a):val (2^(s+t)) a / 2^s<(2^(s+t))^a.length:=
 Nat.lt_of_le_of_lt (Nat.div_le_self _ _) (val_lt ha)
end Go.Nm
namespace Go.Nm
def digL (D:Nat) (a:List Nat):List Nat:=a.flatMap λx=>[x%D,x / D]
theorem digL_snoc (D:Nat) (a:List Nat) (x:Nat):digL D (a++[x])=digL D a++[x%D,x / D]:=by simp [digL]
theorem digL_length (D:Nat):∀ a,(digL D a).length=2*a.length
 | []=>rfl
 | x::r=>by
  have:=digL_length D r;simp only [digL,List.flatMap_cons,List.length_append,List.length_cons,List.length_nil] at this ⊢;omega
theorem val_digL (D:Nat):∀ a,val D (digL D a)=val (D*D) a
 | []=>rfl
 | x::r=>by
  have ih:=val_digL D r;simp only [digL,List.flatMap_cons,List.cons_append,List.nil_append,val] at ih ⊢;rw [ih,Nat.mul_add,<-Nat.add_assoc,Nat.mod_add_div,Nat.mul_assoc]
theorem digL_lt {D:Nat} (hD:0<D) {a:List Nat} (h:Dl (D*D) a):Dl D (digL D a):=by
 intro y hy;simp only [digL,List.mem_flatMap] at hy;obtain ⟨x,hx,hy⟩:=hy;have:=h x hx;rcases List.mem_cons.1 hy with rfl | hy
 . exact Nat.mod_lt _ hD
 . have hy':=List.mem_singleton.1 hy;subst hy';exact Nat.div_lt_of_lt_mul this
def limL (D:Nat) (d:List Nat) (j:Nat):List Nat:=(List.range j).map λi=>d.getD (2*i) 0+d.getD (2*i+1) 0*D
theorem limL_succ (D:Nat) (d:List Nat) (j:Nat):limL D d (j+1)=limL D d j++[d.getD (2*j) 0+d.getD (2*j+1) 0*D]:=by
 simp [limL,List.range_succ]
theorem limL_length (D:Nat) (d:List Nat) (j:Nat):(limL D d j).length=j:=by simp [limL]
theorem val_limL (D:Nat) (d:List Nat):∀ j,val (D*D) (limL D d j)=val D (d.take (2*j))
 | 0=>by simp [limL,val]
 | j+1=>by
  rw [limL_succ,val_append,val_limL D d j,limL_length];have e:2*(j+1)=2*j+1+1:=by omega
  rw [e,val_take_succ,val_take_succ];simp only [val,Nat.mul_zero,Nat.add_zero];have hp:(D*D)^j=D^(2*j):=by rw [<- Nat.pow_two,<-Nat.pow_mul]
  rw [hp,Nat.pow_succ,Nat.mul_add,Nat.add_assoc];congr 2;rw [Nat.mul_assoc,Nat.mul_comm D]
theorem limL_lt {D:Nat} (hD:0<D) {d:List Nat} (h:Dl D d) (j:Nat):Dl (D*D) (limL D d j):=by
 intro y hy;simp only [limL,List.mem_map] at hy;obtain ⟨i,_,rfl⟩:=hy;have h1:=h.get hD (2*i);have h2:=h.get hD (2*i+1)
 calc d.getD (2*i) 0+d.getD (2*i+1) 0*D<D+d.getD (2*i+1) 0*D:=by omega
  _=(d.getD (2*i+1) 0+1)*D:=by rw [Nat.add_mul,Nat.one_mul,Nat.add_comm]
  _<=D*D:=Nat.mul_le_mul_right _ h2
theorem val_set (B:Nat):∀ (l:List Nat) (k v:Nat),k<l.length->val B (l.set k v)+B^k*l.getD k 0=val B l+B^k*v
 | [],k,v,h=>by simp at h
 | x::r,0,v,_=>by simp [val]; omega
 | x::r,k+1,v,h=>by
  have ih:=val_set B r k v (by simpa using h);simp only [List.set_cons_succ,val,List.getD_cons_succ,Nat.pow_succ,Nat.mul_comm (B^k) B,Nat.mul_assoc] at ih ⊢;have:=congrArg (B* ·) ih;simp only [Nat.mul_add] at this;omega
theorem Dl.set {B:Nat} {l:List Nat} (h:Dl B l) {v:Nat} (hv:v<B) (k:Nat):Dl B (l.set k v):=by
 intro y hy;rcases List.mem_or_eq_of_mem_set hy with hy | rfl
 . exact h y hy
 . exact hv
def zeroFrom (l:List Nat) (k:Nat):Prop:=∀ j,k<=j->l.getD j 0=0
theorem zeroFrom_set {l:List Nat} {k:Nat} (h:zeroFrom l k) {i:Nat} (hi:i<k) (v:Nat):zeroFrom (l.set i v) k:=by
 intro j hj;have:=h j hj;simp only [List.getD,List.getElem?_set] at this ⊢;rw [if_neg (by omega)]; exact this
theorem getD_set_ne {l:List Nat} {i j:Nat} (h:i≠j) (v:Nat):(l.set i v).getD j 0=l.getD j 0:=by
 simp only [List.getD,List.getElem?_set]; rw [if_neg h]
theorem dig_length_mono {B:Nat} (hB:2<=B) {m n:Nat} (h:m<=n):(dig B m).length<=(dig B n).length:=by
 refine dig_length_le hB ?_;have:=val_lt (dig_lt hB n);rw [val_dig hB] at this;omega
def cmpF (x y:List Nat):Nat->Int
 | 0=>0
 | k+1=>if x.getD k 0<y.getD k 0 then -1 else if x.getD k 0>y.getD k 0 then 1 else cmpF x y k
def cmpN (m n:Nat):Int:=if m<n then -1 else if m>n then 1 else 0
theorem cmpF_val {B:Nat} (hB:0<B) {x y:List Nat} (hx:Dl B x) (hy:Dl B y):∀ k,cmpF x y k=cmpN (val B (x.take k)) (val B (y.take k))
 | 0=>by simp [cmpF,cmpN,val]
 | k+1=>by
  have h1:=val_lt (hx.take k);have h2:=val_lt (hy.take k);have p1:B^(x.take k).length<=B^k:=Nat.pow_le_pow_right hB (by simp; omega);have p2:B^(y.take k).length<=B^k:=Nat.pow_le_pow_right hB (by simp; omega);rw [cmpF,val_take_succ,val_take_succ,cmpF_val hB hx hy k];generalize hX:x.getD k 0=X;generalize hY:y.getD k 0=Y;generalize val B (x.take k)=p at*
  generalize val B (y.take k)=q at*
  have key:∀ {s t u v P:Nat},s<t->u<P->u+P*s<v+P*t:=λ{s t u v P} h hu=>by
   have:P*(s+1)<=P*t:=Nat.mul_le_mul_left _ h;rw [Nat.mul_add,Nat.mul_one] at this;omega
  unfold cmpN;by_cases hlt:X<Y
  . have:=key (v:=q) hlt (show p<B^k by omega);rw [if_pos hlt,if_pos this]
  . by_cases hgt:X>Y
    . have:=key (v:=p) hgt (show q<B^k by omega);have n1:¬ p+B^k*X<q+B^k*Y:=by omega
      have n2:p+B^k*X>q+B^k*Y:=by omega
      rw [if_neg hlt,if_pos hgt,if_neg n1,if_pos n2]
    . have:X=Y:=by omega
      subst this;rw [if_neg hlt,if_neg hgt];simp only [Nat.add_lt_add_iff_right,gt_iff_lt]
end Go.Nm
namespace Go.Nm
theorem getD_val {B:Nat} (hB:0<B):∀ {l:List Nat},Dl B l->∀ k,l.getD k 0=val B l / B^k%B
 | [],_,k=>by simp [val]
 | x::r,h,0=>by
  simp only [List.getD_cons_zero,val,Nat.pow_zero,Nat.div_one,Nat.add_mul_mod_self_left];rw [Nat.mod_eq_of_lt h.head]
 | x::r,h,k+1=>by
  have ih:=getD_val hB h.tail k;rw [List.getD_cons_succ,ih,val,Nat.pow_succ,Nat.mul_comm (B^k) B,<-Nat.div_div_eq_div_mul,Nat.add_mul_div_left _ _ hB,Nat.div_eq_of_lt h.head,Nat.zero_add]
theorem bit_val {x:List Nat} (hx:Dl 4294967296 x) (i:Nat):x.getD (i / 32) 0 / 2^(i%32)%2=val 4294967296 x / 2^i%2:=by
 rw [getD_val (by omega) hx];have hs:i%32<32:=Nat.mod_lt _ (by omega);have e1:(4294967296:Nat)=2^(i%32)*2^(32-i%32):=by rw [<- Nat.pow_add]; rw [show i%32+(32-i%32)=32 by omega]
 have e2:(4294967296:Nat)^(i / 32)*2^(i%32)=2^i:=by
  rw [show (4294967296:Nat)=2^32 from rfl,<-Nat.pow_mul,<-Nat.pow_add]; congr 1; omega
 generalize val 4294967296 x=N;have e3:N / 4294967296^(i / 32)%4294967296=N / 4294967296^(i / 32)%(2^(i%32)*2^(32-i%32)):=by rw [<- e1]
 rw [e3,Nat.mod_mul_right_div_self,Nat.div_div_eq_div_mul,e2];refine Nat.mod_mod_of_dvd _ ?_;exact Nat.dvd_trans (by simp) (Nat.pow_dvd_pow 2 (show 1<=32-i%32 by omega))
theorem half_step (N i:Nat):N / 2^i=2*(N / 2^(i+1))+N / 2^i%2:=by
 rw [Nat.pow_succ,<-Nat.div_div_eq_div_mul]; omega
theorem div_step {y M b:Nat} (hy:0<y) (hb:b<=1):
 (y<=2*(M%y)+b->(2*M+b) / y=2*(M / y)+1/\(2*M+b)%y=2*(M%y)+b-y)/\
 (2*(M%y)+b<y->(2*M+b) / y=2*(M / y)/\(2*M+b)%y=2*(M%y)+b):=by
 have hr:M%y<y:=Nat.mod_lt _ hy;have hM:=Nat.div_add_mod M y;generalize M%y=r at*
 generalize M / y=q at*
 subst hM;constructor
 . intro h;have e:2*(y*q+r)+b=(2*r+b-y)+y*(2*q+1):=by
    rw [Nat.mul_add y,Nat.mul_one,Nat.mul_left_comm y 2 q]; omega
   rw [e,Nat.add_mul_div_left _ _ hy,Nat.add_mul_mod_self_left,Nat.div_eq_of_lt (by omega),Nat.mod_eq_of_lt (by omega)];omega
 . intro h;have e:2*(y*q+r)+b=(2*r+b)+y*(2*q):=by
    rw [Nat.mul_left_comm y 2 q]; omega
   rw [e,Nat.add_mul_div_left _ _ hy,Nat.add_mul_mod_self_left,Nat.div_eq_of_lt h,Nat.mod_eq_of_lt h];omega
theorem or_apart' {a b k:Nat} (hb:b<2^k):a*2^k ||| b=a*2^k+b:=by
 rw [Nat.mul_comm]; exact (Nat.two_pow_add_eq_or_of_lt hb a).symm
theorem or_bit {q:List Nat} (hq:Dl 4294967296 q) {i Q:Nat} (hl:i / 32<q.length) (hv:val 4294967296 q=Q*2^(i+1)):
 (q.getD (i / 32) 0 ||| 2^(i%32))<4294967296/\val 4294967296 (q.set (i / 32) (q.getD (i / 32) 0 ||| 2^(i%32)))=Q*2^(i+1)+2^i:=by
 have hs:i%32<32:=Nat.mod_lt _ (by omega);have e2:(4294967296:Nat)^(i / 32)*2^(i%32)=2^i:=by
  rw [show (4294967296:Nat)=2^32 from rfl,<-Nat.pow_mul,<-Nat.pow_add]; congr 1; omega
 have e1:(4294967296:Nat)=2^(i%32+1)*2^(31-i%32):=by rw [<- Nat.pow_add]; rw [show i%32+1+(31-i%32)=32 by omega]
 have hg:q.getD (i / 32) 0=Q%2^(31-i%32)*2^(i%32+1):=by
  rw [getD_val (by omega) hq,hv];have:Q*2^(i+1)=4294967296^(i / 32)*(2^(i%32+1)*Q):=by
   rw [Nat.pow_succ 2 (i%32),<-Nat.mul_assoc,<-Nat.mul_assoc,e2,Nat.pow_succ,Nat.mul_comm]
  rw [this,Nat.mul_div_cancel_left _ (Nat.pow_pos (by omega))];have e3:2^(i%32+1)*Q%4294967296=2^(i%32+1)*Q%(2^(i%32+1)*2^(31-i%32)):=by rw [<- e1]
  rw [e3,Nat.mul_mod_mul_left,Nat.mul_comm]
 have hlt:2^(i%32)<2^(i%32+1):=Nat.pow_lt_pow_right (by omega) (by omega);have hor:q.getD (i / 32) 0 ||| 2^(i%32)=q.getD (i / 32) 0+2^(i%32):=by rw [hg,or_apart' hlt]
 have hb:Q%2^(31-i%32)+1<=2^(31-i%32):=Nat.mod_lt _ (Nat.pow_pos (by omega));refine ⟨?_,?_⟩
 . rw [hor,hg];have h2:(Q%2^(31-i%32)+1)*2^(i%32+1)<=2^(31-i%32)*2^(i%32+1):=Nat.mul_le_mul_right _ hb;rw [Nat.mul_comm (2^(31-i%32)),<-e1,Nat.add_mul,Nat.one_mul] at h2;omega
 . have:=val_set 4294967296 q (i / 32) (q.getD (i / 32) 0 ||| 2^(i%32)) hl;rw [hor] at this ⊢;rw [Nat.mul_add,e2] at this;omega
theorem val_drop_div {B:Nat} (hB:0<B):∀ {l:List Nat},Dl B l->∀ k,val B (l.drop k)=val B l / B^k
 | [],_,k=>by simp [val]
 | x::r,h,0=>by simp
 | x::r,h,k+1=>by
  rw [List.drop_succ_cons,val_drop_div hB h.tail k,val,Nat.pow_succ,Nat.mul_comm (B^k) B,<-Nat.div_div_eq_div_mul,Nat.add_mul_div_left _ _ hB,Nat.div_eq_of_lt h.head,Nat.zero_add]
theorem dig_length_pos {B:Nat} (hB:2<=B) {n:Nat} (hn:n≠0):0<(dig B n).length:=by
 cases h:dig B n with
 | nil=>exact absurd ((dig_nil hB).1 h) hn
 | cons x r=>simp
end Go.Nm
namespace Go.Nm
theorem guess_down {v1 v0 A u D q r T:Nat} (hD:0<D) (hT:T=(A*D+u) / (v1*D+v0)) (hA:A<v1*D+v0) (hu:u<D) (hqr:q*v1+r=A)
 (h:D<=q\/D*r+u<q*v0):T<q:=by
 have hy:0<v1*D+v0:=by omega
 subst hT;rcases h with h | h
 . refine Nat.lt_of_lt_of_le (Nat.div_lt_of_lt_mul ?_) h
   calc A*D+u<A*D+D:=by omega
    _=(A+1)*D:=by rw [Nat.add_mul,Nat.one_mul]
    _<=(v1*D+v0)*D:=Nat.mul_le_mul_right _ hA
 . refine Nat.div_lt_of_lt_mul ?_;rw [Nat.add_mul,Nat.mul_comm v0 q,<-hqr,Nat.add_mul,Nat.mul_right_comm q v1 D,Nat.mul_comm r D];have:v1*D*q=q*D*v1:=by rw [Nat.mul_comm v1 D,Nat.mul_comm q D,Nat.mul_assoc,Nat.mul_assoc,Nat.mul_comm v1 q]
   omega
theorem guess_done {v1 v0 A u D q r T:Nat} (hT:T=(A*D+u) / (v1*D+v0)) (hy:0<v1*D+v0) (hqr:q*v1+r=A) (hge:T<=q) (h:q*v0<=D*r+u):q=T:=by
 have:q<=T:=by
  subst hT;rw [Nat.le_div_iff_mul_le hy,Nat.mul_add,<-hqr,Nat.add_mul,<-Nat.mul_assoc,Nat.mul_comm r D];omega
 omega
theorem guess_first {v1 v0 A u D:Nat} (hv:0<v1) (hu:u<D):(A*D+u) / (v1*D+v0)<=A / v1:=by
 have hD:0<D:=by omega
 rw [Nat.le_div_iff_mul_le hv];have h1:(A*D+u) / (v1*D+v0)*(v1*D+v0)<=A*D+u:=Nat.div_mul_le_self _ _;generalize (A*D+u) / (v1*D+v0)=T at*
 have h2:T*v1*D<=A*D+u:=by
  have:T*(v1*D)<=T*(v1*D+v0):=Nat.mul_le_mul_left _ (by omega);rw [Nat.mul_assoc]; omega
 have h3:T*v1*D<(A+1)*D:=by rw [Nat.add_mul,Nat.one_mul]; omega
 have:=Nat.lt_of_mul_lt_mul_right h3;omega
theorem wrap_rest {X Y u:Nat} (h:Y<=X+u) (hlt:X+u-Y<18446744073709551616):
 ((X%18446744073709551616+u)%18446744073709551616+18446744073709551616-Y%18446744073709551616)%18446744073709551616=X+u-Y:=by omega
theorem two_digits {y A u1 u0 D:Nat} (hy:0<y) (hA:A<y) (h1:u1<D) (h0:u0<D):
 let R:=A*D+u1-(A*D+u1) / y*y
 R<y/\(A*D+u1) / y<D/\(R*D+u0) / y<D/\(A*(D*D)+(u1*D+u0)) / y=(A*D+u1) / y*D+(R*D+u0) / y/\(A*(D*D)+(u1*D+u0))%y=R*D+u0-(R*D+u0) / y*y:=by
 intro R;have hR:R=(A*D+u1)%y:=by
  have:=Nat.div_add_mod (A*D+u1) y;rw [Nat.mul_comm] at this;show A*D+u1-(A*D+u1) / y*y=_;omega
 have hRy:R<y:=by rw [hR]; exact Nat.mod_lt _ hy
 have lt:∀ {a b:Nat},a<y->b<D->(a*D+b) / y<D:=λ{a b} ha hb=>by
  refine Nat.div_lt_of_lt_mul ?_
  calc a*D+b<a*D+D:=by omega
   _=(a+1)*D:=by rw [Nat.add_mul,Nat.one_mul]
   _<=y*D:=Nat.mul_le_mul_right _ ha
 refine ⟨hRy,lt hA h1,lt hRy h0,?_⟩;have e:A*(D*D)+(u1*D+u0)=(R*D+u0)+y*((A*D+u1) / y*D):=by
  have:=Nat.div_add_mod (A*D+u1) y;rw [<- hR] at this;have e2:=congrArg (· *D) this;simp only [Nat.add_mul] at e2;rw [<- Nat.mul_assoc,<-Nat.mul_assoc];omega
 rw [e,Nat.add_mul_div_left _ _ hy,Nat.add_mul_mod_self_left];refine ⟨by omega,?_⟩;have:=Nat.div_add_mod (R*D+u0) y;rw [Nat.mul_comm] at this;omega
end Go.Nm
namespace Go.Nm
theorem mul_step {B:Nat} {out:List Nat} {p c z W:Nat} (hp:p<out.length) (h:val B out+B^p*c=W):
 val B (out.set p ((z+out.getD p 0+c)%B))+B^(p+1)*((z+out.getD p 0+c) / B)=W+B^p*z:=by
 have h1:=val_set B out p ((z+out.getD p 0+c)%B) hp;have h2:B^p*((z+out.getD p 0+c)%B)+B^(p+1)*((z+out.getD p 0+c) / B)=B^p*z+B^p*out.getD p 0+B^p*c:=by
  rw [Nat.pow_succ,Nat.mul_assoc,<-Nat.mul_add,Nat.mod_add_div,Nat.mul_add,Nat.mul_add]
 omega
theorem mul_bound {x y o c:Nat} (hx:x<4294967296) (hy:y<4294967296) (ho:o<4294967296) (hc:c<4294967296):x*y+o+c<18446744073709551616/\x*y<18446744073709551616/\x*y+o<18446744073709551616:=by
 have:x*y<=4294967295*4294967295:=Nat.mul_le_mul (by omega) (by omega);omega
theorem row_next {B:Nat} {V P i k xi:Nat} {y:List Nat}:V+B^i*(xi*val B (y.take (k+1)))=V+B^i*(xi*val B (y.take k))+B^(i+k)*(xi*y.getD k 0):=by
 rw [val_take_succ,Nat.mul_add,Nat.mul_add,Nat.pow_add,Nat.add_assoc,Nat.add_left_cancel_iff,Nat.add_left_cancel_iff,Nat.mul_left_comm xi,Nat.mul_assoc]
theorem row_all {B:Nat} {x:List Nat} {i Y:Nat}:val B (x.take i)*Y+B^i*(x.getD i 0*Y)=val B (x.take (i+1))*Y:=by
 rw [val_take_succ,Nat.add_mul,Nat.mul_assoc]
theorem set_zero {B:Nat} {out:List Nat} {p c:Nat} (hp:p<out.length) (hz:out.getD p 0=0):val B (out.set p c)=val B out+B^p*c:=by
 have:=val_set B out p c hp;rw [hz,Nat.mul_zero] at this;omega
end Go.Nm
