/- Gram's determinants: Bareiss' numbers of the products of rows; nought just where the rows hang together. -/
import Derived.Test.YtfdjbmamidmgfaaGreatPT
set_option linter.unusedVariables false
namespace Go.Dt
def dq (u v:Nat->Rat):Nat->Rat
 | 0=>0
 | k+1=>dq u v k+u k*v k
theorem dq_comm (u v:Nat->Rat):∀ w,dq u v w=dq v u w
 | 0=>rfl
 | k+1=>by rw [dq,dq,dq_comm u v k,Rat.mul_comm (u k)]
theorem dq_lin (t:Rat) (u x v:Nat->Rat):∀ w,dq (λc=>u c-t*x c) v w=dq u v w-t*dq x v w
 | 0=>by simp [dq]; grind
 | k+1=>by rw [dq,dq,dq,dq_lin t u x v k]; grind
theorem dq_lin2 (t:Rat) (u v x:Nat->Rat) (w:Nat):dq v (λc=>u c-t*x c) w=dq v u w-t*dq v x w:=by
 rw [dq_comm,dq_lin,dq_comm u,dq_comm x]
theorem sq_nonneg (x:Rat):0<=x*x:=by
 rcases Rat.le_total (a:=0) (b:=x) with h | h
 . exact Rat.mul_nonneg h h
 . have h1:0<=-x:=by grind
   have:=Rat.mul_nonneg h1 h1;grind
theorem dq_nonneg (u:Nat->Rat):∀ w,0<=dq u u w
 | 0=>by simp [dq]
 | k+1=>by
  have h1:=dq_nonneg u k;have h2:=sq_nonneg (u k);rw [dq];exact Rat.add_nonneg h1 h2
theorem dq_zero {u:Nat->Rat}:∀ {w:Nat},dq u u w=0->∀ c,c<w->u c=0
 | 0,_,c,hc=>by omega
 | k+1,h,c,hc=>by
  have h1:=dq_nonneg u k;have h2:=sq_nonneg (u k);rw [dq] at h;have h3:dq u u k=0:=by grind
  have h4:u k*u k=0:=by grind
  rcases Nat.lt_or_ge c k with hk | hk
  . exact dq_zero h3 c hk
  . obtain rfl:c=k:=by omega
    rcases Rat.mul_eq_zero.1 h4 with e | e<;>exact e
theorem dq_none {u:Nat->Rat} (v:Nat->Rat):∀ {w:Nat},(∀ c,c<w->u c=0)->dq u v w=0
 | 0,_=>rfl
 | k+1,h=>by rw [dq,dq_none v λc hc=>h c (by omega),h k (by omega)]; grind
theorem brI_pos {n k:Nat} {M0 M:Nat->Nat->Int} {last s:Int} (H:BrI n M0 k M last s):last≠0:=by
 obtain ⟨σ,V,U,h1,h2,h3,h4,h5,h6,h7,h8,h9,h10⟩:=H.ex;exact h7
def brM (G:Nat->Nat->Int):Nat->Nat->Nat->Int
 | 0=>G
 | k+1=>λi j=>(brM G k k k*brM G k i j-brM G k i k*brM G k k j) / (match k with | 0=>1 | t+1=>brM G t t t)
def brD (G:Nat->Nat->Int):Nat->Int
 | 0=>1
 | k+1=>brM G k k k
theorem brM_succ (G:Nat->Nat->Int) (k i j:Nat):brM G (k+1) i j=(brM G k k k*brM G k i j-brM G k i k*brM G k k j) / brD G k:=by
 cases k<;>rfl
theorem brM_symm {G:Nat->Nat->Int} (hG:∀ i j,G i j=G j i):∀ k i j,brM G k i j=brM G k j i
 | 0,i,j=>hG i j
 | k+1,i,j=>by
  rw [brM_succ,brM_succ,brM_symm hG k i j,brM_symm hG k i k,brM_symm hG k k j,Int.mul_comm (brM G k k i)]
theorem brM_inv {n:Nat} {G:Nat->Nat->Int}:∀ {k:Nat},k<=n->(∀ t,t<k->brM G t t t≠0)->BrI n G k (brM G k) (brD G k) 1
 | 0,_,_=>brI_init n G
 | k+1,hk,h=>by
  have H:=brM_inv (n:=n) (G:=G) (k:=k) (by omega) λt ht=>h t (by omega);obtain ⟨h1,h2⟩:=brI_step H (by omega) (h k (by omega));refine h2 _ λi j hi hin hj hjn=>?_;obtain ⟨z,hz⟩:=h1 i j hi hin hj hjn;have h0:brD G k≠0:=brI_pos H;rw [brM_succ,<-hz,Int.mul_ediv_cancel _ h0,hz]
theorem gram_inv {n w:Nat} {G:Nat->Nat->Int} (L:Nat->Nat->Rat) (hG:∀ i j,i<n->j<n->((G i j:Int):Rat)=dq (L i) (L j) w):∀ {k:Nat},k<=n->(∀ t,t<k->brM G t t t≠0)->
 0<brD G k/\∃ V:Nat->Nat->Rat,∀ i j,k<=i->i<n->k<=j->j<n->((brM G k i j:Int):Rat)=(brD G k:Rat)*dq (V i) (V j) w
 | 0,_,_=>⟨by show (0:Int)<1; decide,L,λi j _ hi _ hj=>by rw [brM,hG i j hi hj,brD]; grind⟩
 | k+1,hk,h=>by
  obtain ⟨hd,V,hV⟩:=gram_inv L hG (k:=k) (by omega) λt ht=>h t (by omega);have hp:=h k (by omega);have H:=brM_inv (n:=n) (G:=G) (k:=k) (by omega) λt ht=>h t (by omega);have hkk:=hV k k (by omega) (by omega) (by omega) (by omega);have hd':(0:Rat)<(brD G k:Rat):=by exact_mod_cast hd
  have hpq:((brM G k k k:Int):Rat)≠0:=by exact_mod_cast hp
  have hq0:dq (V k) (V k) w≠0:=λe=>hpq (by rw [hkk,e]; grind);have hqp:=dq_nonneg (V k) w;refine ⟨?_,λi c=>V i c-(dq (V i) (V k) w / dq (V k) (V k) w)*V k c,λi j hi hin hj hjn=>?_⟩
  . have h1:(0:Rat)<=((brM G k k k:Int):Rat):=by rw [hkk]; exact Rat.mul_nonneg (Rat.le_of_lt hd') hqp
    have h2:(0:Int)<=brM G k k k:=by exact_mod_cast h1
    show 0<brM G k k k;omega
  . obtain ⟨h1,h2⟩:=brI_step H (by omega) hp;obtain ⟨z,hz⟩:=h1 i j (by omega) hin (by omega) hjn;have h0:brD G k≠0:=by omega
    have e:brM G (k+1) i j*brD G k=brM G k k k*brM G k i j-brM G k i k*brM G k k j:=by rw [brM_succ,<-hz,Int.mul_ediv_cancel _ h0]
    have e':((brM G (k+1) i j:Int):Rat)*(brD G k:Rat)=((brM G k k k:Int):Rat)*((brM G k i j:Int):Rat)-((brM G k i k:Int):Rat)*((brM G k k j:Int):Rat):=by exact_mod_cast e
    rw [hV i j (by omega) hin (by omega) hjn,hV i k (by omega) hin (by omega) (by omega),hV k j (by omega) (by omega) (by omega) hjn] at e';have eb:((brD G (k+1):Int):Rat)=((brM G k k k:Int):Rat):=rfl;rw [eb];rw [hkk] at e' ⊢;rw [dq_lin,dq_lin2,dq_lin2,dq_comm (V k) (V j)];rw [dq_comm (V k) (V j)] at e';generalize dq (V k) (V k) w=Q at hq0 e' ⊢;generalize dq (V i) (V j) w=X at e' ⊢;generalize dq (V i) (V k) w=Y at e' ⊢;generalize dq (V j) (V k) w=Z at e' ⊢;generalize ((brD G k:Int):Rat)=D at hd' e' ⊢;generalize ((brM G (k+1) i j:Int):Rat)=m at e' ⊢;have hD:D≠0:=by grind
    grind
theorem gram_zero {n w k:Nat} {G:Nat->Nat->Int} (L:Nat->Nat->Rat) (hG:∀ i j,i<n->j<n->((G i j:Int):Rat)=dq (L i) (L j) w) (hk:k<n) (h:∀ t,t<k->brM G t t t≠0) (h0:brM G k k k=0):detZ n G=0:=by
 obtain ⟨hd,V,hV⟩:=gram_inv L hG (k:=k) (by omega) h;refine brI_zero (brM_inv (n:=n) (by omega) h) hk λi hi hin=>?_;have hd':(0:Rat)<(brD G k:Rat):=by exact_mod_cast hd
 have hkk:=hV k k (by omega) (by omega) (by omega) (by omega);have e0:((brM G k k k:Int):Rat)=0:=by rw [h0]; rfl
 rw [hkk] at e0;have hq:dq (V k) (V k) w=0:=by
  rcases Rat.mul_eq_zero.1 e0 with e | e
  . grind
  . exact e
 have hi':=hV i k hi hin (by omega) (by omega);rw [dq_comm,dq_none (V i) (dq_zero hq)] at hi';have:((brM G k i k:Int):Rat)=0:=by rw [hi']; grind
 exact_mod_cast this
theorem gram_end {n:Nat} {G:Nat->Nat->Int} (h:∀ t,t<n->brM G t t t≠0):detZ n G=brD G n:=by
 have:=brI_end (brM_inv (n:=n) (Nat.le_refl _) h);rw [this]; omega
end Go.Dt
