/- Rows of integers, what is left of them behind the ones ahead, and Bareiss' numbers of their products: when a row is taken away from another one, and when two neighbours change places. -/
import Derived.Test.YtfdjbmamidmgfaaGreatPU
set_option linter.unusedVariables false
namespace Go.Dt
def dz (u v:Nat->Int):Nat->Int
 | 0=>0
 | k+1=>dz u v k+u k*v k
theorem dz_comm (u v:Nat->Int):∀ w,dz u v w=dz v u w
 | 0=>rfl
 | k+1=>by rw [dz,dz,dz_comm u v k,Int.mul_comm (u k)]
def gz (b:Nat->Nat->Int) (w i j:Nat):Int:=dz (b i) (b j) w
def rv (u:Nat->Int):Nat->Rat:=λc=>((u c:Int):Rat)
theorem dz_cast (u v:Nat->Int):∀ w,((dz u v w:Int):Rat)=dq (rv u) (rv v) w
 | 0=>by simp [dz,dq]
 | w+1=>by rw [dz,dq,<-dz_cast u v w]; push_cast; rfl
theorem dq_congr {u u' v v':Nat->Rat}:∀ {w:Nat},(∀ c,c<w->u c=u' c)->(∀ c,c<w->v c=v' c)->dq u v w=dq u' v' w
 | 0,_,_=>rfl
 | w+1,h1,h2=>by rw [dq,dq,dq_congr (λc hc=>h1 c (by omega)) (λc hc=>h2 c (by omega)),h1 w (by omega),h2 w (by omega)]
def pv (b:Nat->Nat->Int) (w:Nat):Nat->Nat->Nat->Rat
 | 0=>λi=>rv (b i)
 | t+1=>λi c=>pv b w t i c-(dq (pv b w t i) (pv b w t t) w / dq (pv b w t t) (pv b w t t) w)*pv b w t t c
def ss (b:Nat->Nat->Int) (w t:Nat):Rat:=dq (pv b w t t) (pv b w t t) w
theorem pv_succ (b:Nat->Nat->Int) (w t i c:Nat):pv b w (t+1) i c=pv b w t i c-(dq (pv b w t i) (pv b w t t) w / ss b w t)*pv b w t t c:=rfl
def bD (b:Nat->Nat->Int) (w t:Nat):Int:=brD (gz b w) t
def bM (b:Nat->Nat->Int) (w a t:Nat):Int:=brM (gz b w) t a t
theorem bM_diag (b:Nat->Nat->Int) (w t:Nat):bM b w t t=bD b w (t+1):=rfl
def Ind (b:Nat->Nat->Int) (n w:Nat):Prop:=∀ t,t<n->bM b w t t≠0
theorem pv_main {n w:Nat} {b:Nat->Nat->Int}:∀ {t:Nat},t<=n->(∀ s,s<t->bM b w s s≠0)->
 0<bD b w t/\∀ i j,t<=i->i<n->t<=j->j<n->((brM (gz b w) t i j:Int):Rat)=(bD b w t:Rat)*dq (pv b w t i) (pv b w t j) w
 | 0,_,_=>⟨by show (0:Int)<1; decide,λi j _ hi _ hj=>by
  rw [brM,show gz b w i j=dz (b i) (b j) w from rfl,dz_cast];show _=((1:Int):Rat)*_;show dq (rv (b i)) (rv (b j)) w=((1:Int):Rat)*dq (rv (b i)) (rv (b j)) w;grind⟩
 | k+1,hk,h=>by
  obtain ⟨hd,hV⟩:=pv_main (n:=n) (w:=w) (b:=b) (t:=k) (by omega) λt ht=>h t (by omega);have hp:brM (gz b w) k k k≠0:=h k (by omega);have H:=brM_inv (n:=n) (G:=gz b w) (k:=k) (by omega) λs hs=>h s (by omega);have hkk:=hV k k (by omega) (by omega) (by omega) (by omega);have hd':(0:Rat)<(bD b w k:Rat):=by exact_mod_cast hd
  have hpq:((brM (gz b w) k k k:Int):Rat)≠0:=by exact_mod_cast hp
  have hq0:dq (pv b w k k) (pv b w k k) w≠0:=λe=>hpq (by rw [hkk,e]; grind);have hqp:=dq_nonneg (pv b w k k) w;refine ⟨?_,λi j hi hin hj hjn=>?_⟩
  . have h1:(0:Rat)<=((brM (gz b w) k k k:Int):Rat):=by rw [hkk]; exact Rat.mul_nonneg (Rat.le_of_lt hd') hqp
    have h2:(0:Int)<=brM (gz b w) k k k:=by exact_mod_cast h1
    show 0<brM (gz b w) k k k;omega
  . obtain ⟨h1,h2⟩:=brI_step H (by omega) hp;obtain ⟨z,hz⟩:=h1 i j (by omega) hin (by omega) hjn;have h0:brD (gz b w) k≠0:=by have:=hd; unfold bD at this; omega
    have e:brM (gz b w) (k+1) i j*brD (gz b w) k=brM (gz b w) k k k*brM (gz b w) k i j-brM (gz b w) k i k*brM (gz b w) k k j:=by rw [brM_succ,<-hz,Int.mul_ediv_cancel _ h0]
    have e':((brM (gz b w) (k+1) i j:Int):Rat)*(bD b w k:Rat)=((brM (gz b w) k k k:Int):Rat)*((brM (gz b w) k i j:Int):Rat)-((brM (gz b w) k i k:Int):Rat)*((brM (gz b w) k k j:Int):Rat):=by
     unfold bD; exact_mod_cast e
    rw [hV i j (by omega) hin (by omega) hjn,hV i k (by omega) hin (by omega) (by omega),hV k j (by omega) (by omega) (by omega) hjn] at e';have eb:((bD b w (k+1):Int):Rat)=((brM (gz b w) k k k:Int):Rat):=rfl;have ep:∀ a,pv b w (k+1) a=λc=>pv b w k a c-(dq (pv b w k a) (pv b w k k) w / dq (pv b w k k) (pv b w k k) w)*pv b w k k c:=λa=>rfl;rw [eb,ep i,ep j];rw [hkk] at e' ⊢;rw [dq_lin,dq_lin2,dq_lin2,dq_comm (pv b w k k) (pv b w k j)];rw [dq_comm (pv b w k k) (pv b w k j)] at e';generalize dq (pv b w k k) (pv b w k k) w=Q at hq0 e' ⊢;generalize dq (pv b w k i) (pv b w k j) w=X at e' ⊢;generalize dq (pv b w k i) (pv b w k k) w=Y at e' ⊢;generalize dq (pv b w k j) (pv b w k k) w=Z at e' ⊢;generalize ((bD b w k:Int):Rat)=D at hd' e' ⊢;generalize ((brM (gz b w) (k+1) i j:Int):Rat)=m at e' ⊢;have hD:D≠0:=by grind
    grind
section
variable {n w:Nat} {b:Nat->Nat->Int}
theorem Ind.pos (H:Ind b n w) {t:Nat} (ht:t<=n):0<bD b w t:=(pv_main (n:=n) ht λs hs=>H s (by omega)).1
theorem Ind.posQ (H:Ind b n w) {t:Nat} (ht:t<=n):(0:Rat)<(bD b w t:Rat):=by exact_mod_cast H.pos ht
theorem Ind.m (H:Ind b n w) {a t:Nat} (ht:t<=a) (ha:a<n):((bM b w a t:Int):Rat)=(bD b w t:Rat)*dq (pv b w t a) (pv b w t t) w:=
 (pv_main (n:=n) (t:=t) (by omega) λs hs=>H s (by omega)).2 a t ht ha (Nat.le_refl _) (by omega)
theorem Ind.d (H:Ind b n w) {t:Nat} (ht:t<n):((bD b w (t+1):Int):Rat)=(bD b w t:Rat)*ss b w t:=H.m (Nat.le_refl _) ht
theorem Ind.sq (H:Ind b n w) {t:Nat} (ht:t<n):0<ss b w t:=by
 have h1:=H.posQ (t:=t) (by omega);have h2:=H.posQ (t:=t+1) (by omega);rw [H.d ht] at h2;rcases Rat.le_total (a:=ss b w t) (b:=0) with h | h
 . have:(bD b w t:Rat)*ss b w t<=0:=by
    have h3:0<=-ss b w t:=by grind
    have:=Rat.mul_nonneg (Rat.le_of_lt h1) h3;grind
   grind
 . rcases Rat.le_iff_lt_or_eq.1 h with h3 | h3
   . exact h3
   . rw [<- h3] at h2; grind
theorem pv_gone (H:Ind b n w) {j:Nat} (hj:j<n):∀ {t:Nat},j<t->∀ c,pv b w t j c=0
 | 0,h,_=>by omega
 | t+1,h,c=>by
  rw [pv_succ];by_cases e:j=t
  . subst e;have:=H.sq hj;rw [show dq (pv b w j j) (pv b w j j) w=ss b w j from rfl];have h0:ss b w j≠0:=by grind
    grind
  . have h1:=λc=>pv_gone H hj (t:=t) (by omega) c;rw [h1 c,dq_none (pv b w t t) (λc _=>h1 c)];grind
end
def nearB (b:Nat->Nat->Int) (i j:Nat) (q:Int) (a c:Nat):Int:=if a=i then b i c-q*b j c else b a c
theorem dq_eq {u u' v v':Nat->Rat} {w:Nat} (h1:∀ c,u c=u' c) (h2:∀ c,v c=v' c):dq u v w=dq u' v' w:=dq_congr (λc _=>h1 c) (λc _=>h2 c)
theorem pv_near {n w:Nat} {b:Nat->Nat->Int} (H:Ind b n w) {i j:Nat} (hj:j<i) (hi:i<n) (q:Int):∀ t,(∀ a,a≠i->∀ c,pv (nearB b i j q) w t a c=pv b w t a c)/\∀ c,pv (nearB b i j q) w t i c=pv b w t i c-(q:Rat)*pv b w t j c
 | 0=>⟨λa ha c=>by show ((nearB b i j q a c:Int):Rat)=((b a c:Int):Rat); rw [nearB,if_neg ha],λc=>by
  show ((nearB b i j q i c:Int):Rat)=((b i c:Int):Rat)-q*((b j c:Int):Rat);rw [nearB,if_pos rfl]; push_cast; rfl⟩
 | t+1=>by
  obtain ⟨h1,h2⟩:=pv_near H hj hi q t;have htt:∀ c,pv (nearB b i j q) w t t c=pv b w t t c:=by
   intro c;by_cases e:t=i
   . subst e; rw [h2 c,pv_gone H (by omega) hj]; grind
   . exact h1 t e c
  have hs:ss (nearB b i j q) w t=ss b w t:=dq_eq htt htt;refine ⟨λa ha c=>?_,λc=>?_⟩
  . rw [pv_succ,pv_succ,hs,htt,h1 a ha c,dq_eq (h1 a ha) htt]
  . have e:dq (pv (nearB b i j q) w t i) (pv (nearB b i j q) w t t) w=dq (pv b w t i) (pv b w t t) w-(q:Rat)*dq (pv b w t j) (pv b w t t) w:=by
     rw [<- dq_lin]; exact dq_eq h2 htt
    rw [pv_succ,pv_succ,pv_succ,hs,htt,h2 c,e];generalize dq (pv b w t i) (pv b w t t) w=X;generalize dq (pv b w t j) (pv b w t t) w=Y;generalize ss b w t=s;have hd:∀ x y s:Rat,(x-q*y) / s=x / s-q*(y / s):=λx y s=>by rw [Rat.div_def,Rat.div_def,Rat.div_def]; grind
    rw [hd]; grind
section
variable {n w:Nat} {b:Nat->Nat->Int}
theorem pv_near_diag (H:Ind b n w) {i j:Nat} (hj:j<i) (hi:i<n) (q:Int) (t c:Nat):pv (nearB b i j q) w t t c=pv b w t t c:=by
 obtain ⟨h1,h2⟩:=pv_near H hj hi q t;by_cases e:t=i
 . subst e; rw [h2 c,pv_gone H (by omega) hj]; grind
 . exact h1 t e c
theorem near_ind' (H:Ind b n w) {i j:Nat} (hj:j<i) (hi:i<n) (q:Int):∀ t,t<=n->bD (nearB b i j q) w t=bD b w t/\∀ s,s<t->bM (nearB b i j q) w s s≠0
 | 0,_=>⟨rfl,λs hs=>by omega⟩
 | t+1,ht=>by
  obtain ⟨h1,h2⟩:=near_ind' H hj hi q t (by omega);have e:=(pv_main (n:=n) (b:=nearB b i j q) (w:=w) (t:=t) (by omega) h2).2 t t (Nat.le_refl _) (by omega) (Nat.le_refl _) (by omega);have hd:=pv_near_diag (w:=w) H hj hi q t;have e2:((bD (nearB b i j q) w (t+1):Int):Rat)=((bD b w (t+1):Int):Rat):=by
   rw [H.d (by omega)];show ((brM (gz (nearB b i j q) w) t t t:Int):Rat)=_;rw [e,h1,dq_eq hd hd]; rfl
  have e3:bD (nearB b i j q) w (t+1)=bD b w (t+1):=by exact_mod_cast e2
  refine ⟨e3,λs hs=>?_⟩;by_cases es:s=t
  . subst es;show bD (nearB b i j q) w (s+1)≠0;rw [e3];have:=H.pos (t:=s+1) ht; omega
  . exact h2 s (by omega)
theorem near_ind (H:Ind b n w) {i j:Nat} (hj:j<i) (hi:i<n) (q:Int):Ind (nearB b i j q) n w:=(near_ind' H hj hi q n (Nat.le_refl _)).2
theorem near_D (H:Ind b n w) {i j:Nat} (hj:j<i) (hi:i<n) (q:Int) {t:Nat} (ht:t<=n):bD (nearB b i j q) w t=bD b w t:=(near_ind' H hj hi q t ht).1
theorem near_M (H:Ind b n w) {i j:Nat} (hj:j<i) (hi:i<n) (q:Int) {a t:Nat} (ht:t<=a) (ha:a<n):bM (nearB b i j q) w a t=if a=i/\t<=j then bM b w i t-q*bM b w j t else bM b w a t:=by
 have hd:=pv_near_diag (w:=w) H hj hi q t;obtain ⟨h1,h2⟩:=pv_near (w:=w) H hj hi q t;have e:=(near_ind H hj hi q).m ht ha;rw [near_D H hj hi q (by omega)] at e;by_cases ea:a=i
 . subst ea;have e4:dq (pv (nearB b a j q) w t a) (pv (nearB b a j q) w t t) w=dq (pv b w t a) (pv b w t t) w-(q:Rat)*dq (pv b w t j) (pv b w t t) w:=by
    rw [<- dq_lin]; exact dq_eq h2 hd
   rw [e4] at e;by_cases et:t<=j
   . rw [if_pos ⟨rfl,et⟩];have x1:=H.m (a:=a) (t:=t) (by omega) ha;have x2:=H.m (a:=j) (t:=t) et (by omega);have:((bM (nearB b a j q) w a t:Int):Rat)=((bM b w a t-q*bM b w j t:Int):Rat):=by
      push_cast;rw [e,x1,x2]; grind
     exact_mod_cast this
   . rw [if_neg λh=>et h.2];have x1:=H.m (a:=a) (t:=t) ht ha;have z:dq (pv b w t j) (pv b w t t) w=0:=dq_none _ λc _=>pv_gone H (by omega) (by omega) c;have:((bM (nearB b a j q) w a t:Int):Rat)=((bM b w a t:Int):Rat):=by rw [e,x1,z]; grind
     exact_mod_cast this
 . rw [if_neg λh=>ea h.1];have x1:=H.m (a:=a) (t:=t) ht ha;have:((bM (nearB b i j q) w a t:Int):Rat)=((bM b w a t:Int):Rat):=by rw [e,x1,dq_eq (h1 a ea) hd]
   exact_mod_cast this
end
end Go.Dt
