/- Rows of integers: two neighbours change places. -/
import Derived.Test.YtfdjbmamidmgfaaGreatPV
set_option linter.unusedVariables false
namespace Go.Dt
def swapB (b:Nat->Nat->Int) (e a:Nat):Nat->Int:=b (tr2 e (e+1) a)
theorem tr2_l (e:Nat):tr2 e (e+1) e=e+1:=by simp [tr2]
theorem tr2_r (e:Nat):tr2 e (e+1) (e+1)=e:=by simp [tr2]
theorem tr2_o {e a:Nat} (h1:a≠e) (h2:a≠e+1):tr2 e (e+1) a=a:=by simp [tr2,h1,h2]
theorem pv_succ' (b:Nat->Nat->Int) (w t i:Nat):pv b w (t+1) i=λc=>pv b w t i c-(dq (pv b w t i) (pv b w t t) w / ss b w t)*pv b w t t c:=rfl
theorem pv_swap1 {w e:Nat} {b:Nat->Nat->Int}:∀ t,t<=e->∀ a,pv (swapB b e) w t a=pv b w t (tr2 e (e+1) a)
 | 0,_,a=>rfl
 | t+1,ht,a=>by
  have ih:=pv_swap1 (w:=w) (e:=e) (b:=b) t (by omega);have htt:pv (swapB b e) w t t=pv b w t t:=by rw [ih t,tr2_o (by omega) (by omega)]
  have hs:ss (swapB b e) w t=ss b w t:=by rw [ss,htt]; rfl
  rw [pv_succ',pv_succ',hs,htt,ih a]
theorem div_both {X D p:Rat} (hp:p≠0) (hD:D≠0):X / p / (D / p)=X / D:=by
 have h:D / p≠0:=λe=>hD (by
  have:D / p*p=D:=by grind
  rw [e] at this; grind)
 grind
theorem two_rows {x u v A B p r s:Rat} (hp:p≠0) (hs:s≠0) (hd:p*s-r*r≠0):
 x-B / s*v-(A-B / s*r-r / s*(B-B / s*s)) / (p-r / s*r-r / s*(r-r / s*s))*(u-r / s*v)=
 x-A / p*u-(B-A / p*r-r / p*(A-A / p*p)) / (s-r / p*r-r / p*(r-r / p*p))*(v-r / p*u):=by
 have e1:r-r / s*s=0:=by grind
 have e2:r-r / p*p=0:=by grind
 have e1':B-B / s*s=0:=by grind
 have e2':A-A / p*p=0:=by grind
 rw [e1,e2,e1',e2'];clear e1 e2 e1' e2';have e3:p-r / s*r-r / s*0=(p*s-r*r) / s:=by grind
 have e4:s-r / p*r-r / p*0=(p*s-r*r) / p:=by grind
 have e5:A-B / s*r-r / s*0=(A*s-r*B) / s:=by grind
 have e6:B-A / p*r-r / p*0=(B*p-r*A) / p:=by grind
 rw [e3,e4,e5,e6];generalize hΔ:p*s-r*r=Δ at hd;have e7:(A*s-r*B) / s / (Δ / s)=(A*s-r*B) / Δ:=div_both hs hd;have e8:(B*p-r*A) / p / (Δ / p)=(B*p-r*A) / Δ:=div_both hp hd;rw [e7,e8];clear e3 e4 e5 e6 e7 e8;have c1:B / s-(A*s-r*B) / Δ*(r / s)=(B*p-r*A) / Δ:=by grind
 have c2:A / p-(B*p-r*A) / Δ*(r / p)=(A*s-r*B) / Δ:=by grind
 have h1:x-B / s*v-(A*s-r*B) / Δ*(u-r / s*v)=x-(A*s-r*B) / Δ*u-(B / s-(A*s-r*B) / Δ*(r / s))*v:=by grind
 have h2:x-A / p*u-(B*p-r*A) / Δ*(v-r / p*u)=x-(B*p-r*A) / Δ*v-(A / p-(B*p-r*A) / Δ*(r / p))*u:=by grind
 rw [h1,h2,c1,c2]; grind
section
variable {n w e:Nat} {b:Nat->Nat->Int}
structure Two (b:Nat->Nat->Int) (w e:Nat) (p r s:Rat):Prop where
 hp:dq (pv b w e e) (pv b w e e) w=p
 hr:dq (pv b w e e) (pv b w e (e+1)) w=r
 hs:dq (pv b w e (e+1)) (pv b w e (e+1)) w=s
 p0:0<p
 s0:0<s
 d0:0<p*s-r*r
theorem two_of (H:Ind b n w) (he:e+1<n):∃ p r s,Two b w e p r s:=by
 refine ⟨_,_,_,rfl,rfl,rfl,?_,?_,?_⟩
 . exact H.sq (t:=e) (by omega)
 . have h1:=H.sq (t:=e) (by omega);have h2:=H.sq (t:=e+1) he;rw [ss,pv_succ',dq_lin,dq_lin2,dq_lin2,dq_comm (pv b w e (e+1)) (pv b w e e)] at h2;rw [ss] at h1 h2;generalize dq (pv b w e e) (pv b w e e) w=p at h1 h2;generalize dq (pv b w e e) (pv b w e (e+1)) w=r at h2;generalize dq (pv b w e (e+1)) (pv b w e (e+1)) w=s at h2 ⊢;have hp:p≠0:=by grind
   have e1:r-r / p*p=0:=by grind
   rw [e1] at h2;have h3:0<=r / p*r:=by
    have:=sq_nonneg r;have h4:0<=p⁻¹:=by
     rcases Rat.le_total (a:=0) (b:=p⁻¹) with h | h
     . exact h
     . exfalso;have h5:0<=-p⁻¹:=by grind
       have h6:=Rat.mul_nonneg (Rat.le_of_lt h1) h5;have h7:p*p⁻¹=1:=Rat.mul_inv_cancel _ hp;grind
    have:=Rat.mul_nonneg this h4;rw [Rat.div_def]; grind
   grind
 . have h1:=H.sq (t:=e) (by omega);have h2:=H.sq (t:=e+1) he;rw [ss,pv_succ',dq_lin,dq_lin2,dq_lin2,dq_comm (pv b w e (e+1)) (pv b w e e)] at h2;rw [ss] at h1 h2;generalize dq (pv b w e e) (pv b w e e) w=p at h1 h2 ⊢;generalize dq (pv b w e e) (pv b w e (e+1)) w=r at h2 ⊢;generalize dq (pv b w e (e+1)) (pv b w e (e+1)) w=s at h2 ⊢;have hp:p≠0:=by grind
   have e1:r-r / p*p=0:=by grind
   rw [e1] at h2;have h3:=Rat.mul_pos h1 h2;have e2:p*(s-r / p*r-r / p*0)=p*s-r*r:=by grind
   rw [<- e2]; exact h3
theorem Two.hr' {p r s:Rat} (T:Two b w e p r s):dq (pv b w e (e+1)) (pv b w e e) w=r:=by rw [dq_comm]; exact T.hr
theorem Two.ss0 {p r s:Rat} (T:Two b w e p r s):ss b w e=p:=T.hp
theorem Two.ss1 {p r s:Rat} (T:Two b w e p r s):ss b w (e+1)=(p*s-r*r) / p:=by
 rw [ss,pv_succ',dq_lin,dq_lin2,dq_lin2,T.ss0,T.hr,T.hr',T.hp,T.hs];have hp:p≠0:=by have:=T.p0; grind
 grind
theorem pv_swap2 {p r s:Rat} (T:Two b w e p r s):∀ t,∀ a,a≠e->a≠e+1->∀ c,pv (swapB b e) w (e+2+t) a c=pv b w (e+2+t) a c
 | 0,a,h1,h2,c=>by
  have q0:=λa=>pv_swap1 (w:=w) (b:=b) e (Nat.le_refl e) a;have qe:pv (swapB b e) w e e=pv b w e (e+1):=by rw [q0,tr2_l]
  have qf:pv (swapB b e) w e (e+1)=pv b w e e:=by rw [q0,tr2_r]
  have qa:pv (swapB b e) w e a=pv b w e a:=by rw [q0,tr2_o h1 h2]
  have hs':ss (swapB b e) w e=s:=by rw [ss,qe]; exact T.hs
  have hp:=T.p0;have hs:=T.s0;have hd:=T.d0;show pv (swapB b e) w (e+1+1) a c=pv b w (e+1+1) a c;have u1:pv (swapB b e) w (e+1) (e+1)=λc=>pv b w e e c-r / s*pv b w e (e+1) c:=by rw [pv_succ',qe,qf,hs',T.hr]
  have a1:pv (swapB b e) w (e+1) a=λc=>pv b w e a c-dq (pv b w e a) (pv b w e (e+1)) w / s*pv b w e (e+1) c:=by rw [pv_succ',qe,qa,hs']
  have v1:pv b w (e+1) (e+1)=λc=>pv b w e (e+1) c-r / p*pv b w e e c:=by rw [pv_succ',T.ss0,T.hr']
  have b1:pv b w (e+1) a=λc=>pv b w e a c-dq (pv b w e a) (pv b w e e) w / p*pv b w e e c:=by rw [pv_succ',T.ss0]
  rw [pv_succ (swapB b e) w (e+1) a c,pv_succ b w (e+1) a c,ss,ss,u1,a1,v1,b1];simp only [dq_lin,dq_lin2,T.hp,T.hr,T.hr',T.hs];exact two_rows (x:=pv b w e a c) (u:=pv b w e e c) (v:=pv b w e (e+1) c) (A:=dq (pv b w e a) (pv b w e e) w) (B:=dq (pv b w e a) (pv b w e (e+1)) w) (p:=p) (r:=r) (s:=s) (λh=>by rw [h] at hp; exact absurd hp (by decide)) (λh=>by rw [h] at hs; exact absurd hs (by decide)) (λh=>by rw [h] at hd; exact absurd hd (by decide))
 | t+1,a,h1,h2,c=>by
  have ih:=pv_swap2 T t;have htt:=ih (e+2+t) (by omega) (by omega);show pv (swapB b e) w (e+2+t+1) a c=pv b w (e+2+t+1) a c;rw [pv_succ,pv_succ,htt c,ih a h1 h2 c,show ss (swapB b e) w (e+2+t)=ss b w (e+2+t) from dq_eq htt htt,dq_eq (ih a h1 h2) htt]
theorem swap_ss {p r s:Rat} (T:Two b w e p r s):ss (swapB b e) w e=s/\ss (swapB b e) w (e+1)=(p*s-r*r) / s:=by
 have q0:=λa=>pv_swap1 (w:=w) (b:=b) e (Nat.le_refl e) a;have qe:pv (swapB b e) w e e=pv b w e (e+1):=by rw [q0,tr2_l]
 have qf:pv (swapB b e) w e (e+1)=pv b w e e:=by rw [q0,tr2_r]
 have hs':ss (swapB b e) w e=s:=by rw [ss,qe]; exact T.hs
 refine ⟨hs',?_⟩;rw [ss,pv_succ',qe,qf,hs',dq_lin,dq_lin2,dq_lin2,T.hp,T.hr,T.hr',T.hs];have:=T.s0;grind
theorem swap_at {p r s:Rat} (T:Two b w e p r s) {t:Nat} (h1:t≠e) (h2:t≠e+1):ss (swapB b e) w t=ss b w t:=by
 rcases Nat.lt_or_ge t e with h | h
 . rw [ss,pv_swap1 t (by omega),tr2_o h1 h2]; rfl
 . obtain ⟨k,rfl⟩:∃ k,t=e+2+k:=⟨t-(e+2),by omega⟩;have:=pv_swap2 T k (e+2+k) h1 h2;exact dq_eq this this
theorem swap_main {p r s:Rat} (T:Two b w e p r s) (H:Ind b n w) (he:e+1<n):∀ t,t<=n->(t≠e+1->bD (swapB b e) w t=bD b w t)/\(t=e+1->((bD (swapB b e) w t:Int):Rat)=(bD b w e:Rat)*s)/\∀ u,u<t->bM (swapB b e) w u u≠0
 | 0,_=>⟨λ_=>rfl,λh=>by omega,λu hu=>by omega⟩
 | t+1,ht=>by
  obtain ⟨h1,h2,h3⟩:=swap_main T H he t (by omega);have m:=(pv_main (n:=n) (b:=swapB b e) (w:=w) (t:=t) (by omega) h3).2 t t (Nat.le_refl _) (by omega) (Nat.le_refl _) (by omega);have m':((bD (swapB b e) w (t+1):Int):Rat)=(bD (swapB b e) w t:Rat)*ss (swapB b e) w t:=m;have key:(t+1≠e+1->((bD (swapB b e) w (t+1):Int):Rat)=((bD b w (t+1):Int):Rat))/\(t+1=e+1->((bD (swapB b e) w (t+1):Int):Rat)=(bD b w e:Rat)*s):=by
   by_cases e1:t=e
   . subst e1;exact ⟨λh=>absurd rfl h,λ_=>by rw [m',h1 (by omega),(swap_ss T).1]⟩
   . refine ⟨λ_=>?_,λh=>absurd (by omega) e1⟩;by_cases e2:t=e+1
     . subst e2;have d1:=H.d (t:=e) (by omega);rw [m',h2 rfl,(swap_ss T).2,H.d (by omega),d1,T.ss0,T.ss1];have:=T.s0;have:=T.p0;have a1:(bD b w e:Rat)*s*((p*s-r*r) / s)=(bD b w e:Rat)*(p*s-r*r):=by grind
       have a2:(bD b w e:Rat)*p*((p*s-r*r) / p)=(bD b w e:Rat)*(p*s-r*r):=by grind
       rw [a1,a2]
     . rw [m',h1 e2,swap_at T e1 e2,H.d (by omega)]
  have k1:t+1≠e+1->bD (swapB b e) w (t+1)=bD b w (t+1):=λh=>by exact_mod_cast key.1 h
  refine ⟨k1,key.2,λu hu=>?_⟩;by_cases eu:u=t
  . subst eu;show bD (swapB b e) w (u+1)≠0;by_cases e1:u+1=e+1
    . intro h0;have:=key.2 e1;rw [h0] at this;have p1:=H.posQ (t:=e) (by omega);have:=Rat.mul_pos p1 T.s0;grind
    . rw [k1 e1];have:=H.pos (t:=u+1) ht; omega
  . exact h3 u (by omega)
theorem swap_ind (H:Ind b n w) (he:e+1<n):Ind (swapB b e) n w:=by
 obtain ⟨p,r,s,T⟩:=two_of H he;exact (swap_main T H he n (Nat.le_refl _)).2.2
theorem swap_D (H:Ind b n w) (he:e+1<n) {t:Nat} (ht:t<=n) (h1:t≠e+1):bD (swapB b e) w t=bD b w t:=by
 obtain ⟨p,r,s,T⟩:=two_of H he;exact (swap_main T H he t ht).1 h1
structure Cols (b:Nat->Nat->Int) (n w e:Nat) (d p r s:Rat):Prop where
 d0:0<d
 De:(bD b w e:Rat)=d
 D1:(bD b w (e+1):Rat)=d*p
 D2:(bD b w (e+1+1):Rat)=d*(p*s-r*r)
 x:(bM b w (e+1) e:Rat)=d*r
 E1:(bD (swapB b e) w (e+1):Rat)=d*s
 k:∀ k,e+1<k->k<n->∃ A B:Rat,(bM b w k e:Rat)=d*A/\(bM b w k (e+1):Rat)=d*(p*B-r*A)/\(bM (swapB b e) w k e:Rat)=d*B/\(bM (swapB b e) w k (e+1):Rat)=d*(s*A-r*B)
theorem cols_of {p r s:Rat} (T:Two b w e p r s) (H:Ind b n w) (he:e+1<n):Cols b n w e (bD b w e:Rat) p r s:=by
 have hp0:p≠0:=by have:=T.p0; grind
 have hs0:s≠0:=by have:=T.s0; grind
 have D1:(bD b w (e+1):Rat)=(bD b w e:Rat)*p:=by rw [H.d (by omega),T.ss0]
 have q0:=λa=>pv_swap1 (w:=w) (b:=b) e (Nat.le_refl e) a;have qe:pv (swapB b e) w e e=pv b w e (e+1):=by rw [q0,tr2_l]
 have qf:pv (swapB b e) w e (e+1)=pv b w e e:=by rw [q0,tr2_r]
 have E1:=(swap_main T H he (e+1) (by omega)).2.1 rfl;refine ⟨H.posQ (by omega),rfl,D1,?_,?_,E1,λk hk hkn=>⟨dq (pv b w e k) (pv b w e e) w,dq (pv b w e k) (pv b w e (e+1)) w,?_,?_,?_,?_⟩⟩
 . rw [H.d he,D1,T.ss1]; grind
 . rw [H.m (by omega) he,T.hr']
 . rw [H.m (by omega) hkn]
 . rw [H.m (by omega) hkn,D1];have v1:pv b w (e+1) (e+1)=λc=>pv b w e (e+1) c-r / p*pv b w e e c:=by rw [pv_succ',T.ss0,T.hr']
   have b1:pv b w (e+1) k=λc=>pv b w e k c-dq (pv b w e k) (pv b w e e) w / p*pv b w e e c:=by rw [pv_succ',T.ss0]
   rw [v1,b1];simp only [dq_lin,dq_lin2,T.hp,T.hr,T.hr',T.hs];generalize dq (pv b w e k) (pv b w e e) w=A;generalize dq (pv b w e k) (pv b w e (e+1)) w=B;have e2':A-A / p*p=0:=by grind
   rw [e2']; grind
 . rw [(swap_ind H he).m (by omega) hkn,swap_D H he (by omega) (by omega),qe,q0,tr2_o (by omega) (by omega)]
 . rw [(swap_ind H he).m (by omega) hkn,E1];have hs':=(swap_ss T).1;have v1:pv (swapB b e) w (e+1) (e+1)=λc=>pv b w e e c-r / s*pv b w e (e+1) c:=by rw [pv_succ',qe,qf,hs',T.hr]
   have b1:pv (swapB b e) w (e+1) k=λc=>pv b w e k c-dq (pv b w e k) (pv b w e (e+1)) w / s*pv b w e (e+1) c:=by rw [pv_succ',qe,q0 k,tr2_o (by omega) (by omega),hs']
   rw [v1,b1];simp only [dq_lin,dq_lin2,T.hp,T.hr,T.hr',T.hs];generalize dq (pv b w e k) (pv b w e e) w=A;generalize dq (pv b w e k) (pv b w e (e+1)) w=B;have e2':B-B / s*s=0:=by grind
   rw [e2']; grind
theorem swap_own (H:Ind b n w) (he:e+1<n):bD b w e*bD b w (e+1+1)+bM b w (e+1) e*bM b w (e+1) e=bD (swapB b e) w (e+1)*bD b w (e+1):=by
 obtain ⟨p,r,s,T⟩:=two_of H he;have C:=cols_of T H he;have h1:=C.D1;have h2:=C.D2;have h3:=C.x;have h4:=C.E1;have:((bD b w e*bD b w (e+1+1)+bM b w (e+1) e*bM b w (e+1) e:Int):Rat)=((bD (swapB b e) w (e+1)*bD b w (e+1):Int):Rat):=by
  push_cast;rw [h1,h2,h3,h4]; grind
 exact_mod_cast this
theorem swap_U (H:Ind b n w) (he:e+1<n) {k:Nat} (hk:e+1<k) (hkn:k<n):bD b w (e+1+1)*bM b w k e-bM b w (e+1) e*bM b w k (e+1)=bM (swapB b e) w k (e+1)*bD b w (e+1):=by
 obtain ⟨p,r,s,T⟩:=two_of H he;have C:=cols_of T H he;have h1:=C.D1;have h2:=C.D2;have h3:=C.x;obtain ⟨A,B,k1,k2,k3,k4⟩:=C.k k hk hkn;have:((bD b w (e+1+1)*bM b w k e-bM b w (e+1) e*bM b w k (e+1):Int):Rat)=((bM (swapB b e) w k (e+1)*bD b w (e+1):Int):Rat):=by
  push_cast;rw [h1,h2,h3,k1,k2,k4]; grind
 exact_mod_cast this
theorem swap_W (H:Ind b n w) (he:e+1<n) {k:Nat} (hk:e+1<k) (hkn:k<n):bD (swapB b e) w (e+1)*bM b w k (e+1)+bM b w (e+1) e*bM (swapB b e) w k (e+1)=bM (swapB b e) w k e*bD b w (e+1+1):=by
 obtain ⟨p,r,s,T⟩:=two_of H he;have C:=cols_of T H he;have h2:=C.D2;have h3:=C.x;have h4:=C.E1;obtain ⟨A,B,k1,k2,k3,k4⟩:=C.k k hk hkn;have:((bD (swapB b e) w (e+1)*bM b w k (e+1)+bM b w (e+1) e*bM (swapB b e) w k (e+1):Int):Rat)=((bM (swapB b e) w k e*bD b w (e+1+1):Int):Rat):=by
  push_cast;rw [h2,h3,h4,k2,k3,k4]; grind
 exact_mod_cast this
theorem swap_lo (H:Ind b n w) (he:e+1<n) {a t:Nat} (ht:t<e) (hta:t<=a) (ha:a<n):bM (swapB b e) w a t=bM b w (tr2 e (e+1) a) t:=by
 have m:=(swap_ind H he).m hta ha;rw [swap_D H he (by omega) (by omega),pv_swap1 t (by omega),pv_swap1 t (by omega),tr2_o (a:=t) (by omega) (by omega)] at m;have m2:=H.m (a:=tr2 e (e+1) a) (t:=t) (by unfold tr2; (repeat' split)<;>omega) (by unfold tr2; (repeat' split)<;>omega);have:((bM (swapB b e) w a t:Int):Rat)=((bM b w (tr2 e (e+1) a) t:Int):Rat):=by rw [m,m2]
 exact_mod_cast this
theorem swap_hi (H:Ind b n w) (he:e+1<n) {a t:Nat} (ht:e+1<t) (hta:t<=a) (ha:a<n):bM (swapB b e) w a t=bM b w a t:=by
 obtain ⟨p,r,s,T⟩:=two_of H he;obtain ⟨k,rfl⟩:∃ k,t=e+2+k:=⟨t-(e+2),by omega⟩;have m:=(swap_ind H he).m hta ha;rw [swap_D H he (by omega) (by omega),dq_eq (pv_swap2 T k a (by omega) (by omega)) (pv_swap2 T k (e+2+k) (by omega) (by omega)),<-H.m hta ha] at m
 exact_mod_cast m
theorem swap_x (H:Ind b n w) (he:e+1<n):bM (swapB b e) w (e+1) e=bM b w (e+1) e:=by
 obtain ⟨p,r,s,T⟩:=two_of H he;have q0:=λa=>pv_swap1 (w:=w) (b:=b) e (Nat.le_refl e) a;have m:=(swap_ind H he).m (a:=e+1) (t:=e) (by omega) he;rw [swap_D H he (by omega) (by omega),q0 e,tr2_l,q0 (e+1),tr2_r,T.hr] at m;have m2:=H.m (a:=e+1) (t:=e) (by omega) he;rw [T.hr'] at m2;have:((bM (swapB b e) w (e+1) e:Int):Rat)=((bM b w (e+1) e:Int):Rat):=by rw [m,m2]
 exact_mod_cast this
theorem swap_M (H:Ind b n w) (he:e+1<n) {a t:Nat} (hta:t<=a) (ha:a<n):bM (swapB b e) w a t=
 if a=e then (if t<e then bM b w (e+1) t else bD (swapB b e) w (e+1)) else if a=e+1 then (if t<e then bM b w e t else bM b w (e+1) t) else if e+1<a then (if t=e+1 then bM (swapB b e) w a (e+1) else if t=e then bM (swapB b e) w a e else bM b w a t) else bM b w a t:=by
 by_cases e1:a=e
 . rw [if_pos e1];subst e1;by_cases e2:t<a
   . rw [if_pos e2,swap_lo H he e2 hta ha,tr2_l]
   . obtain rfl:t=a:=by omega
     rw [if_neg e2]; rfl
 . rw [if_neg e1];by_cases e2:a=e+1
   . rw [if_pos e2];subst e2;by_cases e3:t<e
     . rw [if_pos e3,swap_lo H he e3 hta ha,tr2_r]
     . rw [if_neg e3];by_cases e4:t=e
       . subst e4; exact swap_x H he
       . obtain rfl:t=e+1:=by omega
         show bD (swapB b e) w (e+1+1)=bD b w (e+1+1);exact swap_D H he (by omega) (by omega)
   . rw [if_neg e2];by_cases e3:e+1<a
     . rw [if_pos e3];by_cases e4:t=e+1
       . rw [if_pos e4,e4]
       . rw [if_neg e4];by_cases e5:t=e
         . rw [if_pos e5,e5]
         . rw [if_neg e5];rcases Nat.lt_or_ge t e with h | h
           . rw [swap_lo H he h hta ha,tr2_o e1 e2]
           . exact swap_hi H he (by omega) hta ha
     . rw [if_neg e3,swap_lo H he (by omega) hta ha,tr2_o e1 e2]
end
end Go.Dt
