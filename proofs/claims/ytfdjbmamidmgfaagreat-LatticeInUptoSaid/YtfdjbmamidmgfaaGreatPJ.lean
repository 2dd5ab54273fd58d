/- Determinants over the fractions: rows as functions; the plain laws. -/
set_option linter.unusedVariables false
namespace Go.Dt
def sm (f:Nat->Rat):Nat->Rat
 | 0=>0
 | n+1=>sm f n+f n
theorem sm_congr {f g:Nat->Rat}:∀ {n:Nat},(∀ i,i<n->f i=g i)->sm f n=sm g n
 | 0,_=>rfl
 | n+1,h=>by rw [sm,sm,sm_congr λi hi=>h i (by omega),h n (by omega)]
theorem sm_zero {f:Nat->Rat}:∀ {n:Nat},(∀ i,i<n->f i=0)->sm f n=0
 | 0,_=>rfl
 | n+1,h=>by rw [sm,sm_zero λi hi=>h i (by omega),h n (by omega)]; grind
theorem sm_add (f g:Nat->Rat):∀ n,sm (λi=>f i+g i) n=sm f n+sm g n
 | 0=>by simp only [sm]; grind
 | n+1=>by simp only [sm]; rw [sm_add f g n]; grind
theorem sm_mul (a:Rat) (f:Nat->Rat):∀ n,sm (λi=>a*f i) n=a*sm f n
 | 0=>by simp only [sm]; grind
 | n+1=>by simp only [sm]; rw [sm_mul a f n]; grind
theorem sm_neg (f:Nat->Rat):∀ n,sm (λi=> -f i) n= -sm f n
 | 0=>by simp only [sm]; grind
 | n+1=>by simp only [sm]; rw [sm_neg f n]; grind
theorem sm_head (f:Nat->Rat):∀ n,sm f (n+1)=f 0+sm (λi=>f (i+1)) n
 | 0=>by simp only [sm]; grind
 | n+1=>by rw [sm,sm_head f n,sm]; grind
theorem sm_pairs (g:Nat->Nat->Rat):∀ N,sm (λj=>sm (λk=>if k<j then g k j else -g j (k+1)) N) (N+1)=0
 | 0=>by simp only [sm]; grind
 | N+1=>by
  have h1:sm (λj=>sm (λk=>if k<j then g k j else -g j (k+1)) (N+1)) (N+1)=sm (λj=>sm (λk=>if k<j then g k j else -g j (k+1)) N+ -g j (N+1)) (N+1):=by
   refine sm_congr λj hj=>?_;rw [sm,if_neg (show ¬ N<j by omega)]
  have h2:sm (λk=>if k<N+1 then g k (N+1) else -g (N+1) (k+1)) (N+1)=sm (λk=>g k (N+1)) (N+1):=sm_congr λk hk=>by rw [if_pos hk]
  rw [sm,h1,sm_add,sm_pairs g N,sm_neg,h2];grind
def sg (j:Nat):Rat:=if j%2=0 then 1 else -1
theorem sg_zero:sg 0=1:=rfl
theorem sg_succ (j:Nat):sg (j+1)= -sg j:=by
 rcases Nat.mod_two_eq_zero_or_one j with h | h
 . have e:(j+1)%2=1:=by omega
   simp [sg,h,e]
 . have e:(j+1)%2=0:=by omega
   simp [sg,h,e]
abbrev Mx:=Nat->Nat->Rat
def sk (j c:Nat):Nat:=if c<j then c else c+1
theorem sk_sk {j k:Nat} (h:j<=k) (c:Nat):sk j (sk k c)=sk (k+1) (sk j c):=by
 unfold sk;by_cases h1:c<k
 . rw [if_pos h1];by_cases h2:c<j
   . rw [if_pos h2,if_pos (by omega)]
   . rw [if_neg h2,if_pos (by omega)]
 . rw [if_neg h1,if_neg (show ¬ c+1<j by omega),if_neg (show ¬ c<j by omega),if_neg (by omega)]
theorem sk_lt {j c n:Nat} (hc:c<n):sk j c<n+1:=by unfold sk; split<;>omega
def det:Nat->Mx->Rat
 | 0,_=>1
 | n+1,M=>sm (λj=>sg j*M 0 j*det n (λr c=>M (r+1) (sk j c))) (n+1)
theorem det_congr:∀ {n:Nat} {M N:Mx},(∀ r c,r<n->c<n->M r c=N r c)->det n M=det n N
 | 0,_,_,_=>rfl
 | n+1,M,N,h=>by
  rw [det,det];refine sm_congr λj hj=>?_;rw [h 0 j (by omega) hj,det_congr λr c hr hc=>h (r+1) (sk j c) (by omega) (sk_lt hc)]
def Rw (M:Mx) (p:Nat) (u:Nat->Rat):Mx:=λr c=>if r=p then u c else M r c
theorem Rw_self (M:Mx) (p:Nat):Rw M p (M p)=M:=by
 funext r c;unfold Rw;split
 . rename_i h; rw [h]
 . rfl
theorem Rw_minor (M:Mx) (p:Nat) (u:Nat->Rat) (j:Nat):(λr c=>Rw M (p+1) u (r+1) (sk j c))=Rw (λr c=>M (r+1) (sk j c)) p (λc=>u (sk j c)):=by
 funext r c;unfold Rw;by_cases h:r=p
 . rw [if_pos h,if_pos (by omega)]
 . rw [if_neg h,if_neg (by omega)]
theorem det_lin:∀ {n p:Nat} (M:Mx) (u v:Nat->Rat) (a b:Rat),p<n->det n (Rw M p (λc=>a*u c+b*v c))=a*det n (Rw M p u)+b*det n (Rw M p v)
 | n+1,0,M,u,v,a,b,_=>by
  rw [det,det,det,<-sm_mul,<-sm_mul,<-sm_add];refine sm_congr λj _=>?_;have e:∀ w:Nat->Rat,(λr c=>Rw M 0 w (r+1) (sk j c))=λr c=>M (r+1) (sk j c):=λw=>by
   funext r c; unfold Rw; rw [if_neg (by omega)]
  rw [e,e,e];simp only [Rw,if_true];grind
 | n+1,p+1,M,u,v,a,b,hp=>by
  rw [det,det,det,<-sm_mul,<-sm_mul,<-sm_add];refine sm_congr λj _=>?_;rw [Rw_minor,Rw_minor,Rw_minor,det_lin _ _ _ a b (show p<n by omega)];simp only [Rw,show ¬ (0=p+1) by omega,if_false];grind
theorem det_two {n:Nat} {M:Mx} (h:∀ c,M 0 c=M 1 c):det (n+2) M=0:=by
 have e:det (n+2) M=sm (λj=>sm (λk=>if k<j then (λp q=>sg p*sg q*M 0 p*M 0 q*det n (λr c=>M (r+2) (sk q (sk p c)))) k j else -(λp q=>sg p*sg q*M 0 p*M 0 q*det n (λr c=>M (r+2) (sk q (sk p c)))) j (k+1)) (n+1)) (n+2):=by
  rw [det];refine sm_congr λj _=>?_;rw [det,<-sm_mul];refine sm_congr λk _=>?_;simp only [Nat.zero_add,show ∀ r,r+1+1=r+2 from λ_=>rfl];rw [<- h];by_cases hk:k<j
  . rw [if_pos hk];rw [show sk j k=k by unfold sk; rw [if_pos hk]];grind
  . rw [if_neg hk,show sk j k=k+1 by unfold sk; rw [if_neg hk],sg_succ];have e2:(λr c=>M (r+2) (sk j (sk k c)))=λr c=>M (r+2) (sk (k+1) (sk j c)):=by
     funext r c; rw [sk_sk (by omega)]
    rw [e2];grind
 rw [e,sm_pairs]
theorem det_adj:∀ {p n:Nat} {M:Mx},p+1<n->(∀ c,M p c=M (p+1) c)->det n M=0
 | 0,n+2,M,_,h=>det_two h
 | p+1,n+1,M,hp,h=>by
  rw [det];refine sm_zero λj _=>?_;rw [det_adj (p:=p) (by omega) λc=>h (sk j c)];grind
def Sw (M:Mx) (p:Nat):Mx:=Rw (Rw M p (M (p+1))) (p+1) (M p)
theorem det_swap {p n:Nat} (M:Mx) (hp:p+1<n):det n (Sw M p)= -det n M:=by
 have key:∀ u v:Nat->Rat,(Rw (Rw M p u) (p+1) v)=(Rw (Rw M (p+1) v) p u):=by
  intro u v;funext r c;unfold Rw;by_cases h1:r=p+1
  . rw [if_pos h1,if_neg (by omega),if_pos h1]
  . rw [if_neg h1];by_cases h2:r=p
    . rw [if_pos h2,if_pos h2]
    . rw [if_neg h2,if_neg h2,if_neg h1]
 have z:∀ u:Nat->Rat,det n (Rw (Rw M p u) (p+1) u)=0:=λu=>det_adj hp λc=>by
  unfold Rw; rw [if_neg (by omega),if_pos rfl,if_pos rfl]
 obtain ⟨u,hu⟩:∃ u,u=M p:=⟨_,rfl⟩;obtain ⟨v,hv⟩:∃ u,u=M (p+1):=⟨_,rfl⟩;have h0:=z (λc=>1*u c+1*v c);rw [det_lin _ _ _ 1 1 hp,key,key,det_lin _ _ _ 1 1 (show p<n by omega),det_lin _ _ _ 1 1 (show p<n by omega),<-key,<-key,<-key,<-key,z,z] at h0;have hM:Rw (Rw M p u) (p+1) v=M:=by rw [hu,Rw_self,hv,Rw_self]
 rw [hM] at h0;rw [Sw,<-hu,<-hv];grind
theorem det_same:∀ (d:Nat) {p q n:Nat} {M:Mx},q=p+1+d->q<n->(∀ c,M p c=M q c)->det n M=0
 | 0,p,q,n,M,hq,hn,h=>det_adj (p:=p) (by omega) λc=>by rw [h c,hq]
 | d+1,p,q,n,M,hq,hn,h=>by
  have h1:=det_swap M (p:=q-1) (n:=n) (by omega);have h2:det n (Sw M (q-1))=0:=det_same d (p:=p) (q:=q-1) (by omega) (by omega) λc=>by
   unfold Sw Rw;rw [if_neg (by omega),if_neg (by omega),if_neg (by omega),if_pos rfl,h c,show q-1+1=q by omega]
  rw [h2] at h1;grind
theorem det_eqrows {p q n:Nat} {M:Mx} (hp:p<n) (hq:q<n) (hpq:p≠q) (h:∀ c,M p c=M q c):det n M=0:=by
 rcases Nat.lt_or_ge p q with h1 | h1
 . exact det_same (q-p-1) (by omega) hq h
 . exact det_same (p-q-1) (p:=q) (q:=p) (by omega) hp λc=>(h c).symm
theorem det_col0:∀ {n:Nat} {M:Mx},(∀ r,r<n+1->M r 0=0)->det (n+1) M=0
 | 0,M,h=>by
  rw [det];refine sm_zero λj hj=>?_;obtain rfl:j=0:=by omega
  rw [h 0 (by omega)]; grind
 | n+1,M,h=>by
  rw [det];refine sm_zero λj hj=>?_;cases j with
  | zero=>rw [h 0 (by omega)]; grind
  | succ j=>
   rw [det_col0 (n:=n) (M:=λr c=>M (r+1) (sk (j+1) c)) λr hr=>by
    show M (r+1) (sk (j+1) 0)=0;rw [show sk (j+1) 0=0 by unfold sk; rw [if_pos (by omega)]];exact h (r+1) (by omega)]
   grind
theorem det_corner {n:Nat} {M:Mx} (h:∀ r,0<r->r<n+1->M r 0=0):det (n+1) M=M 0 0*det n (λr c=>M (r+1) (c+1)):=by
 rw [det,sm_head,sm_zero λj hj=>?_]
 . rw [sg_zero,show (λr c=>M (r+1) (sk 0 c))=λr c=>M (r+1) (c+1) by funext r c; unfold sk; rw [if_neg (by omega)]];grind
 . obtain ⟨m,rfl⟩:∃ m,n=m+1:=⟨n-1,by omega⟩;rw [det_col0 (n:=m) λr hr=>?_]
   . grind
   . show M (r+1) (sk (j+1) 0)=0;rw [show sk (j+1) 0=0 by unfold sk; rw [if_pos (by omega)]];exact h (r+1) (by omega) (by omega)
end Go.Dt
