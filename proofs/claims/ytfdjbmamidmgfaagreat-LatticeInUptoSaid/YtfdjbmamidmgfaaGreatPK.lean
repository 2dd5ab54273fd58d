/- Determinants of lists of rows; polynomials as rows. -/
import Derived.Test.YtfdjbmamidmgfaaGreatPJ
set_option linter.unusedVariables false
namespace Go.Dt
abbrev Po:=Nat->Rat
def rowAt (L:List Po) (r:Nat):Po:=L.getD r (λ_=>0)
def Dt (L:List Po) (cols:Nat->Nat):Rat:=det L.length (λr c=>rowAt L r (cols c))
theorem rowAt_lt {X Y:List Po} {r:Nat} (h:r<X.length):rowAt (X++Y) r=rowAt X r:=by
 simp [rowAt,List.getD_eq_getElem?_getD,List.getElem?_append_left h]
theorem rowAt_ge {X Y:List Po} {r:Nat} (h:X.length<=r):rowAt (X++Y) r=rowAt Y (r-X.length):=by
 simp [rowAt,List.getD_eq_getElem?_getD,List.getElem?_append_right h]
theorem rowAt_zero (p:Po) (X:List Po):rowAt (p::X) 0=p:=rfl
theorem rowAt_succ (p:Po) (X:List Po) (r:Nat):rowAt (p::X) (r+1)=rowAt X r:=rfl
theorem rowAt_mid (X:List Po) (p:Po) (Y:List Po):rowAt (X++p::Y) X.length=p:=by
 rw [rowAt_ge (Nat.le_refl _),Nat.sub_self]; rfl
theorem rw_mid (X:List Po) (p u:Po) (Y:List Po) (cols:Nat->Nat):(λr c=>rowAt (X++u::Y) r (cols c))=Rw (λr c=>rowAt (X++p::Y) r (cols c)) X.length (λc=>u (cols c)):=by
 funext r c;unfold Rw;dsimp only;rcases Nat.lt_trichotomy r X.length with h | h | h
 . rw [if_neg (by omega),rowAt_lt h,rowAt_lt h]
 . rw [if_pos h,h,rowAt_mid]
 . rw [if_neg (by omega),rowAt_ge (X:=X) (by omega),rowAt_ge (X:=X) (by omega)];obtain ⟨k,hk⟩:∃ k,r-X.length=k+1:=⟨r-X.length-1,by omega⟩;rw [hk,rowAt_succ,rowAt_succ]
theorem len_mid (X:List Po) (p u:Po) (Y:List Po):(X++u::Y).length=(X++p::Y).length:=by simp
theorem Dt_mid (X:List Po) (p u:Po) (Y:List Po) (cols:Nat->Nat):Dt (X++u::Y) cols=det (X++p::Y).length (Rw (λr c=>rowAt (X++p::Y) r (cols c)) X.length (λc=>u (cols c))):=by
 rw [Dt,len_mid X p u Y,rw_mid X p u Y]
theorem Dt_lin (X:List Po) (u v:Po) (Y:List Po) (a b:Rat) (cols:Nat->Nat):Dt (X++(λe=>a*u e+b*v e)::Y) cols=a*Dt (X++u::Y) cols+b*Dt (X++v::Y) cols:=by
 rw [Dt_mid X u (λe=>a*u e+b*v e) Y,Dt_mid X u v Y,Dt_mid X u u Y];exact det_lin _ (λc=>u (cols c)) (λc=>v (cols c)) a b (by simp)
theorem Dt_scale (X:List Po) (u:Po) (Y:List Po) (a:Rat) (cols:Nat->Nat):Dt (X++(λe=>a*u e)::Y) cols=a*Dt (X++u::Y) cols:=by
 have h:=Dt_lin X u u Y a 0 cols;rw [show (λe=>a*u e+0*u e)=λe=>a*u e by funext e; grind] at h;rw [h]; grind
theorem Dt_eq {L:List Po} {p q:Nat} (hp:p<L.length) (hq:q<L.length) (hpq:p≠q) (h:rowAt L p=rowAt L q) (cols:Nat->Nat):Dt L cols=0:=
 det_eqrows hp hq hpq λc=>by rw [h]
theorem mem_rowAt {q:Po}:∀ {L:List Po},q∈L->∃ r,r<L.length/\rowAt L r=q
 | p::L,h=>by
  rcases List.mem_cons.1 h with rfl | h
  . exact ⟨0,by simp,rfl⟩
  . obtain ⟨r,h1,h2⟩:=mem_rowAt h;exact ⟨r+1,by simpa using h1,h2⟩
theorem Dt_add {X Y:List Po} {q:Po} (hq:q∈X\/q∈Y) (p:Po) (a:Rat) (cols:Nat->Nat):Dt (X++(λe=>p e+a*q e)::Y) cols=Dt (X++p::Y) cols:=by
 have h:=Dt_lin X p q Y 1 a cols;rw [show (λe=>1*p e+a*q e)=λe=>p e+a*q e by funext e; grind] at h;have z:Dt (X++q::Y) cols=0:=by
  rcases hq with hq | hq
  . obtain ⟨r,h1,h2⟩:=mem_rowAt hq;exact Dt_eq (p:=r) (q:=X.length) (by simp; omega) (by simp) (by omega) (by rw [rowAt_lt h1,h2,rowAt_mid]) cols
  . obtain ⟨r,h1,h2⟩:=mem_rowAt hq;refine Dt_eq (p:=X.length) (q:=X.length+1+r) (by simp) (by simp; omega) (by omega) ?_ cols;rw [rowAt_mid,rowAt_ge (by omega),show X.length+1+r-X.length=r+1 by omega,rowAt_succ,h2]
 rw [h,z]; grind
theorem Dt_corner {p:Po} {X:List Po} {cols:Nat->Nat} (h:∀ q∈X,q (cols 0)=0):Dt (p::X) cols=p (cols 0)*Dt X (λc=>cols (c+1)):=by
 have e:=det_corner (n:=X.length) (M:=λr c=>rowAt (p::X) r (cols c)) λr h0 hr=>by
  obtain ⟨k,rfl⟩:∃ k,r=k+1:=⟨r-1,by omega⟩;show rowAt (p::X) (k+1) (cols 0)=0;rw [rowAt_succ];have hk:k<X.length:=by omega
  have hm:rowAt X k∈X:=by simp [rowAt,List.getD_eq_getElem?_getD,List.getElem?_eq_getElem hk]
  exact h _ hm
 exact e
inductive Sp (X:List Po):Po->Prop
 | zero:Sp X (λ_=>0)
 | add (f q:Po) (a:Rat) (h:Sp X f) (hq:q∈X):Sp X (λe=>f e+a*q e)
theorem Dt_span {X Y W:List Po} {f:Po} (h:Sp X f) (p:Po) (cols:Nat->Nat):Dt (X++(Y++(λe=>p e+f e)::W)) cols=Dt (X++(Y++p::W)) cols:=by
 induction h with
 | zero=>rw [show (λe=>p e+(0:Rat))=p by funext e; grind]
 | add f q a hf hq ih=>
  have h:=Dt_add (X:=X++Y) (Y:=W) (q:=q) (.inl (by simp [hq])) (λe=>p e+f e) a cols;rw [show (λe=>p e+(f e+a*q e))=λe=>p e+f e+a*q e by funext e; grind];rw [List.append_assoc,List.append_assoc] at h;rw [h,ih]
theorem Dt_reduce {X:List Po} {a:Rat} (cols:Nat->Nat):∀ (Y Y' Z:List Po),Y'.length=Y.length->(∀ i,i<Y.length->∃ f,Sp X f/\rowAt Y' i=λe=>a*rowAt Y i e+f e)->Dt (X++(Z++Y')) cols=a^Y.length*Dt (X++(Z++Y)) cols
 | [],[],Z,_,_=>by simp
 | y::Y,y'::Y',Z,hl,h=>by
  obtain ⟨f,hf,hy⟩:=h 0 (by simp);rw [rowAt_zero,rowAt_zero] at hy;have ih:=Dt_reduce (X:=X) (a:=a) cols Y Y' (Z++[y]) (by simpa using hl) λi hi=>by
   have:=h (i+1) (by simpa using hi)
   rwa [rowAt_succ,rowAt_succ] at this
  simp only [List.append_assoc,List.singleton_append] at ih;rw [hy,Dt_span hf];have hs:=Dt_scale (X++Z) y Y' a cols;rw [List.append_assoc,List.append_assoc] at hs;rw [hs,ih,List.length_cons,Rat.pow_succ];grind
end Go.Dt
