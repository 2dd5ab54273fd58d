/- Subresultants, as determinants of rows. -/
import Derived.Test.YtfdjbmamidmgfaaPK
set_option linter.unusedVariables false
namespace Go.Dt
def sh (i:Nat) (f:Po):Po:=fun e=>if i<=e then f (e-i) else 0
def shs (f:Po):Nat->List Po
 | 0=>[]
 | k+1=>sh k f::shs f k
theorem shs_len (f:Po):∀ k,(shs f k).length=k
 | 0=>rfl
 | k+1=>by rw [shs,List.length_cons,shs_len f k]
theorem mem_shs {f q:Po}:∀ {k:Nat},q∈shs f k↔∃ i,i<k/\q=sh i f
 | 0=>by simp [shs]
 | k+1=>by
  rw [shs,List.mem_cons,mem_shs];constructor
  . rintro (h | ⟨i,hi,h⟩)
    . exact ⟨k,by omega,h⟩
    . exact ⟨i,by omega,h⟩
  . rintro ⟨i,hi,h⟩;by_cases e:i=k
    . subst e; exact .inl h
    . exact .inr ⟨i,by omega,h⟩
theorem rowAt_shs (f:Po):∀ {k i:Nat},i<k->rowAt (shs f k) i=sh (k-1-i) f
 | k+1,0,_=>rfl
 | k+1,i+1,h=>by rw [shs,rowAt_succ,rowAt_shs f (by omega)]; congr 1; omega
theorem sh_sh (i k:Nat) (f:Po):sh i (sh k f)=sh (i+k) f:=by
 funext e;unfold sh;by_cases h:i<=e
 . rw [if_pos h];by_cases h2:k<=e-i
   . rw [if_pos h2,if_pos (by omega)]; congr 1; omega
   . rw [if_neg h2,if_neg (by omega)]
 . rw [if_neg h,if_neg (by omega)]
theorem sh_top {f:Po} {n:Nat} (h:∀ e,n<e->f e=0) (i e:Nat) (he:n+i<e):sh i f e=0:=by
 unfold sh;split
 . exact h _ (by omega)
 . rfl
def colf (top t N:Nat):Nat->Nat:=fun c=>if c+1=N then t else top-c
theorem colf_succ (top t N:Nat):(fun c=>colf top t (N+1) (c+1))=colf (top-1) t N:=by
 funext c;unfold colf;by_cases h:c+1=N
 . rw [if_pos (by omega),if_pos h]
 . rw [if_neg (by omega),if_neg h]; omega
theorem tri {B:Po} {n:Nat} (hB:∀ e,n<e->B e=0) {Y:List Po} (t:Nat):∀ (k s N:Nat),k<=s->k<N->(∀ q∈Y,∀ e,n+s-k<=e->q e=0)->Dt (shs B s++Y) (colf (n+s-1) t N)=B n^k*Dt (shs B (s-k)++Y) (colf (n+s-1-k) t (N-k))
 | 0,s,N,_,_,_=>by simp
 | k+1,s,N,hs,hN,hY=>by
  obtain ⟨s',rfl⟩:∃ s',s=s'+1:=⟨s-1,by omega⟩;obtain ⟨N',rfl⟩:∃ s',N=s'+1:=⟨N-1,by omega⟩;have c0:colf (n+(s'+1)-1) t (N'+1) 0=n+s':=by
   unfold colf; rw [if_neg (by omega)]; omega
  rw [shs,List.cons_append,Dt_corner (fun q hq=>?_),c0,colf_succ]
  . have e1:sh s' B (n+s')=B n:=by
     unfold sh; rw [if_pos (by omega)]; congr 1; omega
    have ih:=tri hB t k s' N' (by omega) (by omega) (fun q hq e he=>hY q hq e (by omega));rw [e1,show n+(s'+1)-1-1=n+s'-1 by omega,ih,Rat.pow_succ,show s'+1-(k+1)=s'-k by omega,show n+(s'+1)-1-(k+1)=n+s'-1-k by omega,show N'+1-(k+1)=N'-k by omega];grind
  . rw [c0];rcases List.mem_append.1 hq with h | h
    . obtain ⟨i,hi,rfl⟩:=mem_shs.1 h;exact sh_top hB _ _ (by omega)
    . exact hY q h _ (by omega)
def Sub (A B:Po) (m n j t:Nat):Rat:=Dt (shs A (n-j)++shs B (m-j)) (colf (m+n-j-1) t (m+n-2*j))
theorem sub_flip (A B:Po) (m n j t:Nat):Sub A B m n j t=sg ((n-j)*(m-j))*Dt (shs B (m-j)++shs A (n-j)) (colf (m+n-j-1) t (m+n-2*j)):=by
 have h:=Dt_block (colf (m+n-j-1) t (m+n-2*j)) (shs B (m-j)) [] (shs A (n-j));rw [List.nil_append,List.nil_append,shs_len,shs_len] at h;rw [Sub,h]
theorem sp_sh {B f:Po} {s i:Nat} (h:Sp (shs B s) f):Sp (shs B (s+i)) (sh i f):=by
 induction h with
 | zero=>
  rw [show sh i (fun _=>0)=fun _=>(0:Rat) by funext e; unfold sh; split<;>rfl];exact .zero
 | add f q a hf hq ih=>
  obtain ⟨k,hk,rfl⟩:=mem_shs.1 hq;rw [show sh i (fun e=>f e+a*sh k B e)=fun e=>sh i f e+a*sh (k+i) B e by
   funext e;rw [<- show sh i (sh k B)=sh (k+i) B by rw [sh_sh,Nat.add_comm]];show (if i<=e then _ else _)=(if i<=e then _ else _)+a*(if i<=e then _ else _);split
   . rfl
   . grind]
  exact .add _ _ a ih (mem_shs.2 ⟨k+i,by omega,rfl⟩)
theorem sp_mono {B f:Po} {s s':Nat} (h:Sp (shs B s) f) (hs:s<=s'):Sp (shs B s') f:=by
 induction h with
 | zero=>exact .zero
 | add f q a hf hq ih=>
  obtain ⟨k,hk,rfl⟩:=mem_shs.1 hq;exact .add _ _ a ih (mem_shs.2 ⟨k,by omega,rfl⟩)
theorem shs_reduce {A B R f:Po} {L:Rat} {d:Nat} (hR:R=fun e=>L*A e+f e) (hf:Sp (shs B (d+1)) f) (s k:Nat) (hk:d+k<=s) (cols:Nat->Nat):Dt (shs B s++shs R k) cols=L^k*Dt (shs B s++shs A k) cols:=by
 have h:=Dt_reduce (X:=shs B s) (a:=L) cols (shs A k) (shs R k) [] (by rw [shs_len,shs_len]) fun i hi=>by
  rw [shs_len] at hi;refine ⟨sh (k-1-i) f,sp_mono (sp_sh (i:=k-1-i) hf) (by omega),?_⟩;rw [rowAt_shs R hi,rowAt_shs A hi,hR];funext e;unfold sh;split
  . rfl
  . grind
 rw [List.nil_append,List.nil_append,shs_len] at h;exact h
theorem sub_step {A B R f:Po} {L:Rat} {m n k j:Nat} (t:Nat) (hB:∀ e,n<e->B e=0) (hk0:∀ e,k<e->R e=0) (hR:R=fun e=>L*A e+f e) (hf:Sp (shs B (m-n+1)) f) (hmn:n<=m) (hk:k<n) (hj:j<=k):
 L^(n-j)*Sub A B m n j t=sg ((n-j)*(m-j))*(B n^(m-k)*Sub B R n k j t):=by
 have h1:=shs_reduce (k:=n-j) (s:=m-j) hR hf (by omega) (colf (m+n-j-1) t (m+n-2*j));have h2:=tri hB (Y:=shs R (n-j)) t (m-k) (m-j) (m+n-2*j) (by omega) (by omega) fun q hq e he=>by
  obtain ⟨i,hi,rfl⟩:=mem_shs.1 hq;exact sh_top hk0 _ _ (by omega)
 rw [show n+(m-j)-1=m+n-j-1 by omega] at h2;rw [show m-j-(m-k)=k-j by omega,show m+n-j-1-(m-k)=n+k-j-1 by omega,show m+n-2*j-(m-k)=n+k-2*j by omega] at h2;rw [sub_flip,show L^(n-j)*(sg ((n-j)*(m-j))*Dt (shs B (m-j)++shs A (n-j)) (colf (m+n-j-1) t (m+n-2*j)))=sg ((n-j)*(m-j))*(L^(n-j)*Dt (shs B (m-j)++shs A (n-j)) (colf (m+n-j-1) t (m+n-2*j))) by grind,<-h1,h2];rfl
theorem Dt_one (p:Po) (cols:Nat->Nat):Dt [p] cols=p (cols 0):=by
 have:=Dt_corner (p:=p) (X:=[]) (cols:=cols) (by simp);rw [this,show Dt [] (fun c=>cols (c+1))=1 from rfl]; grind
end Go.Dt
