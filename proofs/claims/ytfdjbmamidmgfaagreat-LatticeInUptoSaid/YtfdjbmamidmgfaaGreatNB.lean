/- Division limb by limb, in plain numbers. -/
import Derived.Test.YtfdjbmamidmgfaaGreatNA
set_option linter.unusedVariables false
namespace Go.Nm
theorem part_high {B V n k:Nat} {u:List Nat} (hB:0<B) (hu:Dl B u) (hV:V<B^n) (h:val B (u.drop (k+1))<V):val B (u.drop (k+n+1))=0:=by
 have:=val_drop_div hB (hu.drop (k+1)) n;rw [List.drop_drop,show k+1+n=k+n+1 by omega] at this;rw [this];exact Nat.div_eq_of_lt (by omega)
theorem part_val {B n k:Nat} {u:List Nat} (hk:k+n+1<=u.length) (h:val B (u.drop (k+n+1))=0):val B ((u.take (k+n+1)).drop k)=val B (u.drop k):=by
 have e:u.drop k=(u.take (k+n+1)).drop k++u.drop (k+n+1):=by
  conv=>lhs; rw [<- List.take_append_drop (k+n+1) u]
  rw [List.drop_append_of_le_length (by simp; omega)]
 rw [e,val_append,h,Nat.mul_zero]; rfl
theorem three_val {B n k:Nat} {u:List Nat} (hB:0<B) (hu:Dl B u) (hn:2<=n) (h:val B (u.drop (k+n+1))=0):
 (u.getD (k+n) 0*B+u.getD (k+n-1) 0)*B+u.getD (k+n-2) 0=val B (u.drop k) / B^(n-2):=by
 have:=val_drop_div hB (hu.drop k) (n-2);rw [List.drop_drop] at this;rw [<- this,show k+(n-2)=k+n-2 by omega,val_drop,show k+n-2+1=k+n-1 by omega,val_drop,show k+n-1+1=k+n by omega,val_drop,h,Nat.mul_zero,Nat.add_zero,
  Nat.add_mul,Nat.mul_add,Nat.mul_comm B (B*_),Nat.mul_comm B (u.getD (k+n) 0),Nat.mul_comm B (u.getD (k+n-1) 0)]
 omega
theorem two_val {B n:Nat} {v:List Nat} (hB:0<B) (hv:Dl B v) (hn:2<=n) (hl:v.length=n):
 v.getD (n-1) 0*B+v.getD (n-2) 0=val B v / B^(n-2):=by
 have:=val_drop_div hB hv (n-2);rw [<- this,val_drop,show n-2+1=n-1 by omega,val_drop,show n-1+1=n by omega,List.drop_of_length_le (by omega)];simp only [val,Nat.mul_zero,Nat.add_zero];rw [Nat.mul_comm B]; omega
theorem quot_le {T V E:Nat} (hE:0<E) (hV:0<V / E):T / V<=(T / E) / (V / E):=by
 rw [Nat.le_div_iff_mul_le hV,Nat.le_div_iff_mul_le hE,Nat.mul_assoc];exact Nat.le_trans (Nat.mul_le_mul_left _ (Nat.div_mul_le_self _ _)) (Nat.div_mul_le_self _ _)
theorem quot_lt {B T V x W:Nat} (hV:0<V) (hB:x<B) (hT:T=x+B*W) (hW:W<V):T / V<B:=by
 rw [Nat.div_lt_iff_lt_mul hV];have:B*(W+1)<=B*V:=Nat.mul_le_mul_left _ hW;rw [Nat.mul_add] at this;omega
theorem round_val {B V n k x T:Nat} {u L:List Nat} (hk:k+n+1<=u.length) (h0:val B (u.drop (k+n+1))=0) (hT:T=val B (u.drop k)) (hL:L.length=n+1) (hLv:val B L=T-V*x) (hx:V*x<=T):
 val B (u.take k++L++u.drop (k+n+1))+B^k*(V*x)=val B u/\val B ((u.take k++L++u.drop (k+n+1)).drop k)=T-V*x:=by
 have htk:(u.take k).length=k:=by simp; omega
 refine ⟨?_,?_⟩
 . rw [val_append,val_append,h0,Nat.mul_zero,Nat.add_zero,htk,hLv,val_split B u k (by omega),<-hT,Nat.add_assoc,<-Nat.mul_add];congr 2; omega
 . have:(u.take k++L++u.drop (k+n+1)).drop k=L++u.drop (k+n+1):=by
    rw [List.append_assoc,List.drop_append_of_le_length (by omega),List.drop_of_length_le (by omega)]; rfl
   rw [this,val_append,h0,Nat.mul_zero,Nat.add_zero,hLv]
theorem fill_val {B m r:Nat} (hB:2<=B) (h:r<B^m):((dig B r++List.replicate m 0).take m).length=m/\val B ((dig B r++List.replicate m 0).take m)=r/\Dl B ((dig B r++List.replicate m 0).take m):=by
 have hd:=dig_lt hB r;have hl:=dig_length_le hB h;have e:(dig B r++List.replicate m 0).take m=dig B r++List.replicate (m-(dig B r).length) 0:=by
  rw [List.take_append,List.take_of_length_le hl,List.take_replicate,Nat.min_eq_left (by omega)]
 refine ⟨by rw [e]; simp; omega,?_,?_⟩
 . rw [e,val_append,val_replicate,Nat.mul_zero,Nat.add_zero,val_dig hB]
 . rw [e]; exact hd.append (Dl.replicate (by omega) _)
theorem top_facts {B:Nat} (hB:2<=B) {N:Nat} (hN:N≠0):∃ n,(dig B N).length=n+1/\(dig B N).getD n 0≠0/\(dig B N).getD n 0<B/\B^n*(dig B N).getD n 0<=N/\N<B^n*((dig B N).getD n 0+1):=by
 have hp:=dig_length_pos hB hN;refine ⟨(dig B N).length-1,by omega,?_⟩;have hd:=dig_lt hB N;have hv:=val_dig hB N;obtain ⟨l,hl⟩:∃ l,l=dig B N:=⟨_,rfl⟩;have ht:trim l=l:=by rw [hl]; exact trim_dig hB N
 rw [<- hl] at hp hd hv ⊢;have hs:=val_split B l (l.length-1) (by omega);rw [val_drop,show l.length-1+1=l.length by omega,List.drop_of_length_le (Nat.le_refl _)] at hs;simp only [val,Nat.mul_zero,Nat.add_zero] at hs;have hlow:=val_lt (hd.take (l.length-1));rw [List.length_take,Nat.min_eq_left (by omega)] at hlow;refine ⟨λh0=>?_,hd.get (by omega) _,?_,?_⟩
 . have:l=l.take (l.length-1)++[0]:=by
    conv=>lhs; rw [<- List.take_append_drop (l.length-1) l]
    congr 1;rw [List.drop_eq_getElem_cons (by omega),show l.length-1+1=l.length by omega,List.drop_of_length_le (Nat.le_refl _)];have:l[l.length-1]=0:=by simpa [List.getD,show l.length-1<l.length by omega] using h0
    rw [this]
   have h2:=trim_snoc_zero (l.take (l.length-1));rw [<- this,ht] at h2;have h3:=trim_length_le (l.take (l.length-1));rw [<- h2] at h3;simp at h3;omega
 . omega
 . rw [Nat.mul_add,Nat.mul_one]; omega
theorem dig_len {B:Nat} (hB:2<=B) {N n:Nat} (h1:B^n<=N) (h2:N<B^(n+1)):(dig B N).length=n+1:=by
 have hp:0<B^n:=Nat.pow_pos (by omega);obtain ⟨m,e1,e2,e3,e4,e5⟩:=top_facts hB (N:=N) (by omega);rw [e1];have h3:N<B^(m+1):=Nat.lt_of_lt_of_le e5 (by rw [Nat.pow_succ]; exact Nat.mul_le_mul_left _ e3);have h4:B^m<=N:=Nat.le_trans (by
  have:1<=(dig B N).getD m 0:=by omega
  calc B^m=B^m*1:=(Nat.mul_one _).symm
   _<=_:=Nat.mul_le_mul_left _ this) e4
 have h5:=(Nat.pow_lt_pow_iff_right (show 1<B by omega)).1 (Nat.lt_of_le_of_lt h4 h2);have h6:=(Nat.pow_lt_pow_iff_right (show 1<B by omega)).1 (Nat.lt_of_le_of_lt h1 h3);omega
theorem norm_facts {B N x s n:Nat} (hB:2<=B) (h1:B^n*x<=N) (h2:N<B^n*(x+1)) (hx:x≠0) (hs:(x+1)*2^s<=B):B^n*2^s<=N*2^s/\B^n<=N*2^s/\N*2^s<B^(n+1):=by
 have hp:0<2^s:=Nat.pow_pos (by omega);have h3:B^n<=N:=Nat.le_trans (by
  have:1<=x:=by omega
  calc B^n=B^n*1:=(Nat.mul_one _).symm
   _<=_:=Nat.mul_le_mul_left _ this) h1
 refine ⟨Nat.mul_le_mul_right _ h3,Nat.le_trans h3 (Nat.le_mul_of_pos_right _ hp),?_⟩
 calc N*2^s<B^n*(x+1)*2^s:=Nat.mul_lt_mul_of_pos_right h2 hp
  _=B^n*((x+1)*2^s):=Nat.mul_assoc _ _ _
  _<=B^n*B:=Nat.mul_le_mul_left _ hs
  _=B^(n+1):=(Nat.pow_succ ..).symm
theorem first_high {B U V n m s A:Nat} (hB:2<=B) (hA:A<B^m) (hU:U=A*2^s) (hn:1<=n) (hnm:n<=m) (hV:B^(n-1)*2^s<=V):U / B^(m-n+1)<V:=by
 refine Nat.lt_of_lt_of_le ?_ hV;rw [Nat.div_lt_iff_lt_mul (Nat.pow_pos (by omega))];have hp:0<2^s:=Nat.pow_pos (by omega)
 calc U<B^m*2^s:=by rw [hU]; exact Nat.mul_lt_mul_of_pos_right hA hp
  _=B^(n-1)*2^s*B^(m-n+1):=by
   rw [Nat.mul_right_comm,<-Nat.pow_add]; congr 2; omega
theorem div_end {U V Q W A D S:Nat} (hU:U=V*Q+W) (hW:W<V) (hUA:U=A*S) (hVD:V=D*S) (hS:0<S):Q=A / D/\W / S=A%D:=by
 have hD:0<D:=by
  rcases Nat.eq_zero_or_pos D with h | h
  . subst h; simp at hVD; omega
  . exact h
 have h1:W=S*(A-D*Q):=by
  have:A*S-D*S*Q=W:=by rw [<- hVD,<-hUA,hU]; omega
  rw [<- this,Nat.mul_sub,Nat.mul_comm S A];congr 1;rw [Nat.mul_comm D S,Nat.mul_assoc]
 have h3:D*Q<=A:=by
  have:D*Q*S<=A*S:=by rw [Nat.mul_right_comm,<-hVD,<-hUA,hU]; omega
  exact Nat.le_of_mul_le_mul_right this hS
 obtain ⟨R,hR⟩:∃ R,A=D*Q+R:=⟨A-D*Q,by omega⟩;have h4:A-D*Q=R:=by omega
 rw [h4] at h1;have h5:R<D:=by
  rw [h1,hVD,Nat.mul_comm D S] at hW;exact Nat.lt_of_mul_lt_mul_left hW
 refine ⟨?_,?_⟩
 . rw [hR,Nat.mul_add_div hD,Nat.div_eq_of_lt h5,Nat.add_zero]
 . rw [h1,Nat.mul_div_cancel_left _ hS,hR,Nat.mul_add_mod,Nat.mod_eq_of_lt h5]
end Go.Nm
