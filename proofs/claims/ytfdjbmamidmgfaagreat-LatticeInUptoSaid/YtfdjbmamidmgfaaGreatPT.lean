/- Bareiss' way to a determinant: each number is a determinant of the first rows and one more, so that each quotient is without a rest. -/
import Derived.Test.YtfdjbmamidmgfaaGreatPS
set_option linter.unusedVariables false
namespace Go.Dt
theorem Rw_comm {M:Mx} {p q:Nat} (h:p≠q) (u v:Nat->Rat):Rw (Rw M p u) q v=Rw (Rw M q v) p u:=by
 funext r c;unfold Rw;by_cases h1:r=p<;>by_cases h2:r=q<;>simp_all
theorem det_swap2 {n p q:Nat} (M:Mx) (hp:p<n) (hq:q<n) (hpq:p≠q):det n (Rw (Rw M p (M q)) q (M p))= -det n M:=by
 have lin2:∀ u v w:Nat->Rat,det n (Rw (Rw M p u) q (λc=>1*v c+1*w c))=det n (Rw (Rw M p u) q v)+det n (Rw (Rw M p u) q w):=λu v w=>by
  rw [det_lin _ _ _ _ _ hq]; grind
 have lin1:∀ u v w:Nat->Rat,det n (Rw (Rw M p (λc=>1*u c+1*v c)) q w)=det n (Rw (Rw M p u) q w)+det n (Rw (Rw M p v) q w):=λu v w=>by
  rw [Rw_comm hpq,det_lin _ _ _ _ _ hp,<-Rw_comm hpq,<-Rw_comm hpq]; grind
 have same:∀ u:Nat->Rat,det n (Rw (Rw M p u) q u)=0:=λu=>det_eqrows hp hq hpq λc=>by
  unfold Rw; simp [hpq]
 have h0:=same (λc=>1*M p c+1*M q c);rw [lin1,lin2,lin2,same,same] at h0;have h1:Rw (Rw M p (M p)) q (M q)=M:=by rw [Rw_self,Rw_self]
 rw [h1] at h0;grind
def prd:List Po->Nat->Rat
 | [],_=>1
 | u::r,s=>u s*prd r (s+1)
theorem prd_snoc:∀ (U:List Po) (s:Nat) (u:Po),prd (U++[u]) s=prd U s*u (s+U.length)
 | [],s,u=>by simp [prd]
 | v::U,s,u=>by
  rw [List.cons_append,prd,prd,prd_snoc U (s+1) u,List.length_cons,show s+1+U.length=s+(U.length+1) by omega];grind
def Tri (U:List Po) (s:Nat):Prop:=∀ r,r<U.length->∀ c,s<=c->c<s+r->rowAt U r c=0
theorem Dt_tri:∀ (U Y:List Po) (s:Nat) (cols:Nat->Nat),(∀ c,c<U.length->cols c=s+c)->Tri U s->(∀ q∈Y,∀ c,s<=c->c<s+U.length->q c=0)->
 Dt (U++Y) cols=prd U s*Dt Y (λc=>cols (U.length+c))
 | [],Y,s,cols,_,_,_=>by simp [prd]
 | u::U,Y,s,cols,hc,ht,hY=>by
  have h0:cols 0=s:=by simpa using hc 0 (by simp)
  have hz:∀ q∈U++Y,q (cols 0)=0:=by
   intro q hq;rw [h0];rcases List.mem_append.1 hq with h | h
   . obtain ⟨r,hr,rfl⟩:=mem_rowAt h;have:=ht (r+1) (by simpa using hr) s (Nat.le_refl _) (by omega)
     rwa [rowAt_succ] at this
   . exact hY q h s (Nat.le_refl _) (by simp)
  have ih:=Dt_tri U Y (s+1) (λc=>cols (c+1)) (λc hcl=>by rw [hc (c+1) (by simpa using hcl)]; omega)
   (λr hr c h1 h2=>by
    have:=ht (r+1) (by simpa using hr) c (by omega) (by omega)
    rwa [rowAt_succ] at this)
   (λq hq c h1 h2=>hY q hq c (by omega) (by simp; omega))
  rw [List.cons_append,Dt_corner hz,ih,h0,prd,List.length_cons];have:(λc=>cols (U.length+c+1))=λc=>cols (U.length+1+c):=by funext c; rw [show U.length+c+1=U.length+1+c by omega]
  rw [this];grind
def rz (M0:Nat->Nat->Int) (σ:Nat->Nat) (i:Nat):Po:=λc=>((M0 (σ i) c:Int):Rat)
def colb (k j c:Nat):Nat:=if c<k then c else j
theorem rowAt_map (f:Nat->Po):∀ {L:List Nat} {r:Nat} (h:r<L.length),rowAt (L.map f) r=f L[r]:=by
 intro L r h;simp [rowAt,List.getD_eq_getElem?_getD,List.getElem?_eq_getElem (show r<(L.map f).length by simpa using h)]
theorem Dt_rz (M0:Nat->Nat->Int) (σ:Nat->Nat) (L:List Nat) (cols:Nat->Nat):Dt (L.map (rz M0 σ)) cols=((detZ L.length (λr c=>M0 (σ (L.getD r 0)) (cols c)):Int):Rat):=by
 rw [<- det_cast,Dt,List.length_map];refine det_congr λr c hr _=>?_;rw [rowAt_map _ hr];simp [rz,List.getD_eq_getElem?_getD,hr]
structure BrI (n:Nat) (M0:Nat->Nat->Int) (k:Nat) (M:Nat->Nat->Int) (last s:Int):Prop where
 ex:∃ (σ:Nat->Nat) (V:Nat->Po) (U:List Po),(∀ i,i<n->σ i<n)/\(s=1\/s= -1)/\detZ n (λr c=>M0 (σ r) c)=s*detZ n M0/\U.length=k/\Tri U 0/\prd U 0=(last:Rat)/\last≠0/\
  (∀ i,k<=i->i<n->∀ c,c<k->V i c=0)/\(∀ i j,k<=i->i<n->k<=j->j<n->((M i j:Int):Rat)=(last:Rat)*V i j)/\
  (∀ Z:List Nat,(∀ z∈Z,k<=z/\z<n)->∀ cols,Dt ((List.range k).map (rz M0 σ)++Z.map (rz M0 σ)) cols=Dt (U++Z.map V) cols)
theorem brI_init (n:Nat) (M0:Nat->Nat->Int):BrI n M0 0 M0 1 1:=
 ⟨id,rz M0 id,[],λi hi=>hi,.inl rfl,by simp,rfl,λr hr=>by simp at hr,by simp [prd],by decide,λi _ _ c hc=>by omega,λi j _ _ _ _=>by simp [rz],λZ _ cols=>by simp⟩
def tr2 (k p i:Nat):Nat:=if i=k then p else if i=p then k else i
theorem brI_swap {n k p:Nat} {M0 M:Nat->Nat->Int} {last s:Int} (H:BrI n M0 k M last s) (hk:k<n) (hkp:k<p) (hp:p<n):BrI n M0 k (λi=>M (tr2 k p i)) last (-s):=by
 obtain ⟨σ,V,U,h1,h2,h3,h4,h5,h6,h7,h8,h9,h10⟩:=H.ex;have ht:∀ i,k<=i->i<n->k<=tr2 k p i/\tr2 k p i<n:=λi hi hn=>by unfold tr2; split<;>(try split)<;>omega
 have hlt:∀ i,i<k->tr2 k p i=i:=λi hi=>by unfold tr2; rw [if_neg (by omega),if_neg (by omega)]
 refine ⟨λi=>σ (tr2 k p i),λi=>V (tr2 k p i),U,λi hi=>?_,by rcases h2 with h | h<;>subst h<;>decide,?_,h4,h5,h6,h7,λi hi hn=>h8 _ (ht i hi hn).1 (ht i hi hn).2,λi j hi hn hj hjn=>h9 _ j (ht i hi hn).1 (ht i hi hn).2 hj hjn,λZ hZ cols=>?_⟩
 . show σ (tr2 k p i)<n;by_cases hik:i<k
   . rw [hlt i hik]; exact h1 i hi
   . exact h1 _ (ht i (by omega) hi).2
 . have e:=det_swap2 (n:=n) (p:=k) (q:=p) (λr c=>((M0 (σ r) c:Int):Rat)) hk hp (by omega);have e2:det n (Rw (Rw (λr c=>((M0 (σ r) c:Int):Rat)) k (λc=>((M0 (σ p) c:Int):Rat))) p (λc=>((M0 (σ k) c:Int):Rat)))=det n (λr c=>((M0 (σ (tr2 k p r)) c:Int):Rat)):=by
    refine det_congr λr c _ _=>?_;unfold Rw tr2;by_cases a1:r=p
    . rw [if_pos a1,if_neg (by omega),if_pos a1]
    . rw [if_neg a1];by_cases a2:r=k
      . rw [if_pos a2,if_pos a2]
      . rw [if_neg a2,if_neg a2,if_neg a1]
   rw [e2,det_cast,det_cast] at e;have e3:detZ n (λr c=>M0 (σ (tr2 k p r)) c)= -detZ n (λr c=>M0 (σ r) c):=by exact_mod_cast e
   rw [e3,h3]; grind
 . have e1:(List.range k).map (rz M0 λi=>σ (tr2 k p i))=(List.range k).map (rz M0 σ):=List.map_congr_left λi hi=>by
    unfold rz; dsimp only; rw [hlt i (by simpa using hi)]
   have e2:Z.map (rz M0 λi=>σ (tr2 k p i))=(Z.map (tr2 k p)).map (rz M0 σ):=by rw [List.map_map]; rfl
   have e3:Z.map (λi=>V (tr2 k p i))=(Z.map (tr2 k p)).map V:=by rw [List.map_map]; rfl
   rw [e1,e2,e3];refine h10 _ (λz hz=>?_) cols;obtain ⟨y,hy,rfl⟩:=List.mem_map.1 hz;exact ht y (hZ y hy).1 (hZ y hy).2
theorem brI_minor {n k:Nat} {M0 M:Nat->Nat->Int} {last s:Int} (H:BrI n M0 k M last s) {i j:Nat} (hi:k<=i) (hin:i<n) (hj:k<=j) (hjn:j<n):
 ∃ ρ:Nat->Nat,M i j=detZ (k+1) (λr c=>M0 (ρ r) (colb k j c)):=by
 obtain ⟨σ,V,U,h1,h2,h3,h4,h5,h6,h7,h8,h9,h10⟩:=H.ex;have e:=h10 [i] (λz hz=>by simp only [List.mem_singleton] at hz; subst hz; exact ⟨hi,hin⟩) (colb k j);have et:=Dt_tri U ([i].map V) 0 (colb k j) (λc hc=>by unfold colb; rw [if_pos (by omega)]; omega) h5 (λq hq c _ hc=>by
  simp only [List.map_cons,List.map_nil,List.mem_singleton] at hq;subst hq;exact h8 i hi hin c (by omega))
 rw [et] at e;simp only [List.map_cons,List.map_nil] at e;rw [Dt_one,h6] at e;have ec:colb k j (U.length+0)=j:=by unfold colb; rw [if_neg (by omega)]
 rw [ec,<-h9 i j hi hin hj hjn,show [rz M0 σ i]=[i].map (rz M0 σ) from rfl,<-List.map_append,Dt_rz] at e;refine ⟨λr=>σ ((List.range k++[i]).getD r 0),?_⟩;have e':detZ (List.range k++[i]).length (λr c=>M0 (σ ((List.range k++[i]).getD r 0)) (colb k j c))=M i j:=by exact_mod_cast e
 rw [<- e']; simp
theorem brI_abs {n k C:Nat} {M0 M:Nat->Nat->Int} {last s:Int} (H:BrI n M0 k M last s) (hC:∀ r c,(M0 r c).natAbs<=C) {i j:Nat} (hi:k<=i) (hin:i<n) (hj:k<=j) (hjn:j<n):(M i j).natAbs<=dB C (k+1):=by
 obtain ⟨ρ,h⟩:=brI_minor H hi hin hj hjn;rw [h]; exact detZ_abs λr c=>hC _ _
theorem brI_last {n k C:Nat} {M0 M:Nat->Nat->Int} {last s:Int} (H:BrI n M0 k M last s) (hC:∀ r c,(M0 r c).natAbs<=C):last.natAbs<=dB C k/\last≠0:=by
 obtain ⟨σ,V,U,h1,h2,h3,h4,h5,h6,h7,h8,h9,h10⟩:=H.ex;have e:=h10 [] (by simp) id;have et:=Dt_tri U [] 0 id (λc _=>by simp) h5 (by simp);simp only [List.map_nil,List.append_nil] at e et;rw [et,h6,show Dt [] (λc=>id (U.length+c))=1 from rfl,Dt_rz] at e;have e':detZ (List.range k).length (λr c=>M0 (σ ((List.range k).getD r 0)) (id c))=last:=by
  have:((detZ (List.range k).length (λr c=>M0 (σ ((List.range k).getD r 0)) (id c)):Int):Rat)=(last:Rat):=by rw [e]; grind
  exact_mod_cast this
 refine ⟨?_,h7⟩;rw [<- e',List.length_range]; exact detZ_abs λr c=>hC _ _
theorem brI_step {n k:Nat} {M0 M:Nat->Nat->Int} {last s:Int} (H:BrI n M0 k M last s) (hk:k<n) (hp:M k k≠0):
 (∀ i j,k<i->i<n->k<j->j<n->∃ z:Int,z*last=M k k*M i j-M i k*M k j)/\
 ∀ M':Nat->Nat->Int,(∀ i j,k<i->i<n->k<j->j<n->M' i j*last=M k k*M i j-M i k*M k j)->BrI n M0 (k+1) M' (M k k) s:=by
 obtain ⟨σ,V,U,h1,h2,h3,h4,h5,h6,h7,h8,h9,h10⟩:=H.ex;have hlast:(last:Rat)≠0:=by exact_mod_cast h7
 have hkk:=h9 k k (Nat.le_refl _) hk (Nat.le_refl _) hk;have hMkk:((M k k:Int):Rat)≠0:=by exact_mod_cast hp
 have hV:V k k≠0:=λh=>hMkk (by rw [hkk,h]; grind)
 let V':Nat->Po:=λi c=>V i c+(-(V i k / V k k))*V k c
 have t5:Tri (U++[V k]) 0:=by
  intro r hr c h0 hc;simp only [List.length_append,List.length_singleton] at hr;by_cases hru:r<U.length
  . rw [rowAt_lt hru]; exact h5 r hru c h0 hc
  . have:r=U.length:=by omega
    subst this;rw [rowAt_mid]; exact h8 k (Nat.le_refl _) hk c (by omega)
 have t6:prd (U++[V k]) 0=((M k k:Int):Rat):=by rw [prd_snoc,h6,hkk,Nat.zero_add,h4]
 have t8:∀ i,k+1<=i->i<n->∀ c,c<k+1->V' i c=0:=by
  intro i hi hin c hc;show V i c+(-(V i k / V k k))*V k c=0;by_cases hck:c=k
  . subst hck; grind
  . rw [h8 i (by omega) hin c (by omega),h8 k (Nat.le_refl _) hk c (by omega)]; grind
 have t10:∀ Z:List Nat,(∀ z∈Z,k+1<=z/\z<n)->∀ cols,Dt ((List.range (k+1)).map (rz M0 σ)++Z.map (rz M0 σ)) cols=Dt ((U++[V k])++Z.map V') cols:=by
  intro Z hZ cols;have e:=h10 (k::Z) (λz hz=>by
   rcases List.mem_cons.1 hz with rfl | hz
   . exact ⟨Nat.le_refl _,hk⟩
   . have:=hZ z hz; exact ⟨by omega,this.2⟩) cols
  have e1:(List.range (k+1)).map (rz M0 σ)++Z.map (rz M0 σ)=(List.range k).map (rz M0 σ)++(k::Z).map (rz M0 σ):=by rw [List.range_succ]; simp
  have e2:U++(k::Z).map V=(U++[V k])++Z.map V:=by simp
  rw [e1,e,e2];have hr:=Dt_reduce (X:=U++[V k]) (a:=1) cols (Z.map V) (Z.map V') [] (by simp) λi hi=>by
   have hi':i<Z.length:=by simpa using hi
   refine ⟨_,Sp.add _ (V k) (-(V (Z[i]) k / V k k)) Sp.zero (by simp),?_⟩;rw [rowAt_map _ hi',rowAt_map _ hi'];funext c;show V (Z[i]) c+(-(V (Z[i]) k / V k k))*V k c=_;grind
  simp only [List.nil_append] at hr;rw [hr];have:(1:Rat)^(Z.map V).length=1:=by
   generalize (Z.map V).length=m;induction m with
   | zero=>rfl
   | succ m ih=>rw [Rat.pow_succ,ih]; grind
  rw [this]; grind
 have num:∀ i j,k<i->i<n->k<j->j<n->((M k k:Int):Rat)*V' i j*last=((M k k*M i j-M i k*M k j:Int):Rat):=by
  intro i j hi hin hj hjn;push_cast;have a1:=h9 i j (by omega) hin (by omega) hjn;have a2:=h9 i k (by omega) hin (Nat.le_refl _) hk;have a3:=h9 k j (Nat.le_refl _) hk (by omega) hjn;show ((M k k:Int):Rat)*(V i j+(-(V i k / V k k))*V k j)*last=_;rw [a1,a2,a3,hkk];have:V k k*(V i k / V k k)=V i k:=by grind
  grind
 refine ⟨λi j hi hin hj hjn=>?_,λM' hM'=>⟨σ,V',U++[V k],h1,h2,h3,by simp [h4],t5,t6,hp,t8,λi j hi hin hj hjn=>?_,t10⟩⟩
 . have e:=t10 [i] (λz hz=>by simp only [List.mem_singleton] at hz; subst hz; exact ⟨hi,hin⟩) (colb (k+1) j);have et:=Dt_tri (U++[V k]) ([i].map V') 0 (colb (k+1) j) (λc hc=>by simp at hc; unfold colb; rw [if_pos (by omega)]; omega) t5 (λq hq c _ hc=>by
    simp only [List.map_cons,List.map_nil,List.mem_singleton] at hq;subst hq;simp at hc;exact t8 i hi hin c (by omega))
   rw [et] at e;simp only [List.map_cons,List.map_nil] at e;rw [Dt_one,t6] at e;have ec:colb (k+1) j ((U++[V k]).length+0)=j:=by unfold colb; rw [if_neg (by simp; omega)]
   rw [ec,show [rz M0 σ i]=[i].map (rz M0 σ) from rfl,<-List.map_append,Dt_rz] at e;have hn:=num i j hi hin hj hjn;rw [<- e] at hn;refine ⟨detZ (List.range (k+1)++[i]).length (λr c=>M0 (σ ((List.range (k+1)++[i]).getD r 0)) (colb (k+1) j c)),?_⟩
   exact_mod_cast hn
 . have hn:=num i j (by omega) hin (by omega) hjn;have:=hM' i j (by omega) hin (by omega) hjn;have h':((M' i j:Int):Rat)*last=((M k k:Int):Rat)*V' i j*last:=by rw [hn,<-this]; push_cast; rfl
   grind
theorem brI_end {n:Nat} {M0 M:Nat->Nat->Int} {last s:Int} (H:BrI n M0 n M last s):detZ n M0=s*last:=by
 obtain ⟨σ,V,U,h1,h2,h3,h4,h5,h6,h7,h8,h9,h10⟩:=H.ex;have e:=h10 [] (by simp) id;have et:=Dt_tri U [] 0 id (λc _=>by simp) h5 (by simp);simp only [List.map_nil,List.append_nil] at e et;rw [et,h6,show Dt [] (λc=>id (U.length+c))=1 from rfl,Dt_rz] at e;have e':detZ (List.range n).length (λr c=>M0 (σ ((List.range n).getD r 0)) (id c))=last:=by
  have:((detZ (List.range n).length (λr c=>M0 (σ ((List.range n).getD r 0)) (id c)):Int):Rat)=(last:Rat):=by rw [e]; grind
  exact_mod_cast this
 have e2:detZ (List.range n).length (λr c=>M0 (σ ((List.range n).getD r 0)) (id c))=detZ n (λr c=>M0 (σ r) c):=by
  have k1:=det_cast n (λr c=>M0 (σ ((List.range n).getD r 0)) (id c));have k2:=det_cast n (λr c=>M0 (σ r) c);have k3:det n (λr c=>((M0 (σ ((List.range n).getD r 0)) (id c):Int):Rat))=det n (λr c=>((M0 (σ r) c:Int):Rat)):=det_congr λr c hr _=>by
   simp [List.getD_eq_getElem?_getD,hr]
  rw [k1,k2] at k3;rw [List.length_range]
  exact_mod_cast k3
 rw [e2,h3] at e';rcases h2 with h | h<;>subst h<;>grind
theorem brI_zero {n k:Nat} {M0 M:Nat->Nat->Int} {last s:Int} (H:BrI n M0 k M last s) (hk:k<n) (h0:∀ i,k<=i->i<n->M i k=0):detZ n M0=0:=by
 obtain ⟨σ,V,U,h1,h2,h3,h4,h5,h6,h7,h8,h9,h10⟩:=H.ex;have hlast:(last:Rat)≠0:=by exact_mod_cast h7
 have hV:∀ i,k<=i->i<n->V i k=0:=λi hi hin=>by
  have:=h9 i k hi hin (Nat.le_refl _) hk;rw [h0 i hi hin] at this;grind
 have hmem:∀ z∈List.range' k (n-k),k<=z/\z<n:=λz hz=>by rw [List.mem_range'_1] at hz; omega
 have e:=h10 (List.range' k (n-k)) hmem id;have et:=Dt_tri U ((List.range' k (n-k)).map V) 0 id (λc _=>by simp) h5 (λq hq c _ hc=>by
  obtain ⟨z,hz,rfl⟩:=List.mem_map.1 hq;exact h8 z (hmem z hz).1 (hmem z hz).2 c (by omega))
 have hz:Dt ((List.range' k (n-k)).map V) (λc=>id (U.length+c))=0:=by
  obtain ⟨m,hm⟩:∃ m,n-k=m+1:=⟨n-k-1,by omega⟩;have hr:(List.range' k (n-k)).map V=V k::(List.range' (k+1) m).map V:=by rw [hm,List.range'_succ]; rfl
  have hcol:(id (U.length+0))=k:=by simp [h4]
  rw [hr,Dt_corner (λq hq=>?_)]
  . rw [hcol,hV k (Nat.le_refl _) hk]; grind
  . obtain ⟨z,hz,rfl⟩:=List.mem_map.1 hq;rw [hcol];rw [List.mem_range'_1] at hz;exact hV z (by omega) (by omega)
 rw [et,hz,<-List.map_append,Dt_rz] at e;have hrange:List.range k++List.range' k (n-k)=List.range n:=by
  rw [List.range_eq_range',List.range_eq_range'];have:=List.range'_append (s:=0) (m:=k) (n:=n-k) (step:=1);simp only [Nat.one_mul,Nat.zero_add] at this;rw [this]; congr 1; omega
 rw [hrange] at e;have e':detZ (List.range n).length (λr c=>M0 (σ ((List.range n).getD r 0)) (id c))=0:=by
  have:((detZ (List.range n).length (λr c=>M0 (σ ((List.range n).getD r 0)) (id c)):Int):Rat)=((0:Int):Rat):=by rw [e]; grind
  exact_mod_cast this
 have e2:detZ (List.range n).length (λr c=>M0 (σ ((List.range n).getD r 0)) (id c))=detZ n (λr c=>M0 (σ r) c):=by
  have k1:=det_cast n (λr c=>M0 (σ ((List.range n).getD r 0)) (id c));have k2:=det_cast n (λr c=>M0 (σ r) c);have k3:det n (λr c=>((M0 (σ ((List.range n).getD r 0)) (id c):Int):Rat))=det n (λr c=>((M0 (σ r) c:Int):Rat)):=det_congr λr c hr _=>by
   simp [List.getD_eq_getElem?_getD,hr]
  rw [k1,k2] at k3;rw [List.length_range]
  exact_mod_cast k3
 rw [e2,h3] at e';rcases h2 with h | h<;>subst h<;>grind
end Go.Dt
