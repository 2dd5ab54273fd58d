/- Resultants, squarefree parts, rows of rows. -/
import Derived.Test.YtfdjbmamidmgfaaGreatMP
import Derived.Test.YtfdjbmamidmgfaaGreatPO
import Derived.Test.YtfdjbmamidmgfaaGreatVG
import Derived.Test.YtfdjbmamidmgfaaGreatPT
import Derived.Test.YtfdjbmamidmgfaaGreatPU
set_option linter.unusedVariables false
set_option linter.unusedSimpArgs false
namespace Go.Vw
open Go.Proofs Go.Py Go.Dt
theorem exV_of {x y z:Int} (hy:y≠0) (h:z*y=x):exV x y=z:=by
 rw [exV,if_neg hy,if_pos (by rw [<- h]; exact Int.mul_emod_left _ _),<-h];exact Int.mul_ediv_cancel _ hy
attribute [local simp] zv V.fits fillOk fillV Z_eq
def rowZ (w:Nat) (f:Nat->Int):List V:=(List.range w).map λj=>Z (f j)
def rowsS (n w:Nat) (ρ γ:Nat->Nat):List SV:=(List.range n).map λi=>.own (ρ i+1000) (γ (ρ i)) 0 w
theorem rowZ_length (w:Nat) (f:Nat->Int):(rowZ w f).length=w:=by simp [rowZ]
theorem rowsS_length (n w:Nat) (ρ γ:Nat->Nat):(rowsS n w ρ γ).length=n:=by simp [rowsS]
theorem rowZ_at {w:Nat} {f:Nat->Int} {j:Nat} (h:j<(rowZ w f).length):(rowZ w f)[j]=Z (f j):=by simp [rowZ]
theorem rowsS_at {n w:Nat} {ρ γ:Nat->Nat} {i:Nat} (h:i<(rowsS n w ρ γ).length):(rowsS n w ρ γ)[i]= .own (ρ i+1000) (γ (ρ i)) 0 w:=by simp [rowsS]
theorem rowZ_congr {w:Nat} {f g:Nat->Int} (h:∀ j,j<w->f j=g j):rowZ w f=rowZ w g:=List.map_congr_left λj hj=>by rw [h j (by simpa using hj)]
theorem rowZ_set {w:Nat} {f:Nat->Int} (j:Nat) (x:Int):(rowZ w f).set j (Z x)=rowZ w (λb=>if b=j then x else f b):=by
 refine List.ext_getElem (by simp [rowZ]) λi h1 h2=>?_;rw [List.getElem_set];by_cases e:j=i
 . subst e; simp [rowZ]
 . rw [if_neg e]; simp [rowZ,Ne.symm e]
theorem rowsS_swap {n w:Nat} {ρ γ:Nat->Nat} {k p:Nat} (hkp:k≠p):((rowsS n w ρ γ).set p (.own (ρ k+1000) (γ (ρ k)) 0 w)).set k (.own (ρ p+1000) (γ (ρ p)) 0 w)=rowsS n w (λi=>ρ (tr2 k p i)) γ:=by
 refine List.ext_getElem (by simp [rowsS]) λi h1 h2=>?_;rw [List.getElem_set,List.getElem_set];by_cases e1:k=i
 . subst e1; simp [rowsS,tr2]
 . rw [if_neg e1];by_cases e2:p=i
   . subst e2; simp [rowsS,tr2,Ne.symm e1]
   . rw [if_neg e2]; simp [rowsS,tr2,Ne.symm e1,Ne.symm e2]
structure Mat (h:Nat->HC) (r G n w:Nat) (ρ γ:Nat->Nat) (M:Nat->Nat->Int):Prop where
 top:h (r+1000)=⟨G,some (.rows 22 (rowsS n w ρ γ))⟩
 row:∀ i,i<n->h (ρ i+1000)=⟨γ (ρ i),some (.arr 28 (some 2) (rowZ w (M i)))⟩
 inj:∀ i j,i<n->j<n->ρ i=ρ j->i=j
 apart:∀ i,i<n->ρ i≠r
theorem Mat.congr {h h':Nat->HC} {r G n w:Nat} {ρ γ:Nat->Nat} {M:Nat->Nat->Int} (H:Mat h r G n w ρ γ M) (he:∀ q,h' (q+1000)=h (q+1000)):Mat h' r G n w ρ γ M:=
 ⟨by rw [he]; exact H.top,λi hi=>by rw [he]; exact H.row i hi,H.inj,H.apart⟩
theorem Mat.eqM {h:Nat->HC} {r G n w:Nat} {ρ γ:Nat->Nat} {M M':Nat->Nat->Int} (H:Mat h r G n w ρ γ M) (he:∀ i j,i<n->j<w->M' i j=M i j):Mat h r G n w ρ γ M':=
 ⟨H.top,λi hi=>by rw [H.row i hi,rowZ_congr λj hj=>(he i j hi hj).symm],H.inj,H.apart⟩
def setM (M:Nat->Nat->Int) (i j:Nat) (x:Int) (a b:Nat):Int:=if a=i/\b=j then x else M a b
theorem Mat.set {h h':Nat->HC} {r G n w:Nat} {ρ γ:Nat->Nat} {M:Nat->Nat->Int} (H:Mat h r G n w ρ γ M) {i j:Nat} (hi:i<n) (x:Int)
 (h1:h' (ρ i+1000)=⟨γ (ρ i),some (.arr 28 (some 2) ((rowZ w (M i)).set j (Z x)))⟩) (h2:∀ q,q≠ρ i->h' (q+1000)=h (q+1000)):Mat h' r G n w ρ γ (setM M i j x):=by
 refine ⟨by rw [h2 _ (Ne.symm (H.apart i hi))]; exact H.top,λa ha=>?_,H.inj,H.apart⟩;by_cases e:a=i
 . subst e;rw [h1,rowZ_set,rowZ_congr (g:=setM M a j x a) λb hb=>by simp [setM]]
 . rw [h2 _ (λe'=>e (H.inj a i ha hi e')),H.row a ha,rowZ_congr (g:=setM M i j x a) λb hb=>by simp [setM,e]]
theorem Mat.swap {h h':Nat->HC} {r G n w:Nat} {ρ γ:Nat->Nat} {M:Nat->Nat->Int} (H:Mat h r G n w ρ γ M) {k p:Nat} (hk:k<n) (hp:p<n) (hkp:k≠p)
 (h1:h' (r+1000)=⟨G,some (.rows 22 (((rowsS n w ρ γ).set p (.own (ρ k+1000) (γ (ρ k)) 0 w)).set k (.own (ρ p+1000) (γ (ρ p)) 0 w)))⟩) (h2:∀ q,q≠r->h' (q+1000)=h (q+1000)):
 Mat h' r G n w (λi=>ρ (tr2 k p i)) γ (λi=>M (tr2 k p i)):=by
 have ht:∀ i,i<n->tr2 k p i<n:=λi hi=>by unfold tr2; split<;>(try split)<;>omega
 refine ⟨by rw [h1,rowsS_swap hkp],λi hi=>?_,λi j hi hj e=>?_,λi hi=>H.apart _ (ht i hi)⟩
 . show h' (ρ (tr2 k p i)+1000)=_;rw [h2 _ (H.apart _ (ht i hi)),H.row _ (ht i hi)]
 . have:=H.inj _ _ (ht i hi) (ht j hj) e;unfold tr2 at this
   (repeat' split at this)<;>omega
def fpM (r n:Nat) (ρ:Nat->Nat):List Nat:=(r+1000)::(List.range n).map λi=>ρ i+1000
theorem fpM_big {r n:Nat} {ρ:Nat->Nat}:∀ q∈fpM r n ρ,1000<=q:=by
 intro q hq;simp only [fpM,List.mem_cons,List.mem_map] at hq;rcases hq with rfl | ⟨i,_,rfl⟩<;>omega
theorem fpM_row {r n:Nat} {ρ:Nat->Nat} {i:Nat} (h:i<n):ρ i+1000∈fpM r n ρ:=by
 simp only [fpM,List.mem_cons,List.mem_map,List.mem_range]; exact .inr ⟨i,h,rfl⟩
theorem fpM_top {r n:Nat} {ρ:Nat->Nat}:r+1000∈fpM r n ρ:=by simp [fpM]
theorem Mat.of_fp {h h2:Nat->HC} {r G n w:Nat} {ρ γ:Nat->Nat} {M:Nat->Nat->Int} (H:Mat h r G n w ρ γ M) (he:∀ q∈fpM r n ρ,h2 q=h q):Mat h2 r G n w ρ γ M:=
 ⟨by rw [he _ fpM_top]; exact H.top,λi hi=>by rw [he _ (fpM_row hi)]; exact H.row i hi,H.inj,H.apart⟩
theorem maskH_add (h:Nat->HC) (q:Nat):maskH h (q+1000)=h (q+1000):=by simp [maskH]
def DetI (h2:Nat->HC) (r G n:Nat) (ρ0 γ:Nat->Nat) (M0:Nat->Nat->Int) (k:Nat) (S:St):Prop:=
 ∃ (ρ:Nat->Nat) (M:Nat->Nat->Int) (last s:Int),BrI n M0 k M last s/\Mat S.h r G n n ρ γ M/\(∀ i,i<n->∃ i',i'<n/\ρ i=ρ0 i')/\(∀ q,q+1000 ∉ fpM r n ρ0->S.h (q+1000)=h2 (q+1000))/\
  S.σ 0= .own (r+1000) G 0 n/\S.σ 2= .ptr 2 1 0/\S.h 2=⟨1,some (.box 28 [.b false,.sl none []])⟩/\S.σ 3= .ptr 3 1 0/\S.h 3=⟨1,some (.box 28 [.b (zn s),.sl none (uL (zl s))])⟩/\
  S.σ 4= .ptr 4 1 0/\S.h 4=⟨1,some (.box 28 [.b (zn last),.sl none (uL (zl last))])⟩/\S.σ 5= .p (.i .i64 (k:Int))
structure Kp (S S':St):Prop where
 k0:S'.σ 0=S.σ 0
 k2:S'.σ 2=S.σ 2
 k3:S'.σ 3=S.σ 3
 k4:S'.σ 4=S.σ 4
 k5:S'.σ 5=S.σ 5
 l2:S'.h 2=S.h 2
 l3:S'.h 3=S.h 3
 l4:S'.h 4=S.h 4
def FiI (S:St) (n k:Nat) (M:Nat->Nat->Int) (S':St):Prop:=∃ p,k<=p/\p<=n/\(∀ i,k<=i->i<p->M i k=0)/\S'.h=S.h/\Kp S S'/\S'.σ 6= .p (.i .i64 (p:Int))
attribute [local simp] acK_stuck XCore aopX acD_stuck XD HOp svCells SV.cell cloC svref svFits svPart partOkS okSV okSV1 S0H maskH_add maskH_lt retQM retPM retAllH retOneH rowsS_length rowZ_length rowsS_at rowZ_at
set_option maxHeartbeats 1000000 in
theorem det_find {Q:Exit->St->Prop} {S:St} {r G n k K:Nat} {ρ γ:Nat->Nat} {M:Nat->Nat->Int} (HM:Mat S.h r G n n ρ γ M) (hn:n<=2^20) (hlt:k<n) (hz:∀ p,k<=p->p<n->zlen (M p k)<=K) (hK:K<=2^25)
 (s0:S.σ 0= .own (r+1000) G 0 n) (s5:S.σ 5= .p (.i .i64 (k:Int))) (s6:S.σ 6= .p (.i .i64 (k:Int)))
 (hQ:∀ S' p,k<=p->p<=n->(∀ i,k<=i->i<p->M i k=0)->(p<n->M p k≠0)->S'.h=S.h->Kp S S'->S'.σ 6= .p (.i .i64 (p:Int))->Q .normal S'):
 WS Tryz.prog 134 sc_ref11_Det.snd.snd.snd.fst.snd.fst.fst.snd.fst.fst.snd.fst Q S:=by
 have htop:=HM.top;unfold sc_ref11_Det;simp only [SC.snd,SC.fst];refine WS_block ?_;refine WS_loop (FiI S n k M) (λS=>n-nM 6 S) ⟨k,by omega,by omega,λi h1 h2=>by omega,rfl,⟨rfl,rfl,rfl,rfl,rfl,rfl,rfl,rfl⟩,s6⟩ ?_;rintro S1 ⟨p,hkp,hpn,hz0,hS,hkeep,u6⟩;have d6:=nM_eq u6;have u0:=hkeep.k0.trans s0;have u5:=hkeep.k5.trans s5;have hltI:(k:Int)<(n:Int):=by omega
 by_cases hp:p<n
 . have hpI:(p:Int)<(n:Int):=by omega
   have hrp:=HM.row p hp;have sg:=rsign (isZ_of (hz p hkp hp)) (by omega);by_cases hm:M p k=0
   . have hs0:(M p k).sign=0:=by rw [hm]; rfl
     have wp:=i64_succ p (by omega);refine Ws ?_; simp [hS,u6,u0,u5,hp,hpI,htop,hrp,hlt,hltI,hs0,wp];refine callP sg rfl ?_;simp [hS,u6,u0,u5,hp,hpI,htop,hrp,hlt,hltI,hs0,wp];refine WS_cT (by simp [hS,u6,u0,u5,hp,hpI,htop,hrp,hlt,hltI,hs0,wp]) ?_;refine WS_skip ?_; simp [hS,u6,u0,u5,hp,hpI,htop,hrp,hlt,hltI,hs0,wp];refine WS_block (WS_reg [] ?_); simp [hS,u6,u0,u5,hp,hpI,htop,hrp,hlt,hltI,hs0,wp];refine ⟨⟨p+1,by omega,by omega,λi h1 h2=>?_,by simp [hS],⟨by simp [u0,s0],by simp [hkeep.k2],by simp [hkeep.k3],by simp [hkeep.k4],by simp [u5,s5],by simp [hS],by simp [hS],by simp [hS]⟩,by simp⟩,?_⟩
     . by_cases h3:i=p
       . rw [h3]; exact hm
       . exact hz0 i h1 (by omega)
     . rw [d6,nM_eq (i:=6) (n:=p+1) (by simp)]; omega
   . have hs0:¬ (M p k).sign=0:=λh=>hm (Int.sign_eq_zero_iff_zero.1 h);refine Ws ?_; simp [hS,u6,u0,u5,hp,hpI,htop,hrp,hlt,hltI,hs0];refine callP sg rfl ?_;simp [hS,u6,u0,u5,hp,hpI,htop,hrp,hlt,hltI,hs0];refine WS_cF (by simp [hS,u6,u0,u5,hp,hpI,htop,hrp,hlt,hltI,hs0]) ?_;refine WS_exit ?_; simp [hS,u6,u0,u5,hp,hpI,htop,hrp,hlt,hltI,hs0];exact hQ _ p hkp hpn hz0 (λ_=>hm) (by simp [hS]) ⟨by simp [u0,s0],by simp [hkeep.k2],by simp [hkeep.k3],by simp [hkeep.k4],by simp [u5,s5],by simp [hS],by simp [hS],by simp [hS]⟩ (by simp [u6])
 . have hpI:¬ (p:Int)<(n:Int):=by omega
   refine Ws ?_; simp [hS,u6,u0,u5,hp,hpI,htop];refine WS_cF (by simp [hS,u6,u0,u5,hp,hpI,htop]) ?_;refine WS_exit ?_; simp [hS,u6,u0,u5,hp,hpI,htop];exact hQ _ p hkp hpn hz0 (λh=>absurd h hp) (by simp [hS]) ⟨by simp [u0,s0],by simp [hkeep.k2],by simp [hkeep.k3],by simp [hkeep.k4],by simp [u5,s5],by simp [hS],by simp [hS],by simp [hS]⟩ (by simp [u6])
def elM (k i j:Nat) (T M:Nat->Nat->Int) (a b:Nat):Int:=if k<a/\k<b/\(a<i\/(a=i/\b<j)) then T a b else M a b
theorem elM_set {k i j:Nat} {T M:Nat->Nat->Int} (hi:k<i) (hj:k<j):setM (elM k i j T M) i j (T i j)=elM k i (j+1) T M:=by
 funext a b;unfold setM elM;by_cases h:a=i/\b=j
 . obtain ⟨rfl,rfl⟩:=h;rw [if_pos ⟨rfl,rfl⟩,if_pos ⟨hi,hj,.inr ⟨rfl,by omega⟩⟩]
 . rw [if_neg h];by_cases h2:k<a/\k<b/\(a<i\/(a=i/\b<j))
   . rw [if_pos h2,if_pos (by omega)]
   . rw [if_neg h2,if_neg (by omega)]
def ElI (S:St) (r G n k i:Nat) (ρ γ:Nat->Nat) (T M:Nat->Nat->Int) (S':St):Prop:=
 ∃ j,k<j/\j<=n/\Mat S'.h r G n n ρ γ (elM k i j T M)/\Kp S S'/\(∀ q,(∀ i,i<n->q≠ρ i)->S'.h (q+1000)=S.h (q+1000))/\S'.σ 8= .p (.i .i64 (i:Int))/\S'.σ 9= .p (.i .i64 (j:Int))
def EoI (S:St) (r G n k:Nat) (ρ γ:Nat->Nat) (T M:Nat->Nat->Int) (S':St):Prop:=
 ∃ i,k<i/\i<=n/\Mat S'.h r G n n ρ γ (elM k i 0 T M)/\Kp S S'/\(∀ q,(∀ i,i<n->q≠ρ i)->S'.h (q+1000)=S.h (q+1000))/\S'.σ 8= .p (.i .i64 (i:Int))
set_option maxHeartbeats 4000000 in
theorem det_elim {Q:Exit->St->Prop} {S:St} {r G n k K:Nat} {ρ γ:Nat->Nat} {M T:Nat->Nat->Int} {last:Int} (HM:Mat S.h r G n n ρ γ M) (hn:n<=2^20) (hlt:k<n) (hl0:last≠0)
 (hT:∀ i j,k<i->i<n->k<j->j<n->T i j*last=M k k*M i j-M i k*M k j) (zM:∀ i j,k<=i->i<n->k<=j->j<n->zlen (M i j)<=K) (zl:zlen last<=K) (hK:K<=2^25)
 (s0:S.σ 0= .own (r+1000) G 0 n) (s4:S.σ 4= .ptr 4 1 0) (h4:S.h 4=⟨1,some (.box 28 [.b (zn last),.sl none (uL (Go.Vw.zl last))])⟩) (s5:S.σ 5= .p (.i .i64 (k:Int)))
 (hQ:∀ S',Mat S'.h r G n n ρ γ (elM k n 0 T M)->Kp S S'->(∀ q,(∀ i,i<n->q≠ρ i)->S'.h (q+1000)=S.h (q+1000))->Q .normal S'):
 WS Tryz.prog 134 sc_ref11_Det.snd.snd.snd.fst.snd.fst.fst.snd.fst.fst.snd.snd.snd.snd.fst Q S:=by
 have hltI:(k:Int)<(n:Int):=by omega
 have wk:=i64_succ k (by omega);unfold sc_ref11_Det;simp only [SC.snd,SC.fst];refine Wr ?_; simp [s5,wk];refine WS_block ?_;refine WS_loop (EoI S r G n k ρ γ T M) (λS=>n-nM 8 S) ⟨k+1,by omega,by omega,HM.eqM (λi j _ _=>by unfold elM; rw [if_neg (by omega)]),⟨by simp,by simp,by simp,by simp,by simp [s5],rfl,rfl,rfl⟩,λ_ _=>rfl,by simp⟩ ?_;rintro S1 ⟨i,hki,hin,HM1,hkeep,hfr,u8⟩;have d8:=nM_eq u8;have u0:=hkeep.k0.trans s0;have u5:=hkeep.k5.trans s5;have htop:=HM1.top;by_cases hi:i<n
 . have hiI:(i:Int)<(n:Int):=by omega
   refine Ws ?_; simp [u8,u0,u5,hi,hiI,htop,wk];refine WS_cT (by simp [u8,u0,u5,hi,hiI,htop,wk]) ?_;refine WS_skip ?_; simp [u8,u0,u5,hi,hiI,htop,wk];refine WS_seq (WS_block (Wr ?_)); simp [u8,u0,u5,hi,hiI,htop,wk];refine WS_block ?_;refine WS_loop (ElI S r G n k i ρ γ T M) (λS=>n-nM 9 S) ⟨k+1,by omega,by omega,HM1.eqM (λa b _ _=>by unfold elM; congr 1; apply propext; omega),⟨by simp [hkeep.k0],by simp [hkeep.k2],by simp [hkeep.k3],by simp [hkeep.k4],by simp [hkeep.k5],hkeep.l2,hkeep.l3,hkeep.l4⟩,hfr,by simp [u8],by simp⟩ ?_;rintro S2 ⟨j,hkj,hjn,HM2,hkeep2,hfr2,v8,v9⟩;have d9:=nM_eq v9;have v0:=hkeep2.k0.trans s0;have v5:=hkeep2.k5.trans s5;have v4:=hkeep2.k4.trans s4;have l4:=hkeep2.l4.trans h4;have htop2:=HM2.top;by_cases hj:j<n
   . have hjI:(j:Int)<(n:Int):=by omega
     have wj:=i64_succ j (by omega);have hrk:=HM2.row k hlt;have hri:=HM2.row i hi;have ekk:elM k i j T M k k=M k k:=by unfold elM; rw [if_neg (by omega)]
     have eij:elM k i j T M i j=M i j:=by unfold elM; rw [if_neg (by omega)]
     have eik:elM k i j T M i k=M i k:=by unfold elM; rw [if_neg (by omega)]
     have ekj:elM k i j T M k j=M k j:=by unfold elM; rw [if_neg (by omega)]
     have hset:=elM_set (T:=T) (M:=M) hki hkj;have hTT:=hT i j hki hi hkj hj;obtain ⟨W,hW⟩:∃ W,W=elM k i j T M:=⟨_,rfl⟩;rw [<- hW] at hrk hri ekk eij eik ekj HM2 hset;have z1:=zM k k (Nat.le_refl _) hlt (Nat.le_refl _) hlt;have z2:=zM i j (by omega) hi (by omega) hj;have z3:=zM i k (by omega) hi (Nat.le_refl _) hlt;have z4:=zM k j (Nat.le_refl _) hlt (by omega) hj;have mu1:=rmul (isZ_of z1) (isZ_of z2) (by omega);have mu2:=rmul (isZ_of z3) (isZ_of z4) (by omega);have q1:=zlen_mul (M k k) (M i j);have q2:=zlen_mul (M i k) (M k j);have su:=rsub (isZ_of (x:=M k k*M i j) (k:=2*K) (by omega)) (isZ_of (x:=M i k*M k j) (k:=2*K) (by omega)) (by omega);have q3:=zlen_sub (M k k*M i j) (M i k*M k j);have ex:=rexact (isZ_of (x:=M k k*M i j-M i k*M k j) (k:=2*K+1) (by omega)) (isZ_of (x:=last) (k:=2*K+1) (by omega)) (by omega);obtain ⟨e2,he2⟩:=exactR_exV (M k k*M i j-M i k*M k j) last;rw [exV_of hl0 hTT] at he2;rw [he2] at ex;obtain ⟨x1,hx1⟩:∃ x,x=M k k:=⟨_,rfl⟩;rw [<- hx1] at ekk mu1 su ex;obtain ⟨x2,hx2⟩:∃ x,x=M i j:=⟨_,rfl⟩;rw [<- hx2] at eij mu1 su ex;obtain ⟨x3,hx3⟩:∃ x,x=M i k:=⟨_,rfl⟩;rw [<- hx3] at eik mu2 su ex;obtain ⟨x4,hx4⟩:∃ x,x=M k j:=⟨_,rfl⟩;rw [<- hx4] at ekj mu2 su ex;obtain ⟨t0,ht0⟩:∃ x,x=T i j:=⟨_,rfl⟩;rw [<- ht0] at ex hset;clear q1 q2 q3 z1 z2 z3 z4 hTT he2;refine Ws ?_; simp [v8,v9,v0,v5,v4,l4,hi,hiI,hj,hjI,hlt,hltI,htop2,hrk,hri,ekk,eij,eik,ekj,wk,wj];refine WS_cT (by simp [v8,v9,v0,v5,v4,l4,hi,hiI,hj,hjI,hlt,hltI,htop2,hrk,hri,ekk,eij,eik,ekj,wk,wj]) ?_;refine WS_skip ?_; simp [v8,v9,v0,v5,v4,l4,hi,hiI,hj,hjI,hlt,hltI,htop2,hrk,hri,ekk,eij,eik,ekj,wk,wj];refine WS_seq (WS_block (WS_seq (WS_regD [] ?_))); simp [v8,v9,v0,v5,v4,l4,hi,hiI,hj,hjI,hlt,hltI,htop2,hrk,hri,ekk,eij,eik,ekj,wk,wj];refine callD mu1 rfl ?_; simp [v8,v9,v0,v5,v4,l4,hi,hiI,hj,hjI,hlt,hltI,htop2,hrk,hri,ekk,eij,eik,ekj,wk,wj];refine callD mu2 rfl ?_; simp [v8,v9,v0,v5,v4,l4,hi,hiI,hj,hjI,hlt,hltI,htop2,hrk,hri,ekk,eij,eik,ekj,wk,wj];refine callD su rfl ?_; simp [v8,v9,v0,v5,v4,l4,hi,hiI,hj,hjI,hlt,hltI,htop2,hrk,hri,ekk,eij,eik,ekj,wk,wj];refine ⟨by kernel_rfl,?_⟩;refine Wr ?_; simp [v8,v9,v0,v5,v4,l4,hi,hiI,hj,hjI,hlt,hltI,htop2,hrk,hri,ekk,eij,eik,ekj,wk,wj];refine callP ex rfl ?_;simp [v8,v9,v0,v5,v4,l4,hi,hiI,hj,hjI,hlt,hltI,htop2,hrk,hri,ekk,eij,eik,ekj,wk,wj];refine WS_regD [] ?_; simp [v8,v9,v0,v5,v4,l4,hi,hiI,hj,hjI,hlt,hltI,htop2,hrk,hri,ekk,eij,eik,ekj,wk,wj];refine ⟨by kernel_rfl,?_⟩;refine WS_reg [] ?_; simp [v8,v9,v0,v5,v4,l4,hi,hiI,hj,hjI,hlt,hltI,htop2,hrk,hri,ekk,eij,eik,ekj,wk,wj];refine ⟨⟨j+1,by omega,by omega,?_,⟨by simp [v0,s0],by simp [hkeep2.k2],by simp [hkeep2.k3],by simp [hkeep2.k4],by simp [v5,s5],by simp [hkeep2.l2],by simp [hkeep2.l3],by simp [hkeep2.l4]⟩,λq hq=>?_,by simp [v8],by simp⟩,?_⟩
     . rw [<- hset];exact HM2.set hi t0 (by simp) λq hq=>by simp [hq]
     . have:=hq i hi;have:=hfr2 q hq;simp [*]
     . rw [d9,nM_eq (i:=9) (n:=j+1) (by simp)]; omega
   . have hjI:¬ (j:Int)<(n:Int):=by omega
     have wi:=i64_succ i (by omega);refine Ws ?_; simp [v8,v9,v0,v5,hi,hiI,hj,hjI,htop2,wi];refine WS_cF (by simp [v8,v9,v0,v5,hi,hiI,hj,hjI,htop2,wi]) ?_;refine WS_exit ?_; simp [v8,v9,v0,v5,hi,hiI,hj,hjI,htop2,wi];refine WS_reg [] ?_; simp [v8,v9,v0,v5,hi,hiI,hj,hjI,htop2,wi];refine ⟨⟨i+1,by omega,by omega,HM2.eqM (λa b ha hb=>?_),⟨by simp [v0,s0],by simp [hkeep2.k2],by simp [hkeep2.k3],by simp [hkeep2.k4],by simp [v5,s5],hkeep2.l2,hkeep2.l3,hkeep2.l4⟩,hfr2,by simp⟩,?_⟩
     . unfold elM; congr 1; apply propext; omega
     . rw [d8,nM_eq (i:=8) (n:=i+1) (by simp)]; omega
 . have hiI:¬ (i:Int)<(n:Int):=by omega
   refine Ws ?_; simp [u8,u0,u5,hi,hiI,htop];refine WS_cF (by simp [u8,u0,u5,hi,hiI,htop]) ?_;refine WS_exit ?_; simp [u8,u0,u5,hi,hiI,htop];refine hQ _ (HM1.eqM λa b ha hb=>?_) ⟨by simp [u0,s0],by simp [hkeep.k2],by simp [hkeep.k3],by simp [hkeep.k4],by simp [u5,s5],hkeep.l2,hkeep.l3,hkeep.l4⟩ hfr;unfold elM; congr 1; apply propext; omega
set_option maxHeartbeats 4000000 in
theorem det_step {Q:Exit->St->Prop} {S:St} {h2:Nat->HC} {r G n k K:Nat} {ρ0 ρ γ:Nat->Nat} {M0 M:Nat->Nat->Int} {last s:Int} (HB:BrI n M0 k M last s) (hp:M k k≠0) (HM:Mat S.h r G n n ρ γ M) (hn:n<=2^20) (hlt:k<n)
 (zM:∀ i j,k<=i->i<n->k<=j->j<n->zlen (M i j)<=K) (zl:zlen last<=K) (hl0:last≠0) (hK:K<=2^25) (hρ:∀ i,i<n->∃ i',i'<n/\ρ i=ρ0 i') (hfr:∀ q,q+1000 ∉ fpM r n ρ0->S.h (q+1000)=h2 (q+1000))
 (s0:S.σ 0= .own (r+1000) G 0 n) (s2:S.σ 2= .ptr 2 1 0) (h2b:S.h 2=⟨1,some (.box 28 [.b false,.sl none []])⟩) (s3:S.σ 3= .ptr 3 1 0) (h3:S.h 3=⟨1,some (.box 28 [.b (zn s),.sl none (uL (Go.Vw.zl s))])⟩)
 (s4:S.σ 4= .ptr 4 1 0) (h4:S.h 4=⟨1,some (.box 28 [.b (zn last),.sl none (uL (Go.Vw.zl last))])⟩) (s5:S.σ 5= .p (.i .i64 (k:Int)))
 (hQ:∀ S',DetI h2 r G n ρ0 γ M0 (k+1) ⟨upd S'.σ 5 (.p (.i .i64 ((k+1:Nat):Int))),S'.h⟩->S'.σ 5= .p (.i .i64 (k:Int))->Q .normal S'):
 WS Tryz.prog 134 sc_ref11_Det.snd.snd.snd.fst.snd.fst.fst.snd.fst.fst.snd.snd.snd.snd Q S:=by
 have hltI:(k:Int)<(n:Int):=by omega
 obtain ⟨hz,hnext⟩:=brI_step HB hlt hp;have hT:∃ T:Nat->Nat->Int,∀ i j,k<i->i<n->k<j->j<n->T i j*last=M k k*M i j-M i k*M k j:=by
  have each:∀ i j,∃ z:Int,k<i->i<n->k<j->j<n->z*last=M k k*M i j-M i k*M k j:=λi j=>by
   by_cases h:k<i/\i<n/\k<j/\j<n
   . obtain ⟨z,hz'⟩:=hz i j h.1 h.2.1 h.2.2.1 h.2.2.2;exact ⟨z,λ_ _ _ _=>hz'⟩
   . exact ⟨0,λa b c d=>absurd ⟨a,b,c,d⟩ h⟩
  exact ⟨λi j=>Classical.choose (each i j),λi j=>Classical.choose_spec (each i j)⟩
 obtain ⟨T,hT⟩:=hT;have hB2:=hnext (elM k n 0 T M) λi j a b c d=>by
  have:=hT i j a b c d;unfold elM; rw [if_pos (by omega)]; exact this
 refine WS_seq ?_;refine det_elim (K:=K) HM hn hlt hl0 hT zM zl hK s0 s4 h4 s5 ?_;intro S1 HM1 hkeep hfr1;have u0:=hkeep.k0.trans s0;have u2:=hkeep.k2.trans s2;have u3:=hkeep.k3.trans s3;have u4:=hkeep.k4.trans s4;have u5:=hkeep.k5.trans s5;have l2:=hkeep.l2.trans h2b;have l3:=hkeep.l3.trans h3;have l4:=hkeep.l4.trans h4;have htop:=HM1.top;have hrk:=HM1.row k hlt;have ekk:elM k n 0 T M k k=M k k:=by unfold elM; rw [if_neg (by omega)]
 obtain ⟨W,hW⟩:∃ W,W=elM k n 0 T M:=⟨_,rfl⟩;rw [<- hW] at hrk ekk HM1 hB2;obtain ⟨x1,hx1⟩:∃ x,x=M k k:=⟨_,rfl⟩;rw [<- hx1] at ekk hB2;refine WS_reg [] ?_; simp [u0,u5,u4,l4,htop,hrk,ekk,hlt,hltI];refine hQ _ ⟨ρ,W,x1,s,hB2,HM1.congr λq=>by simp,hρ,λq hq=>?_,by simp [u0],by simp [u2],by simp [l2],by simp [u3],by simp [l3],by simp [u4],by simp,by simp⟩ (by simp [u5]);have:=hfr1 q (λi hi e=>hq (by
  obtain ⟨i',hi',e'⟩:=hρ i hi;rw [e,e']; exact fpM_row hi'))
 simp [this,hfr q hq]
theorem DetI.congr {h2:Nat->HC} {r G n:Nat} {ρ0 γ:Nat->Nat} {M0:Nat->Nat->Int} {k:Nat} {S S':St} (H:DetI h2 r G n ρ0 γ M0 k S) (hσ:∀ t,t<6->S'.σ t=S.σ t) (hh:S'.h=S.h):DetI h2 r G n ρ0 γ M0 k S':=by
 obtain ⟨ρ,M,last,s,a,b,c,d,s0,s2,h2b,s3,h3,s4,h4,s5⟩:=H;refine ⟨ρ,M,last,s,a,by rw [hh]; exact b,c,by rw [hh]; exact d,?_,?_,by rw [hh]; exact h2b,?_,by rw [hh]; exact h3,?_,by rw [hh]; exact h4,?_⟩<;>rw [hσ _ (by omega)]<;>assumption
def DtO (h2:Nat->HC) (r G n:Nat) (ρ0 γ:Nat->Nat) (M0:Nat->Nat->Int) (S:St):Prop:=∃ k,k<=n/\DetI h2 r G n ρ0 γ M0 k S
set_option maxHeartbeats 4000000 in
theorem rdet {h:Nat->HC} {r G n K C:Nat} {ρ γ:Nat->Nat} {M0:Nat->Nat->Int} (H:Mat h r G n n ρ γ M0) (hn:n<=2^20) (hC:∀ a b,(M0 a b).natAbs<=C)
 (hK:∀ k,k<=n->∀ z:Int,z.natAbs<=dB C k->zlen z<=K) (hK2:K<=2^25):FrM Tryz.prog f_ref11_Det h (fpM r n ρ) [.own (r+1000) G 0 n] (λ_ svs=>svs=[.p (Z (detZ n M0))]):=by
 refine frM_at Tryz.func66 ok_ref11_Det (by simp) (by simp) fpM_big λh2 hh=>?_;have H2:=H.of_fp hh;have o1:=rof 1 (by omega) (by omega);have o0:=rof 0 (by omega) (by omega);unfold sc_ref11_Det;refine Wr ?_; simp;refine Wr ?_; simp;refine callP o1 rfl ?_;simp;refine Wr ?_; simp;refine callP o1 rfl ?_;simp;refine Ws ?_; simp;refine WS_block ?_;refine WS_loop (DtO h2 r G n ρ γ M0) (λS=>n-nM 5 S) ⟨0,by omega,ρ,M0,1,1,brI_init n M0,H2.congr λq=>by simp,λi hi=>⟨i,hi,rfl⟩,λq _=>by simp,by simp [argSlotG],by simp,by simp,by simp,by simp,by simp,by simp,by simp⟩ ?_;rintro S ⟨k,hk,ρ',M,last,s,HB,HM,hρ,hfr,s0,s2,h2b,s3,h3,s4,h4,s5⟩;have d5:=nM_eq s5;have htop:=HM.top;have hl:=brI_last HB hC;have zl:=hK k hk last hl.1;by_cases hlt:k<n
 . have hltI:(k:Int)<(n:Int):=by omega
   have wk:=i64_succ k (by omega);have zM:∀ i j,k<=i->i<n->k<=j->j<n->zlen (M i j)<=K:=λi j a b c d=>hK (k+1) (by omega) _ (brI_abs HB hC a b c d);refine Ws ?_; simp [s0,s5,hlt,hltI,htop];refine WS_cT (by simp [s0,s5,hlt,hltI,htop]) ?_;refine WS_skip ?_; simp [s0,s5,hlt,hltI,htop];refine WS_seq (WS_block (Wr ?_)); simp [s0,s5,hlt,hltI,htop];refine WS_seq ?_;refine det_find (K:=K) HM hn hlt (λp a b=>zM p k a b (Nat.le_refl _) hlt) hK2 (by simp [s0]) (by simp [s5]) (by simp [s5]) ?_;intro S1 p hkp hpn hz hnz hS1 hkeep u6;have u0:=hkeep.k0.trans (show _=SV.own (r+1000) G 0 n by simp [s0]);have u2:=hkeep.k2.trans (show _=SV.ptr 2 1 0 by simp [s2]);have u3:=hkeep.k3.trans (show _=SV.ptr 3 1 0 by simp [s3]);have u4:=hkeep.k4.trans (show _=SV.ptr 4 1 0 by simp [s4]);have u5:=hkeep.k5.trans (show _=SV.p (.i .i64 (k:Int)) by simp [s5]);replace hS1:S1.h=S.h:=hS1;clear hkeep;by_cases hpe:p=n
   . subst hpe;have hd:=brI_zero HB hlt λi a b=>hz i a b;rw [hd];refine Ws ?_; simp [hS1,u0,u2,u5,u6,htop,h2b];refine WS_cT (by simp [hS1,u0,u2,u5,u6,htop,h2b]) ?_;refine Wr ?_; simp [hS1,u0,u2,u5,u6,htop,h2b];refine callP o0 rfl ?_;simp [hS1,u0,u2,u5,u6,htop,h2b];refine WS_ret ?_; simp [hS1,u0,u2,u5,u6,htop,h2b];exact hfr
   . have hp:p<n:=by omega
     have hpI:(p:Int)<(n:Int):=by omega
     have hpe':¬ (p:Int)=(n:Int):=by omega
     have hnp:=hnz hp;have HM1:Mat S1.h r G n n ρ' γ M:=by rw [hS1]; exact HM
     by_cases hpk:p=k
     . subst hpk;refine Ws ?_; simp [hS1,u0,u2,u5,u6,htop,hpe,hpe'];refine WS_cF (by simp [hS1,u0,u2,u5,u6,htop,hpe,hpe']) ?_;refine WS_skip ?_; simp [hS1,u0,u2,u5,u6,htop,hpe,hpe'];refine Ws ?_; simp [hS1,u0,u2,u5,u6,htop,hpe,hpe'];refine WS_cF (by simp [hS1,u0,u2,u5,u6,htop,hpe,hpe']) ?_;refine WS_skip ?_; simp [hS1,u0,u2,u5,u6,htop,hpe,hpe'];refine det_step (K:=K) HB hnp HM hn hlt zM zl hl.2 hK2 hρ hfr (by simp [u0]) (by simp [u2]) h2b (by simp [u3]) h3 (by simp [u4]) h4 (by simp [u5]) ?_;intro S3 hD hs5;refine WS_reg [] ?_; simp [hs5,wk];refine ⟨⟨p+1,by omega,hD.congr (λt ht=>?_) rfl⟩,?_⟩
       . simp [upd_apply,show t≠19 by omega,show t≠20 by omega]
       . rw [d5,nM_eq (i:=5) (n:=p+1) (by simp)]; omega
     . have hpkI:¬ (p:Int)=(k:Int):=by omega
       have zs:zlen s<=1:=by
        obtain ⟨_,_,_,_,hs,_⟩:=HB.ex;rcases hs with h | h<;>subst h<;>exact zlen_small (by decide)
       have rn:=rneg (isZ_of zs) (by omega);refine Ws ?_; simp [hS1,u0,u2,u3,u5,u6,htop,hpe,hpe',hp,hpI,hlt,hltI,hpk,hpkI,h3];refine WS_cF (by simp [hS1,u0,u2,u3,u5,u6,htop,hpe,hpe',hp,hpI,hlt,hltI,hpk,hpkI,h3]) ?_;refine WS_skip ?_; simp [hS1,u0,u2,u3,u5,u6,htop,hpe,hpe',hp,hpI,hlt,hltI,hpk,hpkI,h3];refine Ws ?_; simp [hS1,u0,u2,u3,u5,u6,htop,hpe,hpe',hp,hpI,hlt,hltI,hpk,hpkI,h3];refine WS_cT (by simp [hS1,u0,u2,u3,u5,u6,htop,hpe,hpe',hp,hpI,hlt,hltI,hpk,hpkI,h3]) ?_;refine Wr ?_; simp [hS1,u0,u2,u3,u5,u6,htop,hpe,hpe',hp,hpI,hlt,hltI,hpk,hpkI,h3];refine Wr ?_; simp [hS1,u0,u2,u3,u5,u6,htop,hpe,hpe',hp,hpI,hlt,hltI,hpk,hpkI,h3];refine Wr ?_; simp [hS1,u0,u2,u3,u5,u6,htop,hpe,hpe',hp,hpI,hlt,hltI,hpk,hpkI,h3];refine WS_reg [] ?_; simp [hS1,u0,u2,u3,u5,u6,htop,hpe,hpe',hp,hpI,hlt,hltI,hpk,hpkI,h3];refine callP rn rfl ?_;simp [hS1,u0,u2,u3,u5,u6,htop,hpe,hpe',hp,hpI,hlt,hltI,hpk,hpkI,h3];have ht:∀ i,k<=i->i<n->k<=tr2 k p i/\tr2 k p i<n:=λi hi hn=>by unfold tr2; split<;>(try split)<;>omega
       have hti:∀ i,i<n->tr2 k p i<n:=λi hi=>by unfold tr2; split<;>(try split)<;>omega
       refine det_step (K:=K) (h2:=h2) (ρ0:=ρ) (r:=r) (G:=G) (ρ:=λi=>ρ' (tr2 k p i)) (γ:=γ) (brI_swap HB hlt (by omega) hp) (by simpa [tr2] using hnp) (HM.swap hlt hp (by omega) (by simp) λq hq=>by simp [hq]) hn hlt (λi j a b c d=>zM _ j (ht i a b).1 (ht i a b).2 c d) zl hl.2 hK2 (λi hi=>hρ _ (hti i hi))
        (λq hq=>?_) (by simp [u0]) (by simp [u2]) (by simp [h2b]) (by simp [u3]) (by simp) (by simp [u4]) (by simp [h4]) (by simp [u5]) ?_
       . have:q≠r:=λe=>hq (by rw [e]; exact fpM_top);simp [this,hfr q hq]
       intro S3 hD hs5;refine WS_reg [] ?_; simp [hs5,wk];refine ⟨⟨k+1,by omega,hD.congr (λt ht=>?_) rfl⟩,?_⟩
       . simp [upd_apply,show t≠19 by omega,show t≠20 by omega]
       . rw [d5,nM_eq (i:=5) (n:=k+1) (by simp)]; omega
 . obtain rfl:k=n:=by omega
   have hltI:¬ (k:Int)<(k:Int):=by omega
   have hd:=brI_end HB;have zs:zlen s<=1:=by
    obtain ⟨_,_,_,_,hs,_⟩:=HB.ex;rcases hs with h | h<;>subst h<;>exact zlen_small (by decide)
   have mu:=rmul (isZ_of (x:=s) (k:=K+1) (by omega)) (isZ_of (x:=last) (k:=K+1) (by omega)) (by omega);refine Ws ?_; simp [s0,s5,hltI,htop,s2,h2b,s3,h3,s4,h4];refine WS_cF (by simp [s0,s5,hltI,htop,s2,h2b,s3,h3,s4,h4]) ?_;refine WS_exit ?_; simp [s0,s5,hltI,htop,s2,h2b,s3,h3,s4,h4];refine Wr ?_; simp [s0,s5,hltI,htop,s2,h2b,s3,h3,s4,h4];refine callP mu rfl ?_;simp [s0,s5,hltI,htop,s2,h2b,s3,h3,s4,h4];refine WS_ret ?_; simp [s0,s5,hltI,htop,s2,h2b,s3,h3,s4,h4];rw [hd];exact ⟨hfr,rfl,rfl⟩
theorem rowsS_ren {n w r g r' g':Nat} {ρ γ:Nat->Nat} (hr:r<1000):(rowsS n w ρ γ).map (ren0 r g r' g')=rowsS n w ρ γ:=by
 rw [rowsS,List.map_map];refine List.map_congr_left λi _=>?_;show (if ρ i+1000=r/\γ (ρ i)=g then _ else _)=_;rw [if_neg (by omega)]
theorem rowsS_snoc {n w:Nat} {ρ γ:Nat->Nat}:rowsS n w ρ γ++[.own (ρ n+1000) (γ (ρ n)) 0 w]=rowsS (n+1) w ρ γ:=by
 rw [rowsS,rowsS,List.range_succ,List.map_append]; rfl
theorem rowZ_zero (w:Nat):List.replicate w (V.agg [.b false,.sl none []])=rowZ w (λ_=>0):=by
 refine List.ext_getElem (by simp [rowZ]) λi h1 h2=>?_;rw [List.getElem_replicate]; simp [rowZ]; first | rfl | exact ⟨rfl,rfl⟩
attribute [local simp] St.elemsS
theorem rowsS_refs {n w:Nat} {ρ γ:Nat->Nat}:∀ q∈(HObj.rows 22 (rowsS n w ρ γ)).refs,1000<=q:=by
 intro q hq;simp only [HObj.refs,rowsS,List.mem_flatMap,List.mem_map] at hq;obtain ⟨x,⟨i,_,rfl⟩,hq⟩:=hq;simp only [svref,List.mem_singleton] at hq;omega
attribute [local simp] packSV
def dtZ (a b:List Int):Nat->Int
 | 0=>0
 | k+1=>dtZ a b k+cf a k*cf b k
theorem dtZ_comm (a b:List Int):∀ w,dtZ a b w=dtZ b a w
 | 0=>rfl
 | k+1=>by rw [dtZ,dtZ,dtZ_comm a b k,Int.mul_comm (cf a k)]
theorem dtZ_len {k:Nat} {a b:List Int} (ha:PL k a) (hb:PL k b):∀ w,zlen (dtZ a b w)<=2*k+w
 | 0=>by rw [dtZ,zlen_zero]; omega
 | w+1=>by
  have h1:=dtZ_len ha hb w;have h2:=zlen_add (dtZ a b w) (cf a w*cf b w);have h3:=zlen_mul (cf a w) (cf b w);have h4:=ha w;have h5:=hb w;rw [dtZ]; omega
theorem dtZ_cast (a b:List Int):∀ w,((dtZ a b w:Int):Rat)=dq (λc=>((cf a c:Int):Rat)) (λc=>((cf b c:Int):Rat)) w
 | 0=>by simp [dtZ,dq]
 | w+1=>by rw [dtZ,dq,<-dtZ_cast a b w]; push_cast; rfl
def DoS (vs ws:List V) (a b:List Int) (I T:Nat) (S:St):Prop:=∃ k:Nat,k<=a.length/\S.σ I= .p (.i .i64 (k:Int))/\S.σ 1= .p (.sl (some 2) ws)/\S.σ T= .p (.sl (some 2) vs)/\
 S.σ 5= .ptr 5 1 0/\S.h 5=⟨1,some (.box 28 [.b (zn (dtZ a b k)),.sl none (uL (zl (dtZ a b k)))])⟩/\S.σ 4= .ptr 4 1 0/\S.h 4=⟨1,some (.box 28 [.b false,.sl none []])⟩
set_option maxHeartbeats 1000000 in
theorem ldot {k:Nat} {vs ws:List V} {a b:List Int} (hv:IsP k vs a) (hw:IsP k ws b) (hl:vs.length<=ws.length) (hk:k<=2^20) (hn:vs.length<=2^20):
 Spec Tryz.prog f_lattice_dot [.sl (some 2) vs,.sl (some 2) ws] (· =[.pure (Z (dtZ a b vs.length))]):=by
 have o0:=zof 0 (by omega) (by omega);have hlen:=hv.len;have hlen2:=hw.len;refine spec_at Tryz.func110 ok_lattice_dot [] rfl (by simp) ?_;unfold sc_lattice_dot;refine Wr ?_; simp;refine Wr ?_; simp;refine callK o0 ?_; simp;refine Ws ?_; simp;refine WS_block ?_;refine WS_loop (λS=>DoS vs ws a b 11 9 S/\S.σ 10= .p (.i .i64 (vs.length:Int))) (λS=>vs.length-nM 11 S) ⟨⟨0,by omega,rfl,rfl,rfl,rfl,rfl,rfl,rfl⟩,rfl⟩ ?_;rintro S ⟨⟨i,hi,s11,s1,s9,s5,h5,s4,h4⟩,s10⟩;have d11:=nM_eq s11;by_cases hiv:i<vs.length
 . have hI:(i:Int)<(vs.length:Int):=by omega
   have w1:=i64_succ i (by omega);have hiw:i<ws.length:=by omega
   obtain ⟨b1,t1,hvi,hz1,hzi1⟩:=hv.cell i hiv;obtain ⟨b2,t2,hwi,hz2,hzi2⟩:=hw.cell i hiw;have mu:=zmul (hv.get i hiv) (hw.get i hiw) (by omega);have le:=dtZ_len hv.pl hw.pl i;have lm:=zlen_mul (cf a i) (cf b i);have la:=hv.pl i;have lb:=hw.pl i;have ad:=zadd (isZ_of (x:=dtZ a b i) (k:=2^22) (by omega)) (isZ_of (x:=cf a i*cf b i) (k:=2^22) (by omega)) (by omega);rw [hvi,hwi] at mu;rw [show dtZ a b i+cf a i*cf b i=dtZ a b (i+1) from rfl] at ad;obtain ⟨y,hy⟩:∃ y,y=dtZ a b i:=⟨_,rfl⟩;rw [<- hy] at ad h5;refine Wr ?_; simp [s11,s1,s9,s5,h5,s4,h4,s10,hiv,hiw,hvi,hwi,hI,w1];refine WS_seq ?_;refine WS_cT (by simp [s11,s1,s9,s5,h5,s4,h4,s10,hiv,hiw,hvi,hwi,hI,w1]) ?_;refine WS_skip ?_; simp [s11,s1,s9,s5,h5,s4,h4,s10,hiv,hiw,hvi,hwi,hI,w1];refine WS_seq (WS_block (Wr ?_)); simp [s11,s1,s9,s5,h5,s4,h4,s10,hiv,hiw,hvi,hwi,hI,w1];refine WS_regD [] ?_; simp [s11,s1,s9,s5,h5,s4,h4,s10,hiv,hiw,hvi,hwi,hI,w1];refine callD mu rfl ?_; simp [s11,s1,s9,s5,h5,s4,h4,s10,hiv,hiw,hvi,hwi,hI,w1];refine callD ad rfl ?_; simp [s11,s1,s9,s5,h5,s4,h4,s10,hiv,hiw,hvi,hwi,hI,w1];refine ⟨rfl,?_⟩;refine WS_reg [] ?_; simp [s11,s1,s9,s5,h5,s4,h4,s10,hiv,hiw,hvi,hwi,hI,w1];refine ⟨⟨i+1,by omega,by simp,by simp [s1],by simp [s9],by simp [s5],by simp,by simp [s4],by simp [h4]⟩,?_⟩;rw [d11,nM_eq (i:=11) (n:=i+1) (by simp)];omega
 . obtain rfl:i=vs.length:=by omega
   have hI:¬ ((vs.length:Int)<(vs.length:Int)):=by omega
   refine Wr ?_; simp [s11,s1,s9,s5,h5,s4,h4,s10,hI];refine WS_seq ?_;refine WS_cF (by simp [s11,s1,s9,s5,h5,s4,h4,s10,hI]) ?_;refine WS_exit ?_; simp [s11,s1,s9,s5,h5,s4,h4,s10,hI];refine Wr ?_; simp [s11,s1,s9,s5,h5,s4,h4,s10,hI];refine WS_ret ?_; simp [s11,s1,s9,s5,h5,s4,h4,s10,hI]
set_option maxHeartbeats 1000000 in
theorem rdot {k:Nat} {vs ws:List V} {a b:List Int} (hv:IsP k vs a) (hw:IsP k ws b) (hl:vs.length<=ws.length) (hk:k<=2^20) (hn:vs.length<=2^20):
 Spec Tryz.prog f_ref14_dot [.sl (some 2) vs,.sl (some 2) ws] (· =[.pure (Z (dtZ a b vs.length))]):=by
 have o0:=rof 0 (by omega) (by omega);have hlen:=hv.len;have hlen2:=hw.len;refine spec_at Tryz.func108 ok_ref14_dot [] rfl (by simp) ?_;unfold sc_ref14_dot;refine Wr ?_; simp;refine Wr ?_; simp;refine callK o0 ?_; simp;refine Ws ?_; simp;refine WS_block ?_;refine WS_loop (DoS vs ws a b 6 0) (λS=>vs.length-nM 6 S) ⟨0,by omega,rfl,rfl,rfl,rfl,rfl,rfl,rfl⟩ ?_;rintro S ⟨i,hi,s11,s1,s9,s5,h5,s4,h4⟩;have d11:=nM_eq s11;by_cases hiv:i<vs.length
 . have hI:(i:Int)<(vs.length:Int):=by omega
   have w1:=i64_succ i (by omega);have hiw:i<ws.length:=by omega
   obtain ⟨b1,t1,hvi,hz1,hzi1⟩:=hv.cell i hiv;obtain ⟨b2,t2,hwi,hz2,hzi2⟩:=hw.cell i hiw;have mu:=rmul (hv.get i hiv) (hw.get i hiw) (by omega);have le:=dtZ_len hv.pl hw.pl i;have lm:=zlen_mul (cf a i) (cf b i);have la:=hv.pl i;have lb:=hw.pl i;have ad:=radd (isZ_of (x:=dtZ a b i) (k:=2^22) (by omega)) (isZ_of (x:=cf a i*cf b i) (k:=2^22) (by omega)) (by omega);rw [hvi,hwi] at mu;rw [show dtZ a b i+cf a i*cf b i=dtZ a b (i+1) from rfl] at ad;obtain ⟨y,hy⟩:∃ y,y=dtZ a b i:=⟨_,rfl⟩;rw [<- hy] at ad h5;refine Ws ?_; simp [s11,s1,s9,s5,h5,s4,h4,hiv,hiw,hvi,hwi,hI,w1];refine WS_cT (by simp [s11,s1,s9,s5,h5,s4,h4,hiv,hiw,hvi,hwi,hI,w1]) ?_;refine WS_skip ?_; simp [s11,s1,s9,s5,h5,s4,h4,hiv,hiw,hvi,hwi,hI,w1];refine WS_seq (WS_block (WS_regD [] ?_)); simp [s11,s1,s9,s5,h5,s4,h4,hiv,hiw,hvi,hwi,hI,w1];refine callD mu rfl ?_; simp [s11,s1,s9,s5,h5,s4,h4,hiv,hiw,hvi,hwi,hI,w1];refine callD ad rfl ?_; simp [s11,s1,s9,s5,h5,s4,h4,hiv,hiw,hvi,hwi,hI,w1];refine ⟨rfl,?_⟩;refine WS_reg [] ?_; simp [s11,s1,s9,s5,h5,s4,h4,hiv,hiw,hvi,hwi,hI,w1];refine ⟨⟨i+1,by omega,by simp,by simp [s1],by simp [s9],by simp [s5],by simp,by simp [s4],by simp [h4]⟩,?_⟩;rw [d11,nM_eq (i:=6) (n:=i+1) (by simp)];omega
 . obtain rfl:i=vs.length:=by omega
   have hI:¬ ((vs.length:Int)<(vs.length:Int)):=by omega
   refine Ws ?_; simp [s11,s1,s9,s5,h5,s4,h4,hI];refine WS_cF (by simp [s11,s1,s9,s5,h5,s4,h4,hI]) ?_;refine WS_exit ?_; simp [s11,s1,s9,s5,h5,s4,h4,hI];refine Wr ?_; simp [s11,s1,s9,s5,h5,s4,h4,hI];refine WS_ret ?_; simp [s11,s1,s9,s5,h5,s4,h4,hI]
structure IsL (k:Nat) (xs:List V) (L:List (List Int)):Prop where
 len:xs.length=L.length
 row:∀ i (h:i<xs.length),∃ vs,xs[i]= .sl (some 2) vs/\IsP k vs (L.getD i [])
def gm (L:List (List Int)) (i j:Nat):Int:=dtZ (L.getD i []) (L.getD j []) (L.getD i []).length
theorem rowZ_snoc {k:Nat} {f:Nat->Int}:rowZ k f++[Z (f k)]=rowZ (k+1) f:=by
 rw [rowZ,rowZ,List.range_succ,List.map_append]; rfl
def RgI (h2:Nat->HC) (γ:Nat->Nat) (w i:Nat) (M:Nat->Nat->Int) (S:St):Prop:=
 ∃ G,S.σ 3= .own 3 G 0 i/\S.h 3=⟨G,some (.rows 22 (rowsS i w (· +1) γ))⟩/\
  (∀ a,a<i->S.h (a+1+1000)=⟨γ (a+1),some (.arr 28 (some 2) (rowZ w (M a)))⟩)/\(∀ q,q=0\/i<q->S.h (q+1000)=h2 (q+1000))
def RgR (S1:St) (L:List (List Int)) (n i:Nat) (S':St):Prop:=
 ∃ k g,k<=n/\S'.h 5=⟨g,some (.arr 28 (some 2) (rowZ k (gm L i)))⟩/\(∀ q,q≠5->S'.h q=S1.h q)/\S'.σ 5= .own 5 g 0 k/\S'.σ 6= .p (.i .i64 (k:Int))/\
  S'.σ 0=S1.σ 0/\S'.σ 3=S1.σ 3/\S'.σ 4=S1.σ 4
set_option maxHeartbeats 4000000 in
theorem gram_row {Q:Exit->St->Prop} {S:St} {k g i:Nat} {xs:List V} {L:List (List Int)} {w:Nat} (hL:IsL k xs L) (hw:∀ i,i<xs.length->(L.getD i []).length=w) (hw2:w<=2^20) (hk:k<=2^20) (hn:xs.length<=2^20) (hi:i<xs.length)
 (s0:S.σ 0= .p (.sl none xs)) (s4:S.σ 4= .p (.i .i64 (i:Int))) (s5:S.σ 5= .own 5 g 0 0) (h5:S.h 5=⟨g,some (.arr 28 (some 2) [])⟩)
 (hQ:∀ S' g',S'.h 5=⟨g',some (.arr 28 (some 2) (rowZ xs.length (gm L i)))⟩->S'.σ 5= .own 5 g' 0 xs.length->(∀ q,q≠5->S'.h q=S.h q)->S'.σ 0=S.σ 0->S'.σ 3=S.σ 3->S'.σ 4=S.σ 4->Q .normal S'):
 WS Tryz.prog 36 sc_ref14_gram.snd.snd.fst.snd.fst.fst.snd.fst.fst.snd.fst Q S:=by
 unfold sc_ref14_gram;simp only [SC.snd,SC.fst];refine Wr ?_; simp;refine WS_block ?_;refine WS_loop (RgR S L xs.length i) (λS=>xs.length-nM 6 S) ⟨0,g,by omega,h5,λ_ _=>rfl,s5,by simp,by simp,by simp,by simp⟩ ?_;rintro S1 ⟨j,g1,hj,k5,hoth,t5,t6,t0,t3,t4⟩;have dK:=nM_eq t6;have v0:=t0.trans s0;have v4:=t4.trans s4;by_cases hlt:j<xs.length
 . have hltI:(j:Int)<(xs.length:Int):=by omega
   have hiI:(i:Int)<(xs.length:Int):=by omega
   have wj:=i64_succ j (by omega);obtain ⟨vs,hvs,pv⟩:=hL.row i hi;obtain ⟨ws,hws,pw⟩:=hL.row j hlt;have lv:vs.length=w:=by rw [pv.len]; exact hw i hi
   have lw:ws.length=w:=by rw [pw.len]; exact hw j hlt
   have dt:=rdot pv pw (by omega) hk (by omega);rw [pv.len,show dtZ (L.getD i []) (L.getD j []) (L.getD i []).length=gm L i j from rfl] at dt;have hs:=rowZ_snoc (k:=j) (f:=gm L i);rw [Z_eq] at hs;have hb1:(j+1)*32<=140737488355328:=by omega
   have hb2:j<=140737488355327:=by omega
   have htk:(rowZ j (gm L i)).take j=rowZ j (gm L i):=List.take_of_length_le (by simp);refine Ws ?_; simp [t5,t6,v0,v4,k5,hlt,hltI,hi,hiI,hvs,hws,wj,htk,hs,hb1,hb2];refine WS_cT (by simp [t5,t6,v0,v4,k5,hlt,hltI,hi,hiI,hvs,hws,wj,htk,hs,hb1,hb2]) ?_;refine WS_skip ?_; simp [t5,t6,v0,v4,k5,hlt,hltI,hi,hiI,hvs,hws,wj,htk,hs,hb1,hb2];refine WS_seq (WS_block (WS_regD [] ?_)); simp [t5,t6,v0,v4,k5,hlt,hltI,hi,hiI,hvs,hws,wj,htk,hs,hb1,hb2];refine callD dt rfl ?_; simp [t5,t6,v0,v4,k5,hlt,hltI,hi,hiI,hvs,hws,wj,htk,hs,hb1,hb2];refine ⟨rfl,?_⟩;refine WS_reg [] ?_; simp [t5,t6,v0,v4,k5,hlt,hltI,hi,hiI,hvs,hws,wj,htk,hs,hb1,hb2];refine ⟨⟨j+1,g1+1,by omega,by simp,λq hq=>by simp [hq,hoth q hq],by simp,by simp,by simp [t0],by simp [t3],by simp [t4]⟩,?_⟩;rw [dK,nM_eq (i:=6) (n:=j+1) (by simp)]; omega
 . obtain rfl:j=xs.length:=by omega
   have hltI:¬ ((xs.length:Nat):Int)<(xs.length:Int):=by omega
   refine Ws ?_; simp [t6,v0,hltI];refine WS_cF (by simp [t6,v0,hltI]) ?_;refine WS_exit ?_; simp [t6,v0,hltI];exact hQ _ g1 (by simp [k5]) (by simp [t5]) (λq h1=>by simp [hoth q h1]) (by simp [t0]) (by simp [t3]) (by simp [t4])
def RgO (S:St) (h2:Nat->HC) (n:Nat) (L:List (List Int)) (S':St):Prop:=
 ∃ i,i<=n/\RgI h2 (λq=>(h2 (q+1000)).g+1) n i (gm L) S'/\S'.σ 4= .p (.i .i64 (i:Int))/\S'.σ 0=S.σ 0
set_option maxHeartbeats 4000000 in
theorem gram_end {h2:Nat->HC} {n:Nat} {L:List (List Int)} {S1 S2:St} (hf2:∀ q,q<=n->(h2 (q+1000)).o=none) (HR:RgI h2 (λq=>(h2 (q+1000)).g+1) n n (gm L) S1) (e3:S2.σ 3=S1.σ 3) (eh:S2.h=S1.h)
 {R:(Nat->HC)->List SV->Prop} (hR:∀ g G γ,Mat g 0 G n n (· +1) γ (gm L)->R g [.own 1000 G 0 n]):
 WS Tryz.prog 36 sc_ref14_gram.snd.snd.snd (retQM [.tmp 2] (fpM 0 n (· +1)) R h2) S2:=by
 obtain ⟨G,r3,rh3,hrows,hfr⟩:=HR;rw [<- e3] at r3;rw [<- eh] at rh3 hrows hfr;have kn:S2.h 1000=h2 1000:=hfr 0 (.inl rfl);refine WS_move 3 1000 (by rw [rh3]) (by rw [kn]; exact hf2 0 (by omega)) (by decide) (by decide) rowsS_refs ?_;have m3:(S2.move 3 1000).σ 3= .own 1000 ((h2 1000).g+1) 0 n:=by simp [St.move,r3,ren2,ren1,ren0,rh3,kn]
 have mh:(S2.move 3 1000).h 1000=⟨(h2 1000).g+1,some (.rows 22 (rowsS n n (· +1) λq=>(h2 (q+1000)).g+1))⟩:=by simp [St.move,rh3,kn]
 have mq:∀ q,q≠0->(S2.move 3 1000).h (q+1000)=S2.h (q+1000):=λq hq=>by
  have h1:¬ q+1000=3:=by omega
  have h2:¬ q+1000<1000:=by omega
  have h3:¬ q+1000=1000:=by omega
  simp [St.move,h1,h2,hq]
 obtain ⟨S3,hS3⟩:∃ S3,S3=S2.move 3 1000:=⟨_,rfl⟩;rw [<- hS3] at m3 mh ⊢;simp only [<- hS3] at mq;unfold sc_ref14_gram;simp only [SC.snd];refine Wr ?_; simp [m3];refine WS_ret ?_; simp [m3];refine ⟨λq' hq=>?_,hR _ _ (λq=>(h2 (q+1000)).g+1) ⟨mh,λi hi=>?_,λi j _ _ e=>by omega,λi _=>by omega⟩⟩
 . have h0:q'≠0:=λe=>hq (by subst e; exact fpM_top);have h1:n<q':=by
    refine Nat.lt_of_not_le λhle=>hq ?_;obtain ⟨k,rfl⟩:∃ k,q'=k+1:=⟨q'-1,by omega⟩;exact fpM_row (ρ:=(· +1)) (by omega)
   rw [mq q' h0]; exact hfr q' (.inr h1)
 . rw [mq (i+1) (by omega)]; exact hrows i hi
set_option maxHeartbeats 4000000 in
theorem rgram {h:Nat->HC} {k:Nat} {xs:List V} {L:List (List Int)} {w:Nat} (hL:IsL k xs L) (hw:∀ i,i<xs.length->(L.getD i []).length=w) (hw2:w<=2^20) (hk:k<=2^20) (hn:xs.length<=2^19)
 (hfree:∀ q,q<=xs.length->(h (q+1000)).o=none):
 FrM Tryz.prog f_ref14_gram h (fpM 0 xs.length (· +1)) [.p (.sl none xs)] (λg svs=>∃ (G:Nat) (γ:Nat->Nat),Mat g 0 G xs.length xs.length (· +1) γ (gm L)/\svs=[.own 1000 G 0 xs.length]):=by
 refine frM_at Tryz.func101 ok_ref14_gram (by simp) (by simp) fpM_big λh2 hh=>?_;have hf2:∀ q,q<=xs.length->(h2 (q+1000)).o=none:=λq hq=>by
  rw [hh _ (by
   by_cases e:q=0
   . subst e; exact fpM_top
   . obtain ⟨q',rfl⟩:∃ q',q=q'+1:=⟨q-1,by omega⟩;exact fpM_row (ρ:=(· +1)) (by omega))]
  exact hfree q hq
 unfold sc_ref14_gram;refine Wr ?_; simp;refine WS_seq (WS_reg [3] ?_); simp;refine WS_rows 3 (T:=22) (xs:=[]) (by simp) ?_;refine Ws ?_; simp;refine WS_block ?_;refine WS_loop (RgO ⟨argSlotG [.p (.sl none xs)],maskH h2⟩ h2 xs.length L) (λS=>xs.length-nM 4 S) ⟨0,by omega,⟨1,by simp,by simp [rowsS],λa ha=>by omega,λq _=>by simp⟩,by simp,by simp⟩ ?_;rintro S1 ⟨i,hi,HR,s4,s0⟩;have d4:=nM_eq s4;have v0:S1.σ 0= .p (.sl none xs):=s0.trans (by simp [argSlotG]);by_cases hlt:i<xs.length
 . have hltI:(i:Int)<(xs.length:Int):=by omega
   have wi:=i64_succ i (by omega);refine Ws ?_; simp [s4,v0,hlt,hltI];refine WS_cT (by simp [s4,v0,hlt,hltI]) ?_;refine WS_skip ?_; simp [s4,v0,hlt,hltI];refine WS_seq (WS_block (WS_seq (WS_reg [5] ?_))); simp [s4,v0,hlt,hltI];refine WS_seq ?_;refine gram_row (g:=(S1.h 5).g+1) hL hw hw2 hk (by omega) hlt (by simp [v0]) (by simp [s4]) (by simp) (by simp) ?_;rintro S2 g' h5 t5 hoth t0 t3 t4;obtain ⟨G,r3,rh3,hrows,hfr⟩:=HR;have k3:S2.h 3=⟨G,some (.rows 22 (rowsS i xs.length (· +1) λq=>(h2 (q+1000)).g+1))⟩:=(hoth 3 (by decide)).trans (by simp [rh3]);have kq:∀ q,S2.h (q+1000)=S1.h (q+1000):=λq=>(hoth _ (by omega)).trans (by simp);have kn:S2.h (i+1+1000)=h2 (i+1+1000):=(kq _).trans (hfr _ (.inr (by omega)));show WS Tryz.prog 36 _ _ S2;refine WS_move 5 (i+1+1000) (by rw [h5]) (by rw [kn]; exact hf2 _ (by omega)) (by decide) (by omega) (by simp [HObj.refs]) ?_;have m3:(S2.move 5 (i+1+1000)).σ 3= .own 3 G 0 i:=by simp [St.move,t3,r3,ren2,ren1,ren0]
   have m5:(S2.move 5 (i+1+1000)).σ 5= .own (i+1+1000) ((h2 (i+1+1000)).g+1) 0 xs.length:=by simp [St.move,t5,ren2,ren1,ren0,h5,kn]
   have m4:(S2.move 5 (i+1+1000)).σ 4= .p (.i .i64 (i:Int)):=by simp [St.move,t4,s4,ren2,ren1,ren0]
   have m0:(S2.move 5 (i+1+1000)).σ 0= .p (.sl none xs):=by simp [St.move,t0,v0,ren2,ren1,ren0]
   have mh3:(S2.move 5 (i+1+1000)).h 3=⟨G,some (.rows 22 (rowsS i xs.length (· +1) λq=>(h2 (q+1000)).g+1))⟩:=by simp [St.move,k3,HObj.ren,rowsS_ren]
   have mhn:(S2.move 5 (i+1+1000)).h (i+1+1000)=⟨(h2 (i+1+1000)).g+1,some (.arr 28 (some 2) (rowZ xs.length (gm L i)))⟩:=by simp [St.move,h5,kn]
   have mhq:∀ q,q≠i+1->(S2.move 5 (i+1+1000)).h (q+1000)=S1.h (q+1000):=λq hq=>by
    have h1:¬ q+1000=5:=by omega
    have h2:¬ q+1000<1000:=by omega
    simp [St.move,hq,h1,h2,kq]
   obtain ⟨S3,hS3⟩:∃ S3,S3=S2.move 5 (i+1+1000):=⟨_,rfl⟩;rw [<- hS3] at m3 m5 m4 m0 mh3 mhn ⊢;simp only [<- hS3] at mhq;have hb1:(i+1)*24<=140737488355328:=by omega
   have hb2:i<=140737488355327:=by omega
   have htk:(rowsS i xs.length (· +1) λq=>(h2 (q+1000)).g+1).take i=rowsS i xs.length (· +1) λq=>(h2 (q+1000)).g+1:=List.take_of_length_le (by simp);refine WS_reg [] ?_; simp [m3,m5,mh3,htk,hb1,hb2];refine WS_reg [] ?_; simp [m4,wi];refine ⟨⟨i+1,by omega,⟨G+1,by simp [Nat.add_assoc],by simp; exact rowsS_snoc,λa ha=>?_,λq hq=>?_⟩,by simp,by simp [m0,argSlotG]⟩,?_⟩
   . by_cases ha2:a=i
     . subst ha2;simp only [upd_apply];rw [if_neg (by omega),if_neg (by omega),mhn]
     . simp only [upd_apply];rw [if_neg (by omega),if_neg (by omega),mhq _ (by omega)];exact hrows a (by omega)
   . simp only [upd_apply];rw [if_neg (by omega),if_neg (by omega),mhq _ (by omega)];exact hfr q (by omega)
   . rw [d4,nM_eq (i:=4) (n:=i+1) (by simp)]; omega
 . obtain rfl:i=xs.length:=by omega
   have hltI:¬ ((xs.length:Nat):Int)<(xs.length:Int):=by omega
   refine Ws ?_; simp [s4,v0,hltI];refine WS_cF (by simp [s4,v0,hltI]) ?_;refine WS_exit ?_; simp [s4,v0,hltI];refine gram_end (S1:=S1) (L:=L) hf2 HR ?_ ?_ ?_
   . simp
   . rfl
   . exact λg G γ H=>⟨G,⟨γ,H⟩,rfl⟩
def okRow (L:List (List Int)) (i:Nat):Prop:=(L.getD i []).length<=64/\(L.getD i []).length=(L.getD 0 []).length
def okL (L:List (List Int)):Prop:=L.length<=64/\∀ i,i<L.length->okRow L i
theorem gm_lim {k:Nat} {xs:List V} {L:List (List Int)} (hL:IsL k xs L) (ho:okL L) {i j:Nat} (hi:i<L.length) (hj:j<L.length):zlen (gm L i j)<=2*k+64:=by
 obtain ⟨vs,_,pv⟩:=hL.row i (by rw [hL.len]; exact hi);obtain ⟨ws,_,pw⟩:=hL.row j (by rw [hL.len]; exact hj);have:=dtZ_len pv.pl pw.pl (L.getD i []).length;have:=(ho.2 i hi).1;show zlen (dtZ _ _ _)<=_;omega
def gmT (L:List (List Int)) (i j:Nat):Int:=if i<L.length/\j<L.length then gm L i j else 0
theorem gmT_abs {k:Nat} {xs:List V} {L:List (List Int)} (hL:IsL k xs L) (ho:okL L) (i j:Nat):(gmT L i j).natAbs<=18446744073709551616^(2*k+64):=by
 unfold gmT;split
 . next h=>exact Nat.le_of_lt (lt_zlen' (gm_lim hL ho h.1 h.2))
 . simp
theorem detT {L:List (List Int)}:detZ L.length (gmT L)=detZ L.length (gm L):=by
 have:((detZ L.length (gmT L):Int):Rat)=((detZ L.length (gm L):Int):Rat):=by
  rw [<- det_cast,<-det_cast];exact det_congr λr c hr hc=>by unfold gmT; rw [if_pos ⟨hr,hc⟩]
 exact_mod_cast this
theorem det_lim2 {n j:Nat} (hn:n<=64) {k:Nat} (hk:k<=n) {z:Int} (hz:z.natAbs<=dB (18446744073709551616^j) k):zlen z<=n*(j+1)+1:=by
 refine zlen_lt (Nat.lt_of_le_of_lt (Nat.le_trans hz (dB_le (B:=64) (by omega))) ?_);have h1:(64*18446744073709551616^j)^k<=(18446744073709551616^(j+1))^k:=Nat.pow_le_pow_left (by rw [Nat.pow_succ,Nat.mul_comm]; exact Nat.mul_le_mul_left _ (by omega)) k;rw [<- Nat.pow_mul] at h1;have h2:(18446744073709551616:Nat)^((j+1)*k)<18446744073709551616^(n*(j+1)+1):=Nat.pow_lt_pow_right (by omega) (by
  have:(j+1)*k<=n*(j+1):=by rw [Nat.mul_comm]; exact Nat.mul_le_mul_right _ hk
  omega)
 omega
theorem det_small {n k:Nat} (hn:n<=64) (hk:k<=2^12):n*(2*k+64+1)+1<=2^20:=by
 have h:=Nat.mul_le_mul (Nat.le_trans hn (show 64<=64 by omega)) (show 2*k+64+1<=8257 by omega);omega
theorem gdet_lim {k:Nat} {xs:List V} {L:List (List Int)} (hL:IsL k xs L) (ho:okL L) (hk:k<=2^12):zlen (detZ L.length (gm L))<=2^20:=by
 rw [<- detT];exact Nat.le_trans (det_lim2 ho.1 (Nat.le_refl _) (detZ_abs (gmT_abs hL ho))) (det_small ho.1 hk)
set_option maxHeartbeats 4000000 in
theorem rgdet {h:Nat->HC} {k G:Nat} {γ:Nat->Nat} {xs:List V} {L:List (List Int)} (hL:IsL k xs L) (ho:okL L) (hk:k<=2^12) (H:Mat h 0 G xs.length xs.length (· +1) γ (gm L)):
 FrM Tryz.prog f_ref11_Det h (fpM 0 xs.length (· +1)) [.own (0+1000) G 0 xs.length] (λ_ svs=>svs=[.p (Z (detZ L.length (gm L)))]):=by
 have hl:=hL.len;have h1:=rdet (C:=18446744073709551616^(2*k+64)) (K:=2^20) (M0:=gmT L) (H.eqM λi j hi hj=>by unfold gmT; rw [if_pos ⟨by omega,by omega⟩]) (by have:=ho.1; omega) (gmT_abs hL ho)
  (λt ht z hz=>Nat.le_trans (det_lim2 (n:=xs.length) (by have:=ho.1; omega) ht hz) (det_small (by have:=ho.1; omega) hk)) (by omega)
 rw [hl,detT] at h1;rw [hl];exact h1
def BaS (xs:List V) (L:List (List Int)) (S:St):Prop:=∃ i:Nat,i<=xs.length/\S.σ 3= .p (.i .i64 (i:Int))/\S.σ 0= .p (.sl none xs)/\(∀ q,S.h q=⟨0,none⟩)/\∀ j,j<i->okRow L j
set_option maxHeartbeats 4000000 in
theorem rbasis_at {k:Nat} {xs:List V} {L:List (List Int)} (hL:IsL k xs L) (hk:k<=2^12) (hn:xs.length<=2^40) (hw:∀ i,i<xs.length->(L.getD i []).length<=2^40) (r:Bool) (hr:r=true↔okL L/\detZ L.length (gm L)≠0):
 Spec Tryz.prog f_ref14_Basis [.sl none xs] (· =[.pure (.b r)]):=by
 have hlen:=hL.len;have hbad:∀ i,i<xs.length->¬ okRow L i->r=false:=λi hi hno=>by
  cases r with
  | false=>rfl
  | true=>exact absurd ((hr.1 rfl).1.2 i (by omega)) hno
 refine spec_at Tryz.func45 ok_ref14_Basis [] rfl (by simp) ?_;unfold sc_ref14_Basis;by_cases h64:xs.length<=64
 . have c1:¬ (64:Int)<(xs.length:Int):=by omega
   have c2:¬ 64<xs.length:=by omega
   refine Wr ?_; simp [c1,c2];refine Ws ?_; simp [c1,c2];refine WS_cF (by simp [c1,c2]) ?_;refine WS_skip ?_; simp [c1,c2];refine Ws ?_; simp [c1,c2];refine WS_block ?_;refine WS_loop (BaS xs L) (λS=>xs.length-nM 3 S) ⟨0,by omega,by simp,by simp [argSlot],λq=>by simp [S0],λj hj=>by omega⟩ ?_;rintro S ⟨i,hi,s3,s0,hh,hok⟩;have d3:=nM_eq s3;by_cases hlt:i<xs.length
   . have hltI:(i:Int)<(xs.length:Int):=by omega
     have h0:0<xs.length:=by omega
     have h0I:(0:Int)<(xs.length:Int):=by omega
     have wi:=i64_succ i (by omega);obtain ⟨vs,hvs,pv⟩:=hL.row i hlt;obtain ⟨ws,hws,pw⟩:=hL.row 0 h0;have lv:=pv.len;have lw:=pw.len;by_cases ha:64<(L.getD i []).length
     . have a1:64<vs.length:=by omega
       have a2:(64:Int)<(vs.length:Int):=by omega
       have hb:=hbad i hlt (λh=>by have:=h.1; omega);refine Ws ?_; simp [s3,s0,hlt,hltI,hvs,hws,h0,h0I,a1,a2,hb];refine WS_cT (by simp [s3,s0,hlt,hltI,hvs,hws,h0,h0I,a1,a2,hb]) ?_;refine WS_skip ?_; simp [s3,s0,hlt,hltI,hvs,hws,h0,h0I,a1,a2,hb];refine WS_seq (WS_block (WS_seq (WS_regD [] ?_))); simp [s3,s0,hlt,hltI,hvs,hws,h0,h0I,a1,a2,hb];refine ⟨rfl,?_⟩;refine WS_cT (by simp [s3,s0,hlt,hltI,hvs,hws,h0,h0I,a1,a2,hb]) ?_;refine Wr ?_; simp [s3,s0,hlt,hltI,hvs,hws,h0,h0I,a1,a2,hb];refine WS_ret ?_; simp [s3,s0,hlt,hltI,hvs,hws,h0,h0I,a1,a2,hb]
     . have a1:¬ 64<vs.length:=by omega
       have a2:¬ (64:Int)<(vs.length:Int):=by omega
       by_cases hb:(L.getD i []).length=(L.getD 0 []).length
       . have b1:vs.length=ws.length:=by omega
         have b2:(vs.length:Int)=(ws.length:Int):=by omega
         rw [b1] at a1 a2;refine Ws ?_; simp [s3,s0,hlt,hltI,hvs,hws,h0,h0I,a1,a2,b1,wi];refine WS_cT (by simp [s3,s0,hlt,hltI,hvs,hws,h0,h0I,a1,a2,b1,wi]) ?_;refine WS_skip ?_; simp [s3,s0,hlt,hltI,hvs,hws,h0,h0I,a1,a2,b1,wi];refine WS_seq (WS_block (WS_seq (WS_regD [] ?_))); simp [s3,s0,hlt,hltI,hvs,hws,h0,h0I,a1,a2,b1,wi];refine ⟨rfl,?_⟩;refine WS_cF (by simp [s3,s0,hlt,hltI,hvs,hws,h0,h0I,a1,a2,b1,wi]) ?_;refine WS_skip ?_; simp [s3,s0,hlt,hltI,hvs,hws,h0,h0I,a1,a2,b1,wi];refine WS_reg [] ?_; simp [s3,s0,hlt,hltI,hvs,hws,h0,h0I,a1,a2,b1,wi];refine ⟨⟨i+1,by omega,by simp,by simp [s0],λq=>by simp [hh q],λj hj=>?_⟩,?_⟩
         . by_cases e:j=i
           . subst e; exact ⟨by omega,hb⟩
           . exact hok j (by omega)
         . rw [d3,nM_eq (i:=3) (n:=i+1) (by simp)]; omega
       . have b1:¬ vs.length=ws.length:=by omega
         have b2:¬ (vs.length:Int)=(ws.length:Int):=by omega
         have hb':=hbad i hlt (λh=>hb h.2);refine Ws ?_; simp [s3,s0,hlt,hltI,hvs,hws,h0,h0I,a1,a2,b1,b2,hb'];refine WS_cT (by simp [s3,s0,hlt,hltI,hvs,hws,h0,h0I,a1,a2,b1,b2,hb']) ?_;refine WS_skip ?_; simp [s3,s0,hlt,hltI,hvs,hws,h0,h0I,a1,a2,b1,b2,hb'];refine WS_seq (WS_block (WS_seq (WS_regD [] ?_))); simp [s3,s0,hlt,hltI,hvs,hws,h0,h0I,a1,a2,b1,b2,hb'];refine ⟨rfl,?_⟩;refine WS_cT (by simp [s3,s0,hlt,hltI,hvs,hws,h0,h0I,a1,a2,b1,b2,hb']) ?_;refine Wr ?_; simp [s3,s0,hlt,hltI,hvs,hws,h0,h0I,a1,a2,b1,b2,hb'];refine WS_ret ?_; simp [s3,s0,hlt,hltI,hvs,hws,h0,h0I,a1,a2,b1,b2,hb']
   . obtain rfl:i=xs.length:=by omega
     have hltI:¬ ((xs.length:Nat):Int)<(xs.length:Int):=by omega
     refine Ws ?_; simp [s3,s0,hltI];refine WS_cF (by simp [s3,s0,hltI]) ?_;refine WS_exit ?_; simp [s3,s0,hltI];have ho:okL L:=⟨by omega,λi hi=>hok i (by omega)⟩;have hl0:∀ i,i<xs.length->(L.getD i []).length=(L.getD 0 []).length:=λi hi=>(hok i hi).2;have hl1:(L.getD 0 []).length<=2^20:=by
      by_cases h0:0<xs.length
      . have:=(hok 0 h0).1; omega
      . have:L=[]:=List.length_eq_zero_iff.1 (by omega);subst this; simp
     have hg:=λ(h:Nat->HC) (hf:∀ q,q<=xs.length->(h (q+1000)).o=none)=>rgram hL hl0 hl1 (by omega) (by omega) hf;have hd:=λ(h:Nat->HC) (G:Nat) (γ:Nat->Nat) (H:Mat h 0 G xs.length xs.length (· +1) γ (gm L))=>rgdet hL ho hk H;obtain ⟨D,hD⟩:∃ D,D=detZ L.length (gm L):=⟨_,rfl⟩;have lim:=gdet_lim hL ho hk;simp only [<- hD] at hd lim hr;have sg:=rsign (isZ_of lim) (by omega);have hs:(D.sign != 0)=r:=by
      cases r with
      | true=>simpa [Int.sign_eq_zero_iff_zero] using (hr.1 rfl).2
      | false=>
       have:¬ D≠0:=λh=>by have:=hr.2 ⟨ho,h⟩; simp at this
       simp at this; subst this; rfl
     refine Wr ?_; simp [s0];refine callX ?_;refine mcall _ (hg _ (λq _=>by simp [hh])) (by simp) ?_;rintro H g svs hHn hHf ⟨G,γ,HMg,rfl⟩;have HM:=HMg.of_fp hHf;have htop:=HM.top;simp [htop];refine mcall _ (hd _ G γ HM) (by simp [fpM]) ?_;rintro H2 g2 svs2 hHn2 _ rfl;simp;rw [Z_eq] at sg;refine callP sg rfl ?_;simp [hs];refine WS_ret ?_; simp [hs]
 . have c1:(64:Int)<(xs.length:Int):=by omega
   have c2:64<xs.length:=by omega
   have hb:r=false:=by
    cases r with
    | false=>rfl
    | true=>exact absurd (hr.1 rfl).1.1 (by omega)
   refine Wr ?_; simp [c1,c2,hb];refine Ws ?_; simp [c1,c2,hb];refine WS_cT (by simp [c1,c2,hb]) ?_;refine Wr ?_; simp [c1,c2,hb];refine WS_ret ?_; simp [c1,c2,hb]
set_option maxHeartbeats 4000000 in
theorem lexact {k:Nat} {v w:V} {x y q:Int} (hv:IsZ k v x) (hw:IsZ k w y) (hk:k<=2^35) (hy:y≠0) (hq:x=q*y):Spec Tryz.prog f_lattice_exact [v,w] (· =[.pure (Z q)]):=by
 have ex:=zexact hv hw hk;have e:exactR x y=[.pure (Z q),.pure (.i .i64 0)]:=by
  unfold exactR;rw [if_neg hy,if_pos (by rw [hq]; exact Int.mul_emod_left q y),hq,Int.mul_ediv_cancel _ hy]
 rw [e] at ex;obtain ⟨n1,l1,rfl,h1,rfl⟩:=hv;obtain ⟨n2,l2,rfl,h2,rfl⟩:=hw;refine spec_at Tryz.func151 ok_lattice_exact [] rfl (by simp) ?_;unfold sc_lattice_exact;refine Wr ?_; simp;refine Wr ?_; simp;refine callP ex rfl ?_;simp;refine Wr ?_; simp;refine WS_ret ?_; simp
set_option maxHeartbeats 4000000 in
theorem lcross {k:Nat} {va vb vc vd ve:V} {a b c d e q:Int} (ha:IsZ k va a) (hb:IsZ k vb b) (hc:IsZ k vc c) (hd:IsZ k vd d) (he:IsZ k ve e) (hk:k<=2^25) (he0:e≠0) (hq:a*b-c*d=q*e):
 Spec Tryz.prog f_lattice_cross [va,vb,vc,vd,ve] (· =[.pure (Z q)]):=by
 have m1:=zmul ha hb (by omega);have m2:=zmul hc hd (by omega);have l1:=zlen_mul a b;have l2:=zlen_mul c d;have ka:=ha.zlen;have kb:=hb.zlen;have kc:=hc.zlen;have kd:=hd.zlen;have sb:=zsub (isZ_of (x:=a*b) (k:=2^27) (by omega)) (isZ_of (x:=c*d) (k:=2^27) (by omega)) (by omega);have l3:=zlen_sub (a*b) (c*d);have ex:=lexact (isZ_of (x:=a*b-c*d) (k:=2^28) (by omega)) (he.mono (show k<=2^28 by omega)) (by omega) he0 hq;obtain ⟨n1,l1,rfl,h1,rfl⟩:=ha;obtain ⟨n2,l2,rfl,h2,rfl⟩:=hb;obtain ⟨n3,l3,rfl,h3,rfl⟩:=hc;obtain ⟨n4,l4,rfl,h4,rfl⟩:=hd;obtain ⟨n5,l5,rfl,h5,rfl⟩:=he;refine spec_at Tryz.func150 ok_lattice_cross [] rfl (by simp) ?_;unfold sc_lattice_cross;refine Wr ?_; simp;refine WS_seq (WS_regD [] ?_); simp;refine callD m1 rfl ?_; simp;refine callD m2 rfl ?_; simp;refine callD sb rfl ?_; simp;refine callD ex rfl ?_; simp;refine ⟨by kernel_rfl,?_⟩;refine WS_ret ?_; simp
def gW (L:List (List Int)) (w i j:Nat):Int:=if i<L.length/\j<L.length then dtZ (L.getD i []) (L.getD j []) w else 0
theorem gW_symm (L:List (List Int)) (w i j:Nat):gW L w i j=gW L w j i:=by
 unfold gW;by_cases h:i<L.length/\j<L.length
 . rw [if_pos h,if_pos ⟨h.2,h.1⟩,dtZ_comm]
 . rw [if_neg h,if_neg λe=>h ⟨e.2,e.1⟩]
theorem gW_abs {k w:Nat} {xs:List V} {L:List (List Int)} (hL:IsL k xs L) (hw:w<=64) (i j:Nat):(gW L w i j).natAbs<=18446744073709551616^(2*k+64):=by
 unfold gW;split
 . next h=>
   obtain ⟨vs,_,pv⟩:=hL.row i (by rw [hL.len]; exact h.1);obtain ⟨ws,_,pw⟩:=hL.row j (by rw [hL.len]; exact h.2);have:=dtZ_len pv.pl pw.pl w;exact Nat.le_of_lt (lt_zlen' (k:=2*k+64) (by omega))
 . simp
theorem br_lim {k w n:Nat} {xs:List V} {L:List (List Int)} (hL:IsL k xs L) (hw:w<=64) (hk:k<=2^12) (hn:n<=64) {t i j:Nat} (hnz:∀ s,s<t->brM (gW L w) s s s≠0) (hti:t<=i) (hi:i<n) (htj:t<=j) (hj:j<n):zlen (brM (gW L w) t i j)<=2^20:=
 Nat.le_trans (det_lim2 hn (k:=t+1) (by omega) (brI_abs (brM_inv (n:=n) (by omega) hnz) (gW_abs hL hw) hti hi htj hj)) (det_small hn hk)
theorem bd_lim {k w n:Nat} {xs:List V} {L:List (List Int)} (hL:IsL k xs L) (hw:w<=64) (hk:k<=2^12) (hn:n<=64) {t:Nat} (hnz:∀ s,s<t->brM (gW L w) s s s≠0) (ht:t<=n):zlen (brD (gW L w) t)<=2^20:=
 Nat.le_trans (det_lim2 hn (k:=t) ht (brI_last (brM_inv (n:=n) ht hnz) (gW_abs hL hw)).1) (det_small hn hk)
theorem br_step {n:Nat} {G:Nat->Nat->Int} (hG:∀ i j,G i j=G j i) {t i j:Nat} (hnz:∀ s,s<t+1->brM G s s s≠0) (hti:t<i) (hi:i<n) (htj:t<j) (hj:j<n):
 brD G (t+1)*brM G t i j-brM G t i t*brM G t j t=brM G (t+1) i j*brD G t/\brD G t≠0:=by
 have H:=brM_inv (n:=n) (G:=G) (k:=t) (by omega) λs hs=>hnz s (by omega);obtain ⟨h1,_⟩:=brI_step H (by omega) (hnz t (by omega));obtain ⟨z,hz⟩:=h1 i j hti hi htj hj;refine ⟨?_,brI_pos H⟩;rw [brM_symm hG t j t];show brM G t t t*brM G t i j-_=_;rw [brM_succ,<-hz,Int.mul_ediv_cancel _ (brI_pos H)]
def lamP (G:Nat->Nat->Int) (i j t:Nat):Int:=if t<j then brM G t i t else 0
def rowsT (n:Nat) (γ:Nat->Nat):List SV:=(List.range n).map λi=>.own (i+20+1000) (γ i) 0 (i+1)
theorem rowsT_length (n:Nat) (γ:Nat->Nat):(rowsT n γ).length=n:=by simp [rowsT]
theorem rowsT_at {n:Nat} {γ:Nat->Nat} {i:Nat} (h:i<(rowsT n γ).length):(rowsT n γ)[i]= .own (i+20+1000) (γ i) 0 (i+1):=by simp [rowsT]
attribute [local simp] rowsT_length rowsT_at
def StN (G:Nat->Nat->Int) (Gd Gm i:Nat) (γ:Nat->Nat) (h:Nat->HC):Prop:=
 h 4=⟨1,some (.sbox 98 [.own 1000 Gd 0 (i+1),.own 1001 Gm 0 i])⟩/\h 1000=⟨Gd,some (.arr 28 (some 2) (rowZ (i+1) (brD G)))⟩/\h 1001=⟨Gm,some (.rows 22 (rowsT i γ))⟩/\
  ∀ a,a<i->h (a+20+1000)=⟨γ a,some (.arr 28 (some 2) (rowZ (a+1) λt=>brM G t a t))⟩
def SiI (S:St) (G:Nat->Nat->Int) (g9 i j:Nat) (S':St):Prop:=
 ∃ k,k<=j/\S'.h 9=⟨g9,some (.box 28 [.b (zn (brM G k i j)),.sl none (uL (zl (brM G k i j)))])⟩/\(∀ q,q≠9->S'.h q=S.h q)/\S'.σ 54= .p (.i .i64 (k:Int))/\∀ t,t<=9\/(12<=t/\t<=53)->S'.σ t=S.σ t
set_option maxHeartbeats 4000000 in
theorem strip_in {Q:Exit->St->Prop} {S:St} {L:List (List Int)} {xs:List V} {k0 w Gd Gm g7 g9 i j:Nat} {γ:Nat->Nat} (hL:IsL k0 xs L) (hw:w<=64) (hk:k0<=2^12) (hi:i<64) (hji:j<=i)
 (hnz:∀ s,s<i->brM (gW L w) s s s≠0) (H:StN (gW L w) Gd Gm i γ S.h)
 (s4:S.σ 4= .ptr 4 1 0) (s5:S.σ 5= .p (.i .i64 (i:Int))) (s7:S.σ 7= .own 41 g7 0 (i+1)) (s8:S.σ 8= .p (.i .i64 (j:Int))) (s9:S.σ 9= .ptr 9 g9 0)
 (h7:S.h 41=⟨g7,some (.arr 28 (some 2) (rowZ (i+1) (lamP (gW L w) i j)))⟩) (h9:S.h 9=⟨g9,some (.box 28 [.b (zn (gW L w i j)),.sl none (uL (zl (gW L w i j)))])⟩)
 (hQ:∀ S',S'.h 9=⟨g9,some (.box 28 [.b (zn (brM (gW L w) j i j)),.sl none (uL (zl (brM (gW L w) j i j)))])⟩->(∀ q,q≠9->S'.h q=S.h q)->(∀ t,t<=9\/(12<=t/\t<=52)->S'.σ t=S.σ t)->Q .normal S'):
 WS Tryz.prog 117 sc_lattice_stripped.snd.snd.snd.fst.snd.fst.fst.snd.snd.fst.fst.snd.snd.snd.fst.snd.fst.fst.snd.snd.fst.fst.snd.snd.fst Q S:=by
 obtain ⟨G,hG⟩:∃ G,G=gW L w:=⟨_,rfl⟩;have hsym:∀ a b,G a b=G b a:=by rw [hG]; exact gW_symm L w
 have lim:=λ(t a b:Nat) (hnz':∀ s,s<t->brM (gW L w) s s s≠0) (h1:t<=a) (h2:a<64) (h3:t<=b) (h4:b<64)=>br_lim (n:=64) hL hw hk (Nat.le_refl _) hnz' h1 h2 h3 h4;have limd:=λ(t:Nat) (hnz':∀ s,s<t->brM (gW L w) s s s≠0) (h1:t<=64)=>bd_lim (n:=64) hL hw hk (Nat.le_refl _) hnz' h1;simp only [<- hG] at hnz H h7 h9 hQ lim limd;obtain ⟨h4,hd,hm,hrow⟩:=H;unfold sc_lattice_stripped;simp only [SC.snd,SC.fst];refine Wr ?_; simp [s8];refine WS_block ?_;refine WS_loop (SiI (S.put (some 53) (.p (.i .i64 (j:Int)))) G g9 i j) (λS=>j-nM 54 S) ⟨0,by omega,h9,λ_ _=>rfl,by simp,λt ht=>?_⟩ ?_
 . simp only [St.put,upd_apply];repeat rw [if_neg (by omega)]
 rintro S1 ⟨k,hkj,k9,hoth,t54,hs⟩;have dK:=nM_eq t54;have v4:=(hs 4 (by omega)).trans (show _=SV.ptr 4 1 0 by simp [St.put,s4]);have v5:=(hs 5 (by omega)).trans (show _=SV.p (.i .i64 (i:Int)) by simp [St.put,s5]);have v7:=(hs 7 (by omega)).trans (show _=SV.own 41 g7 0 (i+1) by simp [St.put,s7]);have v8:=(hs 8 (by omega)).trans (show _=SV.p (.i .i64 (j:Int)) by simp [St.put,s8]);have v9:=(hs 9 (by omega)).trans (show _=SV.ptr 9 g9 0 by simp [St.put,s9]);have v53:=(hs 53 (by omega)).trans (show _=SV.p (.i .i64 (j:Int)) by simp [St.put]);have k4:=(hoth 4 (by omega)).trans (show _=_ from h4);have k7:=(hoth 41 (by omega)).trans (show _=_ from h7);have kd:=(hoth 1000 (by omega)).trans (show _=_ from hd);have km:=(hoth 1001 (by omega)).trans (show _=_ from hm);by_cases hlt:k<j
 . have hltI:(k:Int)<(j:Int):=by omega
   have wk:=i64_succ k (by omega);have hki:k<i:=by omega
   have hkiI:(k:Int)<(i:Int):=by omega
   have hki1:k<i+1:=by omega
   have hki1I:(k:Int)<(i:Int)+1:=by omega
   have hk1:k+1<i+1:=by omega
   have hk1I:((k+1:Nat):Int)<(i:Int)+1:=by omega
   have hk2I:(k:Int)+1<(i:Int)+1:=by omega
   have hk0I:(0:Int)<=(k:Int)+1:=by omega
   have hkj1:k<j+1:=by omega
   have hkj1I:(k:Int)<(j:Int)+1:=by omega
   obtain ⟨hstep,hd0⟩:=br_step (n:=64) (G:=G) hsym (t:=k) (i:=i) (j:=j) (λs hs=>hnz s (by omega)) (by omega) (by omega) (by omega) (by omega);have cr:=lcross (isZ_of (x:=brD G (k+1)) (k:=2^20) (limd (k+1) (λs hs=>hnz s (by omega)) (by omega))) (isZ_of (x:=brM G k i j) (k:=2^20) (lim k i j (λs hs=>hnz s (by omega)) (by omega) (by omega) (by omega) (by omega)))
    (isZ_of (x:=brM G k i k) (k:=2^20) (lim k i k (λs hs=>hnz s (by omega)) (by omega) (by omega) (by omega) (by omega))) (isZ_of (x:=brM G k j k) (k:=2^20) (lim k j k (λs hs=>hnz s (by omega)) (by omega) (by omega) (by omega) (by omega)))
    (isZ_of (x:=brD G k) (k:=2^20) (limd k (λs hs=>hnz s (by omega)) (by omega))) (by omega) hd0 hstep
   have hlam:lamP G i j k=brM G k i k:=by unfold lamP; rw [if_pos hlt]
   obtain ⟨x,hx⟩:∃ x,x=brM G k i j:=⟨_,rfl⟩;obtain ⟨x1,hx1⟩:∃ x,x=brM G (k+1) i j:=⟨_,rfl⟩;obtain ⟨y,hy⟩:∃ x,x=brM G k i k:=⟨_,rfl⟩;obtain ⟨z,hz⟩:∃ x,x=brM G k j k:=⟨_,rfl⟩;obtain ⟨d0,hd0'⟩:∃ x,x=brD G k:=⟨_,rfl⟩;obtain ⟨d1,hd1⟩:∃ x,x=brD G (k+1):=⟨_,rfl⟩;rw [<- hx,<-hx1,<-hy,<-hz,<-hd0',<-hd1] at cr;rw [<- hx] at k9;rw [<- hy] at hlam;have done:∀ S2:St,S2.h 9=⟨g9,some (.box 28 [.b (zn x1),.sl none (uL (zl x1))])⟩->(∀ q,q≠9->S2.h q=S1.h q)->S2.σ 54= .p (.i .i64 ((k+1:Nat):Int))->(∀ t,t<=9\/(12<=t/\t<=53)->S2.σ t=S1.σ t)->SiI (S.put (some 53) (.p (.i .i64 (j:Int)))) G g9 i j S2/\j-nM 54 S2<j-nM 54 S1:=λS2 a b c d=>
    ⟨⟨k+1,by omega,by rw [a,hx1],λq hq=>(b q hq).trans (hoth q hq),c,λt ht=>(d t ht).trans (hs t ht)⟩,by rw [dK,nM_eq c]; omega⟩
   by_cases hjl:j<i
   . have hjlI:(j:Int)<(i:Int):=by omega
     have kj:=(hoth (j+20+1000) (by omega)).trans (show _=_ from hrow j hjl);refine Wr ?_; simp [t54,v53,hlt,hltI,v4,v5,v7,v8,v9,k4,k7,kd,km,k9,kj,hjl,hjlI,hki,hkiI,hki1,hki1I,hk1,hk1I,hk2I,hk0I,hkj1,hkj1I,wk,hlam,<-hx,<-hy,<-hz,<-hd0',<-hd1];refine WS_seq ?_;refine WS_cT (by simp [t54,v53,hlt,hltI,v4,v5,v7,v8,v9,k4,k7,kd,km,k9,kj,hjl,hjlI,hki,hkiI,hki1,hki1I,hk1,hk1I,hk2I,hk0I,hkj1,hkj1I,wk,hlam,<-hx,<-hy,<-hz,<-hd0',<-hd1]) ?_;refine WS_skip ?_; simp [t54,v53,hlt,hltI,v4,v5,v7,v8,v9,k4,k7,kd,km,k9,kj,hjl,hjlI,hki,hkiI,hki1,hki1I,hk1,hk1I,hk2I,hk0I,hkj1,hkj1I,wk,hlam,<-hx,<-hy,<-hz,<-hd0',<-hd1];refine WS_seq (WS_block (Wr ?_)); simp [t54,v53,hlt,hltI,v4,v5,v7,v8,v9,k4,k7,kd,km,k9,kj,hjl,hjlI,hki,hkiI,hki1,hki1I,hk1,hk1I,hk2I,hk0I,hkj1,hkj1I,wk,hlam,<-hx,<-hy,<-hz,<-hd0',<-hd1];refine Wr ?_; simp [t54,v53,hlt,hltI,v4,v5,v7,v8,v9,k4,k7,kd,km,k9,kj,hjl,hjlI,hki,hkiI,hki1,hki1I,hk1,hk1I,hk2I,hk0I,hkj1,hkj1I,wk,hlam,<-hx,<-hy,<-hz,<-hd0',<-hd1];refine Ws ?_; simp [t54,v53,hlt,hltI,v4,v5,v7,v8,v9,k4,k7,kd,km,k9,kj,hjl,hjlI,hki,hkiI,hki1,hki1I,hk1,hk1I,hk2I,hk0I,hkj1,hkj1I,wk,hlam,<-hx,<-hy,<-hz,<-hd0',<-hd1];refine WS_cT (by simp [t54,v53,hlt,hltI,v4,v5,v7,v8,v9,k4,k7,kd,km,k9,kj,hjl,hjlI,hki,hkiI,hki1,hki1I,hk1,hk1I,hk2I,hk0I,hkj1,hkj1I,wk,hlam,<-hx,<-hy,<-hz,<-hd0',<-hd1]) ?_;refine WS_reg [] ?_; simp [t54,v53,hlt,hltI,v4,v5,v7,v8,v9,k4,k7,kd,km,k9,kj,hjl,hjlI,hki,hkiI,hki1,hki1I,hk1,hk1I,hk2I,hk0I,hkj1,hkj1I,wk,hlam,<-hx,<-hy,<-hz,<-hd0',<-hd1];refine WS_regD [] ?_; simp [t54,v53,hlt,hltI,v4,v5,v7,v8,v9,k4,k7,kd,km,k9,kj,hjl,hjlI,hki,hkiI,hki1,hki1I,hk1,hk1I,hk2I,hk0I,hkj1,hkj1I,wk,hlam,<-hx,<-hy,<-hz,<-hd0',<-hd1];refine callD cr rfl ?_; simp [t54,v53,hlt,hltI,v4,v5,v7,v8,v9,k4,k7,kd,km,k9,kj,hjl,hjlI,hki,hkiI,hki1,hki1I,hk1,hk1I,hk2I,hk0I,hkj1,hkj1I,wk,hlam,<-hx,<-hy,<-hz,<-hd0',<-hd1];refine ⟨by kernel_rfl,?_⟩;refine WS_reg [] ?_; simp [t54,v53,hlt,hltI,v4,v5,v7,v8,v9,k4,k7,kd,km,k9,kj,hjl,hjlI,hki,hkiI,hki1,hki1I,hk1,hk1I,hk2I,hk0I,hkj1,hkj1I,wk,hlam,<-hx,<-hy,<-hz,<-hd0',<-hd1];refine done _ (by simp [k9]) (λq hq=>by simp [hq]) (by simp) λt ht=>?_;simp only [upd_apply];repeat rw [if_neg (by omega)]
   . obtain rfl:j=i:=by omega
     have hjl:¬ j<j:=by omega
     have hjlI:¬ (j:Int)<(j:Int):=by omega
     rw [<- hy] at hz;rw [hz] at cr;refine Wr ?_; simp [t54,v53,hlt,hltI,v4,v5,v7,v8,v9,k4,k7,kd,km,k9,hjl,hjlI,hki,hkiI,hki1,hki1I,hk1,hk1I,hk2I,hk0I,hkj1,hkj1I,wk,hlam,<-hx,<-hy,<-hd0',<-hd1];refine WS_seq ?_;refine WS_cT (by simp [t54,v53,hlt,hltI,v4,v5,v7,v8,v9,k4,k7,kd,km,k9,hjl,hjlI,hki,hkiI,hki1,hki1I,hk1,hk1I,hk2I,hk0I,hkj1,hkj1I,wk,hlam,<-hx,<-hy,<-hd0',<-hd1]) ?_;refine WS_skip ?_; simp [t54,v53,hlt,hltI,v4,v5,v7,v8,v9,k4,k7,kd,km,k9,hjl,hjlI,hki,hkiI,hki1,hki1I,hk1,hk1I,hk2I,hk0I,hkj1,hkj1I,wk,hlam,<-hx,<-hy,<-hd0',<-hd1];refine WS_seq (WS_block (Wr ?_)); simp [t54,v53,hlt,hltI,v4,v5,v7,v8,v9,k4,k7,kd,km,k9,hjl,hjlI,hki,hkiI,hki1,hki1I,hk1,hk1I,hk2I,hk0I,hkj1,hkj1I,wk,hlam,<-hx,<-hy,<-hd0',<-hd1];refine Wr ?_; simp [t54,v53,hlt,hltI,v4,v5,v7,v8,v9,k4,k7,kd,km,k9,hjl,hjlI,hki,hkiI,hki1,hki1I,hk1,hk1I,hk2I,hk0I,hkj1,hkj1I,wk,hlam,<-hx,<-hy,<-hd0',<-hd1];refine Ws ?_; simp [t54,v53,hlt,hltI,v4,v5,v7,v8,v9,k4,k7,kd,km,k9,hjl,hjlI,hki,hkiI,hki1,hki1I,hk1,hk1I,hk2I,hk0I,hkj1,hkj1I,wk,hlam,<-hx,<-hy,<-hd0',<-hd1];refine WS_cF (by simp [t54,v53,hlt,hltI,v4,v5,v7,v8,v9,k4,k7,kd,km,k9,hjl,hjlI,hki,hkiI,hki1,hki1I,hk1,hk1I,hk2I,hk0I,hkj1,hkj1I,wk,hlam,<-hx,<-hy,<-hd0',<-hd1]) ?_;refine WS_skip ?_; simp [t54,v53,hlt,hltI,v4,v5,v7,v8,v9,k4,k7,kd,km,k9,hjl,hjlI,hki,hkiI,hki1,hki1I,hk1,hk1I,hk2I,hk0I,hkj1,hkj1I,wk,hlam,<-hx,<-hy,<-hd0',<-hd1];refine WS_regD [] ?_; simp [t54,v53,hlt,hltI,v4,v5,v7,v8,v9,k4,k7,kd,km,k9,hjl,hjlI,hki,hkiI,hki1,hki1I,hk1,hk1I,hk2I,hk0I,hkj1,hkj1I,wk,hlam,<-hx,<-hy,<-hd0',<-hd1];refine callD cr rfl ?_; simp [t54,v53,hlt,hltI,v4,v5,v7,v8,v9,k4,k7,kd,km,k9,hjl,hjlI,hki,hkiI,hki1,hki1I,hk1,hk1I,hk2I,hk0I,hkj1,hkj1I,wk,hlam,<-hx,<-hy,<-hd0',<-hd1];refine ⟨by kernel_rfl,?_⟩;refine WS_reg [] ?_; simp [t54,v53,hlt,hltI,v4,v5,v7,v8,v9,k4,k7,kd,km,k9,hjl,hjlI,hki,hkiI,hki1,hki1I,hk1,hk1I,hk2I,hk0I,hkj1,hkj1I,wk,hlam,<-hx,<-hy,<-hd0',<-hd1];refine done _ (by simp [k9]) (λq hq=>by simp [hq]) (by simp) λt ht=>?_;simp only [upd_apply];repeat rw [if_neg (by omega)]
 . obtain rfl:k=j:=by omega
   have hltI:¬ (k:Int)<(k:Int):=by omega
   refine Wr ?_; simp [t54,v53,hltI];refine WS_seq ?_;refine WS_cF (by simp [t54,v53,hltI]) ?_;refine WS_exit ?_; simp [t54,v53,hltI];refine hQ _ k9 (λq hq=>(hoth q hq).trans rfl) λt ht=>?_;simp only [upd_apply];repeat rw [if_neg (by omega)]
   rw [hs t (by omega)];simp only [St.put,upd_apply];rw [if_neg (by omega)]
theorem lamP_set {G:Nat->Nat->Int} {i j:Nat} (n:Nat):rowZ n (λb=>if b=j then brM G j i j else lamP G i j b)=rowZ n (lamP G i (j+1)):=by
 refine rowZ_congr λb _=>?_;unfold lamP;by_cases h:b=j
 . subst h; rw [if_pos rfl,if_pos (by omega)]
 . rw [if_neg h];by_cases h2:b<j
   . rw [if_pos h2,if_pos (by omega)]
   . rw [if_neg h2,if_neg (by omega)]
def SmI (S:St) (G:Nat->Nat->Int) (g7 i:Nat) (S':St):Prop:=
 ∃ j,j<=i+1/\S'.h 41=⟨g7,some (.arr 28 (some 2) (rowZ (i+1) (lamP G i j)))⟩/\(∀ q,q≠41->q≠9->S'.h q=S.h q)/\S'.σ 44= .p (.i .i64 (j:Int))/\S'.σ 43= .p (.i .i64 ((i:Int)+1))/\∀ t,t<=7\/(12<=t/\t<=41)->S'.σ t=S.σ t
theorem StN.of {G:Nat->Nat->Int} {Gd Gm i:Nat} {γ:Nat->Nat} {h h':Nat->HC} (H:StN G Gd Gm i γ h) (he:∀ q,q≠41->q≠9->h' q=h q):StN G Gd Gm i γ h':=by
 obtain ⟨h1,h2,h3,h4⟩:=H;exact ⟨by rw [he _ (by omega) (by omega)]; exact h1,by rw [he _ (by omega) (by omega)]; exact h2,by rw [he _ (by omega) (by omega)]; exact h3,λa ha=>by rw [he _ (by omega) (by omega)]; exact h4 a ha⟩
set_option maxHeartbeats 4000000 in
theorem strip_mid {Q:Exit->St->Prop} {S:St} {L:List (List Int)} {xs vs:List V} {k0 w Gd Gm g7 i:Nat} {γ:Nat->Nat} (hL:IsL k0 xs L) (hw:w<=64) (hk:k0<=2^12) (hi:i<64) (hix:i<xs.length)
 (hvs:xs[i]= .sl (some 2) vs) (hwid:∀ a,a<=i->(L.getD a []).length=w)
 (hnz:∀ s,s<i->brM (gW L w) s s s≠0) (H:StN (gW L w) Gd Gm i γ S.h) (s0:S.σ 0= .p (.sl none xs)) (s6:S.σ 6= .p (.sl (some 2) vs))
 (s4:S.σ 4= .ptr 4 1 0) (s5:S.σ 5= .p (.i .i64 (i:Int))) (s7:S.σ 7= .own 41 g7 0 (i+1))
 (h7:S.h 41=⟨g7,some (.arr 28 (some 2) (rowZ (i+1) (λ_=>0)))⟩)
 (hQ:∀ S',S'.h 41=⟨g7,some (.arr 28 (some 2) (rowZ (i+1) (λt=>brM (gW L w) t i t)))⟩->(∀ q,q≠41->q≠9->S'.h q=S.h q)->(∀ t,t<=7\/(12<=t/\t<=41)->S'.σ t=S.σ t)->Q .normal S'):
 WS Tryz.prog 117 sc_lattice_stripped.snd.snd.snd.fst.snd.fst.fst.snd.snd.fst.fst.snd.snd.snd.fst Q S:=by
 obtain ⟨G,hG⟩:∃ G,G=gW L w:=⟨_,rfl⟩;have hll:=hL.len;unfold sc_lattice_stripped;simp only [SC.snd,SC.fst];refine Wr ?_; simp [s7,h7];refine WS_block ?_;refine WS_loop (SmI S (gW L w) g7 i) (λS=>i+1-nM 44 S) ⟨0,by omega,?_,λ_ _ _=>rfl,by simp,by simp,λt ht=>?_⟩ ?_
 . show S.h 41=_;rw [h7,rowZ_congr (g:=lamP (gW L w) i 0) λt _=>by unfold lamP; rw [if_neg (by omega)]]
 . simp only [upd_apply];repeat rw [if_neg (by omega)]
 rintro S1 ⟨j,hj,k7,hoth,t44,t43,hs⟩;have dK:=nM_eq t44;have v0:=(hs 0 (by omega)).trans s0;have v4:=(hs 4 (by omega)).trans s4;have v5:=(hs 5 (by omega)).trans s5;have v6:=(hs 6 (by omega)).trans s6;have v7:=(hs 7 (by omega)).trans s7;by_cases hlt:j<i+1
 . have hltI:(j:Int)<(i:Int)+1:=by omega
   have wj:=i64_succ j (by omega);have hjx:j<xs.length:=by omega
   have hjxI:(j:Int)<(xs.length:Int):=by omega
   obtain ⟨us,hus,pu⟩:=hL.row j hjx;obtain ⟨vs',hvs',pv⟩:=hL.row i hix;obtain rfl:vs'=vs:=by rw [hvs] at hvs'; injection hvs' with _ h; exact h.symm
   have lu:=pu.len;have lv:=pv.len;rw [hwid j (by omega)] at lu;rw [hwid i (by omega)] at lv;have dt:=ldot pv pu (by omega) (by omega) (by omega);rw [lv,show dtZ (L.getD i []) (L.getD j []) w=gW L w i j by unfold gW; rw [if_pos ⟨by omega,by omega⟩]] at dt;refine Wr ?_; simp [t44,t43,v0,v6,hlt,hltI,hjx,hjxI,hus];refine WS_seq ?_;refine WS_cT (by simp [t44,t43,v0,v6,hlt,hltI,hjx,hjxI,hus]) ?_;refine WS_skip ?_; simp [t44,t43,v0,v6,hlt,hltI,hjx,hjxI,hus];refine WS_seq (WS_block (Wr ?_)); simp [t44,t43,v0,v6,hlt,hltI,hjx,hjxI,hus];refine Wr ?_; simp [t44,t43,v0,v6,hlt,hltI,hjx,hjxI,hus];refine callP dt rfl ?_;simp [t44,t43,v0,v6,hlt,hltI,hjx,hjxI,hus];refine WS_seq ?_;refine strip_in (g7:=g7) (g9:=(S1.h 9).g+1) hL hw hk hi (show j<=i by omega) hnz (H.of λq h1 h2=>by simp [h2,hoth q h1 h2]) (by simp [v4]) (by simp [v5]) (by simp [v7]) (by simp) (by simp) (by simp [k7]) (by simp) ?_;intro S2 h9 hoth2 hs2;have p7:=(hs2 7 (by omega)).trans (show _=SV.own 41 g7 0 (i+1) by simp [v7]);have p8:=(hs2 8 (by omega)).trans (show _=SV.p (.i .i64 (j:Int)) by simp);have p9:=(hs2 9 (by omega)).trans (show _=SV.ptr 9 ((S1.h 9).g+1) 0 by simp);have p44:=(hs2 44 (by omega)).trans (show _=SV.p (.i .i64 (j:Int)) by simp [t44]);have p43:=(hs2 43 (by omega)).trans (show _=SV.p (.i .i64 ((i:Int)+1)) by simp [t43]);have q7:=(hoth2 41 (by omega)).trans (show _=_ by simp [k7]; rfl);have q':∀ q,q≠41->q≠9->S2.h q=S.h q:=λq h1 h2=>(hoth2 q h2).trans (by simp [h2,hoth q h1 h2]);have ps:∀ t,t<=7\/(12<=t/\t<=41)->S2.σ t=S.σ t:=λt ht=>(hs2 t (by omega)).trans (by
    simp only [upd_apply];repeat rw [if_neg (by omega)]
    exact hs t ht)
   have hset:=lamP_set (G:=gW L w) (i:=i) (j:=j) (i+1);rw [<- rowZ_set,Z_eq] at hset;show WS Tryz.prog 117 _ _ S2;obtain ⟨x,hx⟩:∃ x,x=brM (gW L w) j i j:=⟨_,rfl⟩;rw [<- hx] at hset h9;refine WS_reg [] ?_; simp [p7,p8,p9,h9,q7,hlt,hltI,hset];refine WS_reg [] ?_; simp [p44,wj];refine ⟨⟨j+1,by omega,by simp,λq h1 h2=>by simp [h1,q' q h1 h2],by simp,by simp [p43],λt ht=>?_⟩,?_⟩
   . simp only [upd_apply];repeat rw [if_neg (by omega)]
     exact ps t ht
   . rw [dK,nM_eq (i:=44) (n:=j+1) (by simp)]; omega
 . obtain rfl:j=i+1:=by omega
   have hltI:¬ (((i+1:Nat):Int)<(i:Int)+1):=by omega
   have hltI2:¬ ((i:Int)+1<(i:Int)+1):=by omega
   refine Wr ?_; simp [t44,t43,hltI,hltI2];refine WS_seq ?_;refine WS_cF (by simp [t44,t43,hltI,hltI2]) ?_;refine WS_exit ?_; simp [t44,t43,hltI,hltI2];refine hQ _ ?_ (λq h1 h2=>hoth q h1 h2) λt ht=>?_
   . show S1.h 41=_;rw [k7,rowZ_congr (g:=λt=>brM (gW L w) t i t) λt ht=>by unfold lamP; rw [if_pos ht]]
   . simp only [upd_apply];repeat rw [if_neg (by omega)]
     exact hs t ht
def fpS (n:Nat):List Nat:=(List.range (n+20)).map (· +1000)
theorem fpS_big {n:Nat}:∀ q∈fpS n,1000<=q:=by
 intro q hq;simp only [fpS,List.mem_map] at hq;obtain ⟨i,_,rfl⟩:=hq;omega
theorem fpS_mem {n q:Nat} (h:q<n+20):q+1000∈fpS n:=by
 simp only [fpS,List.mem_map,List.mem_range]; exact ⟨q,h,rfl⟩
theorem rowsT_snoc {n:Nat} {γ:Nat->Nat}:rowsT n γ++[.own (n+20+1000) (γ n) 0 (n+1)]=rowsT (n+1) γ:=by
 rw [rowsT,rowsT,List.range_succ,List.map_append]; rfl
theorem app_bnd (a b c:Nat) (h:a<=66) (hb:b<=32) (hc:2112<=c):a*b<=c:=by
 have:=Nat.mul_le_mul h hb; omega
theorem app_bnds {i:Nat} (hi:i<64):(i+1)*24<=140737488355328/\i<=140737488355327/\(i+1+1)*32<=140737488355328/\i<=140737488355326:=
 ⟨app_bnd _ _ _ (by omega) (by omega) (by omega),by omega,app_bnd _ _ _ (by omega) (by omega) (by omega),by omega⟩
attribute [local simp] fillS fillOkS nilZ St.evN SV.solid svPack
def StR (G:Nat->Nat->Int) (n:Nat) (r:Bool) (g:Nat->HC) (svs:List SV):Prop:=
 ∃ Gd Gm j,svs=[.agg [.own 1000 Gd 0 (j+1),.own 1001 Gm 0 j],.p (.b r)]/\
  (r=true->j=n/\g 1000=⟨Gd,some (.arr 28 (some 2) (rowZ (n+1) (brD G)))⟩/\∃ γ,g 1001=⟨Gm,some (.rows 22 (rowsT n γ))⟩/\(∀ q,2<=q->q<20->(g (q+1000)).o=none)/\∀ a,a<n->g (a+20+1000)=⟨γ a,some (.arr 28 (some 2) (rowZ (a+1) λt=>brM G t a t))⟩)
theorem WS_abs {P:Program} {n:Nat} {sc:SC} {Q:Exit->St->Prop} {S0:St} (F:St->Prop) (h:F S0) (k:∀ S,F S->WS P n sc Q S):WS P n sc Q S0:=k S0 h
def StO (h2:Nat->HC) (xs:List V) (L:List (List Int)) (w0:Nat) (S':St):Prop:=
 ∃ i,i<=xs.length/\(∃ Gd Gm,StN (gW L w0) Gd Gm i (λa=>(h2 (a+20+1000)).g+1) S'.h)/\S'.σ 0= .p (.sl none xs)/\S'.σ 2= .ptr 2 1 0/\S'.σ 4= .ptr 4 1 0/\
  S'.h 2=⟨1,some (.box 98 [.sl (some 2) [],.sl none []])⟩/\S'.σ 19= .p (.sl none xs)/\S'.σ 20= .p (.i .i64 (xs.length:Int))/\S'.σ 21= .p (.i .i64 (i:Int))/\
  (∀ q,(2<=q/\q<20)\/i+20<=q->S'.h (q+1000)=h2 (q+1000))/\(∀ a,a<i->okRow L a)/\∀ s,s<i->brM (gW L w0) s s s≠0
set_option maxHeartbeats 4000000 in
theorem strip_app {Q:Exit->St->Prop} {S:St} {G:Nat->Nat->Int} {Gd Gm i:Nat} {γ:Nat->Nat} (hi:i<64) (y4:S.σ 4= .ptr 4 1 0) (y5:S.σ 5= .p (.i .i64 (i:Int))) (y7:S.σ 7= .own (i+20+1000) (γ i) 0 (i+1))
 (H:StN G Gd Gm i γ S.h) (hn:S.h (i+20+1000)=⟨γ i,some (.arr 28 (some 2) (rowZ (i+1) (λt=>brM G t i t)))⟩)
 (hQ:∀ S',StN G (Gd+1) (Gm+1) (i+1) γ S'.h->S'.h 2=S.h 2->(∀ q,2<=q->S'.h (q+1000)=S.h (q+1000))->(∀ t,t<=7\/(12<=t/\t<=40)->S'.σ t=S.σ t)->Q .normal S'):
 WS Tryz.prog 117 sc_lattice_stripped.snd.snd.snd.fst.snd.fst.fst.snd.snd.fst.fst.snd.snd.snd.snd.snd Q S:=by
 obtain ⟨z4,zd,zm,zr⟩:=H;have hi1:i<i+1:=by omega
 have hi1I:(i:Int)<(i:Int)+1:=by omega
 obtain ⟨hb1,hb2,hb3,hb4⟩:=app_bnds hi;have htk:(rowsT i γ).take i=rowsT i γ:=List.take_of_length_le (by simp);have htd:(rowZ (i+1) (brD G)).take (i+1)=rowZ (i+1) (brD G):=List.take_of_length_le (by simp);have hsn:=rowZ_snoc (k:=i+1) (f:=brD G);obtain ⟨x,hx⟩:∃ x,x=brM G i i i:=⟨_,rfl⟩;rw [show brD G (i+1)=x by rw [hx]; rfl,Z_eq] at hsn;have hsm:=rowsT_snoc (n:=i) (γ:=γ);unfold sc_lattice_stripped;simp only [SC.snd,SC.fst];refine WS_regD [] ?_; simp [y4,y5,y7,z4,zd,zm,hn,hi1,hi1I,htk,htd,hsn,hsm,hb1,hb2,hb3,hb4,<-hx];refine ⟨by kernel_rfl,?_⟩;have hmx:∀ t,t<=7\/(12<=t/\t<=40)->∀ (f:Nat->SV),f t=f t:=λ_ _ _=>rfl;refine hQ _ ⟨by simp,by simp,by simp,λa ha=>?_⟩ (by simp) (λq hq=>?_) λt ht=>?_
 . have h1:¬ a+20+1000=1000:=by omega
   have h2:¬ a+20+1000=1001:=by omega
   have h3:¬ a+20+1000=103:=by omega
   have h4:¬ a+20+1000=4:=by omega
   by_cases e:a=i
   . subst e; simp only [upd_apply,h1,h2,h3,h4,if_false]; exact hn
   . simp only [upd_apply,h1,h2,h3,h4,if_false]; exact zr a (by omega)
 . have h1:¬ q+1000=1000:=by omega
   have h2:¬ q+1000=1001:=by omega
   have h3:¬ q+1000=103:=by omega
   have h4:¬ q+1000=4:=by omega
   simp only [upd_apply,h1,h2,h3,h4,if_false]
 . simp only [upd_apply];repeat rw [if_neg (by omega)]
set_option maxHeartbeats 4000000 in
theorem lstripped {h:Nat->HC} {k:Nat} {xs:List V} {L:List (List Int)} (hL:IsL k xs L) (hk:k<=2^12) (hn:xs.length<=2^40) (hw:∀ i,i<xs.length->(L.getD i []).length<=2^40)
 (hfree:∀ q,q<xs.length+20->(h (q+1000)).o=none) (r:Bool) (hr:r=true↔okL L/\∀ t,t<L.length->brM (gW L (L.getD 0 []).length) t t t≠0):
 FrM Tryz.prog f_lattice_stripped h (fpS xs.length) [.p (.sl none xs)] (λg svs=>StR (gW L (L.getD 0 []).length) xs.length r g svs):=by
 obtain ⟨w0,hw0⟩:∃ w,w=(L.getD 0 []).length:=⟨_,rfl⟩;rw [<- hw0] at hr ⊢;refine frM_at Tryz.func96 ok_lattice_stripped (by simp) (by simp) fpS_big λh2 hh=>?_;have hf2:∀ q,q<xs.length+20->(h2 (q+1000)).o=none:=λq hq=>by
  rw [hh _ (fpS_mem hq)]; exact hfree q hq
 have hlen:=hL.len;have o1:=zof 1 (by omega) (by omega);unfold sc_lattice_stripped;refine Wr ?_; simp;refine WS_seq (WS_reg [13] ?_); simp;refine callP o1 rfl ?_;simp;refine WS_abs (λS=>S.σ 0= .p (.sl none xs)/\S.σ 2= .ptr 2 1 0/\S.σ 4= .ptr 4 1 0/\S.h 2=⟨1,some (.box 98 [.sl (some 2) [],.sl none []])⟩/\
  S.h 4=⟨1,some (.sbox 98 [.own 13 1 0 1,.nil])⟩/\S.h 13=⟨1,some (.arr 28 (some 2) [Z 1])⟩/\∀ q,S.h (q+1000)=h2 (q+1000)) ?_ ?_
 . simp [argSlotG]
 rintro S ⟨s0,s2,s4,k2,k4,k13,kq⟩;have kq0:S.h 1000=h2 1000:=kq 0;have kq1:S.h 1001=h2 1001:=kq 1;have hf0:(h2 1000).o=none:=hf2 0 (by omega);have hf1:(h2 1001).o=none:=hf2 1 (by omega);refine WS_move 13 1000 (by rw [k13]) (by rw [kq0]; exact hf0) (by decide) (by decide) (by simp [HObj.refs]) ?_;refine WS_abs (λS'=>S'.σ 0= .p (.sl none xs)/\S'.σ 2= .ptr 2 1 0/\S'.σ 4= .ptr 4 1 0/\S'.h 2=⟨1,some (.box 98 [.sl (some 2) [],.sl none []])⟩/\
  S'.h 4=⟨1,some (.sbox 98 [.own 1000 ((h2 1000).g+1) 0 1,.nil])⟩/\S'.h 1000=⟨(h2 1000).g+1,some (.arr 28 (some 2) [Z 1])⟩/\∀ q,1<=q->S'.h (q+1000)=h2 (q+1000)) ?_ ?_
 . refine ⟨by simp [St.move,s0,ren2,ren1,ren0],by simp [St.move,s2,ren2,ren1,ren0],by simp [St.move,s4,ren2,ren1,ren0],by simp [St.move,k2,HObj.ren],by simp [St.move,k4,HObj.ren,ren1,ren0,k13,kq0],by simp [St.move,k13,kq0],λq hq=>?_⟩;have h1:¬ q+1000=13:=by omega
   have h2:¬ q+1000<1000:=by omega
   have h3:¬ q+1000=1000:=by omega
   have h4:¬ q=0:=by omega
   simp [St.move,h1,h2,h3,h4,kq q]
 clear S s0 s2 s4 k2 k4 k13 kq kq0 kq1;rintro S ⟨s0,s2,s4,k2,k4,kd,kq⟩;have kq1:S.h 1001=h2 1001:=kq 1 (by omega);refine WS_nil 4 1 1001 22 none (by rw [k4]) (by simp) (by rw [kq1]; exact hf1) (by omega) ?_;refine WS_rows 1001 (T:=22) (xs:=[]) (by simp) ?_;refine WS_abs (λS'=>StO h2 xs L w0 ⟨upd (upd (upd S'.σ 19 (.p (.sl none xs))) 20 (.p (.i .i64 (xs.length:Int)))) 21 (.p (.i .i64 0)),S'.h⟩) ?_ ?_
 . refine ⟨0,by omega,⟨(h2 1000).g+1,(S.h 1001).g+1,by simp [k4],by simp [kd,rowZ,brD],by simp [rowsT],λa ha=>by omega⟩,by simp [s0],by simp [s2],by simp [s4],by simp [k2],by simp,by simp,by simp,λq hq=>?_,λa ha=>by omega,λa ha=>by omega⟩;have h1:¬ q+1000=1001:=by omega
   have h3:¬ q=1:=by omega
   simp [h1,h3,kq q (by omega)]
 clear s0 s2 s4 k2 k4 kd kq kq1 S;intro S HO;have frame:∀ {g:Nat->HC},(∀ q,xs.length+20<=q->g (q+1000)=h2 (q+1000))->∀ q,¬ q+1000∈fpS xs.length->g (q+1000)=h2 (q+1000):=λhg q hq=>hg q (Nat.le_of_not_lt λh=>hq (fpS_mem h));have fin:∀ (g:Nat->HC) (Gd Gm j:Nat),(∀ q,xs.length+20<=q->g (q+1000)=h2 (q+1000))->r=false->(∀ q,¬ q+1000∈fpS xs.length->g (q+1000)=h2 (q+1000))/\StR (gW L w0) xs.length r g [.agg [.own 1000 Gd 0 (j+1),.own 1001 Gm 0 j],.p (.b false)]:=λg Gd Gm j hg hr0=>
  ⟨frame hg,Gd,Gm,j,by rw [hr0],λh=>by rw [hr0] at h; cases h⟩
 by_cases h64:xs.length<=64
 . have c1:¬ (64:Int)<(xs.length:Int):=by omega
   have c2:¬ 64<xs.length:=by omega
   have t0':=HO.choose_spec.2.2.1;simp at t0';refine Ws ?_; simp [t0',c1,c2];refine WS_cF (by simp [t0',c1,c2]) ?_;refine WS_skip ?_; simp [t0',c1,c2];refine Ws ?_; simp [t0',c1,c2];refine WS_block ?_;refine WS_loop (StO h2 xs L w0) (λS=>xs.length-nM 21 S) ?_ ?_
   . obtain ⟨i0,hi0,⟨Gd,Gm,HN⟩,t0,t2,t4,e2,t19,t20,t21,eq,ho,hz⟩:=HO;exact ⟨i0,hi0,⟨Gd,Gm,HN⟩,by simpa using t0,by simpa using t2,by simpa using t4,e2,by simp,by simp,by simpa using t21,eq,ho,hz⟩
   clear HO t0' S;rintro S ⟨i,hi,⟨Gd,Gm,HN⟩,t0,t2,t4,e2,t19,t20,t21,eq,ho,hz⟩;have dI:=nM_eq t21;have e4:=HN.1;by_cases hlt:i<xs.length
   . have hltI:(i:Int)<(xs.length:Int):=by omega
     have h0:0<xs.length:=by omega
     have h0I:(0:Int)<(xs.length:Int):=by omega
     have wi:=i64_succ i (by omega);obtain ⟨vs,hvs,pv⟩:=hL.row i hlt;obtain ⟨us,hus,pu⟩:=hL.row 0 h0;have lv:=pv.len;have lu:=pu.len;have hbad:¬ okRow L i->r=false:=λhno=>by
      cases r with
      | false=>rfl
      | true=>exact absurd ((hr.1 rfl).1.2 i (by omega)) hno
     by_cases ha:64<(L.getD i []).length
     . have a1:64<vs.length:=by omega
       have a2:(64:Int)<(vs.length:Int):=by omega
       have hb:=hbad (λh=>by have:=h.1; omega);refine Wr ?_; simp [t0,t2,t4,e2,e4,t19,t20,t21,hlt,hltI,hvs,hus,h0,h0I,a1,a2];refine WS_seq ?_;refine WS_cT (by simp [t0,t2,t4,e2,e4,t19,t20,t21,hlt,hltI,hvs,hus,h0,h0I,a1,a2]) ?_;refine WS_skip ?_; simp [t0,t2,t4,e2,e4,t19,t20,t21,hlt,hltI,hvs,hus,h0,h0I,a1,a2];refine WS_seq (WS_block (Wr ?_)); simp [t0,t2,t4,e2,e4,t19,t20,t21,hlt,hltI,hvs,hus,h0,h0I,a1,a2];refine Ws ?_; simp [t0,t2,t4,e2,e4,t19,t20,t21,hlt,hltI,hvs,hus,h0,h0I,a1,a2];refine WS_cT (by simp [t0,t2,t4,e2,e4,t19,t20,t21,hlt,hltI,hvs,hus,h0,h0I,a1,a2]) ?_;refine Wr ?_; simp [t0,t2,t4,e2,e4,t19,t20,t21,hlt,hltI,hvs,hus,h0,h0I,a1,a2];refine WS_ret ?_; simp [t0,t2,t4,e2,e4,t19,t20,t21,hlt,hltI,hvs,hus,h0,h0I,a1,a2];exact fin _ Gd Gm i (λq hq=>by simp [eq q (by omega)]) hb
     . have a1:¬ 64<vs.length:=by omega
       have a2:¬ (64:Int)<(vs.length:Int):=by omega
       by_cases hb:(L.getD i []).length=(L.getD 0 []).length
       . have b1:vs.length=us.length:=by omega
         rw [b1] at a1 a2;have hrow:okRow L i:=⟨by omega,hb⟩;have hwid:∀ a,a<=i->(L.getD a []).length=w0:=λa ha=>by
          rcases Nat.lt_or_ge a i with h | h
          . rw [(ho a h).2,hw0]
          . rw [show a=i by omega,hb,hw0]
         have hN:((i:Int)+1).toNat=i+1:=by omega
         have hzz:=rowZ_zero (i+1);refine Wr ?_; simp [t0,t2,t4,e2,e4,t19,t20,t21,hlt,hltI,hvs,hus,h0,h0I,a1,a2,b1,wi,hN,hzz];refine WS_seq ?_;refine WS_cT (by simp [t0,t2,t4,e2,e4,t19,t20,t21,hlt,hltI,hvs,hus,h0,h0I,a1,a2,b1,wi,hN,hzz]) ?_;refine WS_skip ?_; simp [t0,t2,t4,e2,e4,t19,t20,t21,hlt,hltI,hvs,hus,h0,h0I,a1,a2,b1,wi,hN,hzz];refine WS_seq (WS_block (Wr ?_)); simp [t0,t2,t4,e2,e4,t19,t20,t21,hlt,hltI,hvs,hus,h0,h0I,a1,a2,b1,wi,hN,hzz];refine Ws ?_; simp [t0,t2,t4,e2,e4,t19,t20,t21,hlt,hltI,hvs,hus,h0,h0I,a1,a2,b1,wi,hN,hzz];refine WS_cF (by simp [t0,t2,t4,e2,e4,t19,t20,t21,hlt,hltI,hvs,hus,h0,h0I,a1,a2,b1,wi,hN,hzz]) ?_;refine WS_skip ?_; simp [t0,t2,t4,e2,e4,t19,t20,t21,hlt,hltI,hvs,hus,h0,h0I,a1,a2,b1,wi,hN,hzz];refine Wr ?_; simp [t0,t2,t4,e2,e4,t19,t20,t21,hlt,hltI,hvs,hus,h0,h0I,a1,a2,b1,wi,hN,hzz];refine ⟨⟨by omega,by omega,by omega⟩,?_⟩;have q2:S.h 2=S.h 2:=rfl;refine WS_seq ?_;refine strip_mid (g7:=(S.h 41).g+1) (vs:=vs) (i:=i) (w:=w0) hL (by rw [hw0,<-hb]; omega) hk (by omega) hlt hvs hwid hz (HN.of λq h1 h2=>by simp [h1]) (by simp [t0]) (by simp) (by simp [t4]) (by simp) (by simp) (by simp) ?_;intro S2 h7 hoth hs;have p0:=(hs 0 (by omega)).trans (show _=SV.p (.sl none xs) by simp [t0]);have p2:=(hs 2 (by omega)).trans (show _=SV.ptr 2 1 0 by simp [t2]);have p4:=(hs 4 (by omega)).trans (show _=SV.ptr 4 1 0 by simp [t4]);have p5:=(hs 5 (by omega)).trans (show _=SV.p (.i .i64 (i:Int)) by simp);have p7:=(hs 7 (by omega)).trans (show _=SV.own 41 ((S.h 41).g+1) 0 (i+1) by simp);have p19:=(hs 19 (by omega)).trans (show _=SV.p (.sl none xs) by simp [t19]);have p20:=(hs 20 (by omega)).trans (show _=SV.p (.i .i64 (xs.length:Int)) by simp [t20]);have p21:=(hs 21 (by omega)).trans (show _=SV.p (.i .i64 (i:Int)) by simp [t21]);have hoth':∀ q,q≠41->q≠9->S2.h q=S.h q:=λq h1 h2=>(hoth q h1 h2).trans (by simp [h1]);have HN2:StN (gW L w0) Gd Gm i (λa=>(h2 (a+20+1000)).g+1) S2.h:=HN.of hoth';have k2:=(hoth' 2 (by omega) (by omega)).trans e2;have keq:∀ q,(2<=q/\q<20)\/i+20<=q->S2.h (q+1000)=h2 (q+1000):=λq hq=>(hoth' _ (by omega) (by omega)).trans (eq q hq);obtain ⟨k4,kd,km,krow⟩:=HN2;have lim:=br_lim (n:=64) (t:=i) (i:=i) (j:=i) hL (show w0<=64 by rw [hw0,<-hb]; omega) hk (Nat.le_refl _) hz (Nat.le_refl _) (by omega) (Nat.le_refl _) (by omega);have sg:=zsign (isZ_of lim) (by omega);obtain ⟨x,hx⟩:∃ x,x=brM (gW L w0) i i i:=⟨_,rfl⟩;rw [<- hx] at sg;have hi1:i<i+1:=by omega
         have hi1I:(i:Int)<(i:Int)+1:=by omega
         show WS Tryz.prog 117 _ _ S2;by_cases hx0:x=0
         . have hr0:r=false:=by
            cases r with
            | false=>rfl
            | true=>exact absurd (hx.symm.trans hx0) ((hr.1 rfl).2 i (by omega))
           subst hx0;refine Ws ?_; simp [p2,p4,p5,p7,h7,hi1,hi1I,k2,k4,<-hx];refine callP sg rfl ?_;simp [p2,p4,p5,p7,h7,hi1,hi1I,k2,k4,<-hx];refine WS_cT (by simp [p2,p4,p5,p7,h7,hi1,hi1I,k2,k4,<-hx]) ?_;refine Wr ?_; simp [p2,p4,p5,p7,h7,hi1,hi1I,k2,k4,<-hx];refine WS_ret ?_; simp [p2,p4,p5,p7,h7,hi1,hi1I,k2,k4,<-hx];exact fin _ Gd Gm i (λq hq=>by simp [keq q (by omega)]) hr0
         . have sx:¬ x.sign=0:=λh=>hx0 (Int.sign_eq_zero_iff_zero.1 h);refine Ws ?_; simp [p2,p4,p5,p7,h7,hi1,hi1I,k2,k4,<-hx,hx0,sx];refine callP sg rfl ?_;simp [p2,p4,p5,p7,h7,hi1,hi1I,k2,k4,<-hx,hx0,sx];refine WS_cF (by simp [p2,p4,p5,p7,h7,hi1,hi1I,k2,k4,<-hx,hx0,sx]) ?_;refine WS_skip ?_; simp [p2,p4,p5,p7,h7,hi1,hi1I,k2,k4,<-hx,hx0,sx];have kn:S2.h (i+20+1000)=h2 (i+20+1000):=keq (i+20) (by omega);refine WS_abs (λS3=>S3.σ 0= .p (.sl none xs)/\S3.σ 2= .ptr 2 1 0/\S3.σ 4= .ptr 4 1 0/\S3.σ 5= .p (.i .i64 (i:Int))/\S3.σ 7= .own 41 ((S.h 41).g+1) 0 (i+1)/\S3.σ 19= .p (.sl none xs)/\S3.σ 20= .p (.i .i64 (xs.length:Int))/\S3.σ 21= .p (.i .i64 (i:Int))/\S3.h=S2.h) ?_ ?_
           . simp [p0,p2,p4,p5,p7,p19,p20,p21]
           rintro S3 ⟨u0,u2,u4,u5,u7,u19,u20,u21,uh⟩;refine WS_move 41 (i+20+1000) (by rw [uh,h7]) (by rw [uh,kn]; exact hf2 _ (by omega)) (by decide) (by omega) (by simp [HObj.refs]) ?_;refine WS_abs (λS4=>S4.σ 0= .p (.sl none xs)/\S4.σ 2= .ptr 2 1 0/\S4.σ 4= .ptr 4 1 0/\S4.σ 5= .p (.i .i64 (i:Int))/\S4.σ 7= .own (i+20+1000) ((h2 (i+20+1000)).g+1) 0 (i+1)/\S4.σ 19= .p (.sl none xs)/\S4.σ 20= .p (.i .i64 (xs.length:Int))/\S4.σ 21= .p (.i .i64 (i:Int))/\
            S4.h 2=S2.h 2/\S4.h 4=S2.h 4/\S4.h (i+20+1000)=⟨(h2 (i+20+1000)).g+1,some (.arr 28 (some 2) (rowZ (i+1) (λt=>brM (gW L w0) t i t)))⟩/\∀ q,q≠i+20->S4.h (q+1000)=S2.h (q+1000)) ?_ ?_
           . refine ⟨by simp [St.move,u0,ren2,ren1,ren0],by simp [St.move,u2,ren2,ren1,ren0],by simp [St.move,u4,ren2,ren1,ren0],by simp [St.move,u5,ren2,ren1,ren0],by simp [St.move,u7,ren2,ren1,ren0,uh,h7,kn],by simp [St.move,u19,ren2,ren1,ren0],by simp [St.move,u20,ren2,ren1,ren0],by simp [St.move,u21,ren2,ren1,ren0],
              by simp [St.move,uh,k2,HObj.ren],by simp [St.move,uh,k4,HObj.ren,ren1,ren0],by simp [St.move,uh,h7,kn],λq hq=>?_⟩
             have h1:¬ q+1000=41:=by omega
             have h2:¬ q+1000<1000:=by omega
             simp [St.move,h1,h2,hq,uh]
           rintro S4 ⟨y0,y2,y4,y5,y7,y19,y20,y21,z2,z4,zn',zq⟩;have hi64:i<64:=by omega
           refine strip_app (γ:=λa=>(h2 (a+20+1000)).g+1) hi64 y4 y5 y7 ⟨by rw [z4,k4],by rw [show (1000:Nat)=0+1000 from rfl,zq 0 (by omega)]; exact kd,by rw [show (1001:Nat)=1+1000 from rfl,zq 1 (by omega)]; exact km,λa ha=>by rw [zq (a+20) (by omega)]; exact krow a ha⟩ zn' ?_;intro S5 HN5 j2 jq js;have p0:=(js 0 (by omega)).trans y0;have p2:=(js 2 (by omega)).trans y2;have p4:=(js 4 (by omega)).trans y4;have p19:=(js 19 (by omega)).trans y19;have p20:=(js 20 (by omega)).trans y20;have p21:=(js 21 (by omega)).trans y21;clear js y0 y2 y4 y5 y7 y19 y20 y21;refine WS_reg [] ?_; simp [p21,wi];refine ⟨⟨i+1,by omega,⟨Gd+1,Gm+1,HN5⟩,by simp [p0],by simp [p2],by simp [p4],by simp [j2,z2,k2],by simp [p19],by simp [p20],by simp,λq hq=>?_,λa ha=>?_,λs hs=>?_⟩,?_⟩
           . show S5.h (q+1000)=_;rw [jq q (by omega),zq q (by omega)]; exact keq q (by omega)
           . by_cases e:a=i
             . subst e; exact hrow
             . exact ho a (by omega)
           . by_cases e:s=i
             . subst e; rw [<- hx]; exact hx0
             . exact hz s (by omega)
           . rw [dI,nM_eq (i:=21) (n:=i+1) (by simp)]; omega
       . have b1:¬ vs.length=us.length:=by omega
         have b2:¬ (vs.length:Int)=(us.length:Int):=by omega
         have hb':=hbad (λh=>hb h.2);refine Wr ?_; simp [t0,t2,t4,e2,e4,t19,t20,t21,hlt,hltI,hvs,hus,h0,h0I,a1,a2,b1,b2];refine WS_seq ?_;refine WS_cT (by simp [t0,t2,t4,e2,e4,t19,t20,t21,hlt,hltI,hvs,hus,h0,h0I,a1,a2,b1,b2]) ?_;refine WS_skip ?_; simp [t0,t2,t4,e2,e4,t19,t20,t21,hlt,hltI,hvs,hus,h0,h0I,a1,a2,b1,b2];refine WS_seq (WS_block (Wr ?_)); simp [t0,t2,t4,e2,e4,t19,t20,t21,hlt,hltI,hvs,hus,h0,h0I,a1,a2,b1,b2];refine Ws ?_; simp [t0,t2,t4,e2,e4,t19,t20,t21,hlt,hltI,hvs,hus,h0,h0I,a1,a2,b1,b2];refine WS_cT (by simp [t0,t2,t4,e2,e4,t19,t20,t21,hlt,hltI,hvs,hus,h0,h0I,a1,a2,b1,b2]) ?_;refine Wr ?_; simp [t0,t2,t4,e2,e4,t19,t20,t21,hlt,hltI,hvs,hus,h0,h0I,a1,a2,b1,b2];refine WS_ret ?_; simp [t0,t2,t4,e2,e4,t19,t20,t21,hlt,hltI,hvs,hus,h0,h0I,a1,a2,b1,b2];exact fin _ Gd Gm i (λq hq=>by simp [eq q (by omega)]) hb'
   . obtain rfl:i=xs.length:=by omega
     have hltI:¬ ((xs.length:Nat):Int)<(xs.length:Int):=by omega
     have hr1:r=true:=hr.2 ⟨⟨by omega,λa ha=>ho a (by omega)⟩,λt ht=>hz t (by omega)⟩;refine Wr ?_; simp [t2,t4,e2,e4,t20,t21,hltI];refine WS_seq ?_;refine WS_cF (by simp [t2,t4,e2,e4,t20,t21,hltI]) ?_;refine WS_exit ?_; simp [t2,t4,e2,e4,t20,t21,hltI];refine Wr ?_; simp [t2,t4,e2,e4,t20,t21,hltI];refine WS_ret ?_; simp [t2,t4,e2,e4,t20,t21,hltI];obtain ⟨_,kd,km,krow⟩:=HN;exact ⟨frame (λq hq=>by simp [eq q (by omega)]),Gd,Gm,xs.length,by rw [hr1],λ_=>⟨rfl,by simp [kd],λa=>(h2 (a+20+1000)).g+1,by simp [km],λq h1 h2=>by simp [eq q (by omega),hf2 q (by omega)],λa ha=>by simpa using krow a ha⟩⟩
 . have c1:(64:Int)<(xs.length:Int):=by omega
   have c2:64<xs.length:=by omega
   obtain ⟨i0,hi0,⟨Gd,Gm,HN⟩,t0,t2,t4,e2,t19,t20,t21,eq,ho,hz⟩:=HO;simp at t0 t2 t4 e2 t21;have e4:=HN.1;simp at e4;have hr0:r=false:=by
    cases r with
    | false=>rfl
    | true=>exact absurd (hr.1 rfl).1.1 (by omega)
   refine Ws ?_; simp [t0,t2,t4,e2,e4,c1,c2];refine WS_cT (by simp [t0,t2,t4,e2,e4,c1,c2]) ?_;refine Wr ?_; simp [t0,t2,t4,e2,e4,c1,c2];refine WS_ret ?_; simp [t0,t2,t4,e2,e4,c1,c2];exact fin _ Gd Gm i0 (λq hq=>by have:=eq q (by omega); simp at this; simp [this]) hr0
def takeV (vs:List V) (a b:List Int) (x:Int):List V:=(List.range vs.length).map λk=>if k<b.length then Z (cf a k-x*cf b k) else vs.getD k default
theorem takeV_length (vs:List V) (a b:List Int) (x:Int):(takeV vs a b x).length=vs.length:=by simp [takeV]
def tkH (T:List V) (n k:Nat):List V:=T.take k++List.replicate (n-k) (.agg [.b false,.sl none []])
theorem tkH_length {T:List V} {n k:Nat} (h:T.length=n) (hk:k<=n):(tkH T n k).length=n:=by simp [tkH]; omega
theorem tkH_set {T:List V} {n k:Nat} (h:T.length=n) (hk:k<n) {y:V} (hy:T[k]? =some y):(tkH T n k).set k y=tkH T n (k+1):=by
 refine List.ext_getElem? λi=>?_;rw [List.getElem?_set,tkH_length h (by omega)];have e1:(T.take k).length=k:=by simp; omega
 have e2:(T.take (k+1)).length=k+1:=by simp; omega
 by_cases hi:k=i
 . subst hi;rw [if_pos rfl,if_pos hk,tkH,List.getElem?_append_left (by omega),List.getElem?_take_of_lt (by omega),hy]
 . rw [if_neg hi,tkH,tkH];rcases Nat.lt_or_ge i k with h2 | h2
   . rw [List.getElem?_append_left (by omega),List.getElem?_append_left (by omega),List.getElem?_take_of_lt h2,List.getElem?_take_of_lt (by omega)]
   . rw [List.getElem?_append_right (by omega),List.getElem?_append_right (by omega),e1,e2,List.getElem?_replicate,List.getElem?_replicate];by_cases h3:i<n
     . rw [if_pos (by omega),if_pos (by omega)]
     . rw [if_neg (by omega),if_neg (by omega)]
theorem tkH_end {T:List V} {n:Nat} (h:T.length=n):tkH T n n=T:=by
 rw [tkH,Nat.sub_self,List.replicate_zero,List.append_nil]; exact List.take_of_length_le (by omega)
theorem tkH_zero (T:List V) (n:Nat):tkH T n 0=List.replicate n (.agg [.b false,.sl none []]):=by simp [tkH]
theorem takeV_lo {vs:List V} {a b:List Int} {x:Int} {k:Nat} (hk:k<vs.length) (hb:k<b.length):(takeV vs a b x)[k]? =some (Z (cf a k-x*cf b k)):=by simp [takeV,hk,hb]
theorem takeV_hi {vs:List V} {a b:List Int} {x:Int} {k:Nat} (hk:k<vs.length) (hb:¬ k<b.length):(takeV vs a b x)[k]? =some vs[k]:=by simp [takeV,hk,hb]
theorem nb_12 {q:Nat}:¬ q+1000=12:=by omega
theorem nb_9 {q:Nat}:¬ q+1000=9:=by omega
theorem nb_5 {q:Nat}:¬ q+1000=5:=by omega
attribute [local simp] nb_12 nb_9 nb_5
def TkS (h2:Nat->HC) (sa sb:SV) (T:List V) (n:Nat) (x:Int) (S:St):Prop:=
 ∃ k,k<=n/\S.σ 0=sa/\S.σ 1=sb/\S.σ 5= .ptr 5 1 0/\S.h 5=⟨1,some (.box 28 [.b (zn x),.sl none (uL (zl x))])⟩/\S.σ 13=sa/\S.σ 14= .p (.i .i64 (n:Int))/\S.σ 15= .p (.i .i64 (k:Int))/\
  S.σ 7= .own 12 1 0 n/\S.h 12=⟨1,some (.arr 28 (some 2) (tkH T n k))⟩/\∀ q,S.h (q+1000)=h2 (q+1000)
set_option maxHeartbeats 4000000 in
theorem ltakePP {h:Nat->HC} {k q:Nat} {vs ws:List V} {a b:List Int} {x:Int} (hv:IsP k vs a) (hw:IsP k ws b) (hx:zlen x<=k) (hk:k<=2^20) (hn:vs.length<=2^20) (hn2:ws.length<=2^20) (hq:(h (q+1000)).o=none):
 FrM Tryz.prog f_lattice_take h [q+1000] [.p (.sl (some 2) vs),.p (.sl (some 2) ws),.p (Z x)] (λg svs=>∃ G,svs=[.own (q+1000) G 0 vs.length]/\g (q+1000)=⟨G,some (.arr 28 (some 2) (takeV vs a b x))⟩):=by
 refine frM_at Tryz.func97 ok_lattice_take (by simp) (by simp) (by simp) λh2 hh=>?_;have hq2:(h2 (q+1000)).o=none:=by rw [hh _ (by simp)]; exact hq
 have lT:=takeV_length vs a b x;obtain ⟨T,hT⟩:∃ T,T=takeV vs a b x:=⟨_,rfl⟩;rw [<- hT] at lT ⊢;have hlw:=hw.len;have hT0:=tkH_zero T vs.length;have hb1:(vs.length:Int)*32<=140737488355328:=by omega
 have hb2:(vs.length:Int)<=140737488355328:=by omega
 unfold sc_lattice_take;refine Wr ?_; simp [hb1,hb2,<-hT0];refine Wr ?_; simp [hb1,hb2,<-hT0];refine Ws ?_; simp [hb1,hb2,<-hT0];refine WS_block ?_;refine WS_loop (TkS h2 (.p (.sl (some 2) vs)) (.p (.sl (some 2) ws)) T vs.length x) (λS=>vs.length-nM 15 S) ⟨0,by omega,by simp,by simp,by simp,by simp,by simp,by simp,by simp,by simp,by simp,λq=>by simp⟩ ?_;rintro S ⟨i,hi,s0,s1,s5,h5,s13,s14,s15,s7,h12,hoth⟩;have d15:=nM_eq s15;have nx:∀ S':St,S'.σ 0=S.σ 0->S'.σ 1=S.σ 1->S'.σ 5=S.σ 5->S'.h 5=S.h 5->S'.σ 13=S.σ 13->S'.σ 14=S.σ 14->S'.σ 15= .p (.i .i64 ((i+1:Nat):Int))->S'.σ 7=S.σ 7->i<vs.length->S'.h 12=⟨1,some (.arr 28 (some 2) (tkH T vs.length (i+1)))⟩->(∀ q,S'.h (q+1000)=S.h (q+1000))->
  TkS h2 (.p (.sl (some 2) vs)) (.p (.sl (some 2) ws)) T vs.length x S'/\vs.length-nM 15 S'<vs.length-nM 15 S:=λS' e1 e2 e3 e4 e5 e6 e7 e8 hi' e9 e10=>
  ⟨⟨i+1,hi',e1.trans s0,e2.trans s1,e3.trans s5,e4.trans h5,e5.trans s13,e6.trans s14,e7,e8.trans s7,e9,λq=>(e10 q).trans (hoth q)⟩,by rw [d15,nM_eq e7]; omega⟩
 have lH:=tkH_length lT hi;have sH:∀ y,i<vs.length->T[i]? =some y->(tkH T vs.length i).set i y=tkH T vs.length (i+1):=λy h1 h2=>tkH_set lT h1 h2;have eH:i=vs.length->tkH T vs.length i=T:=λe=>by rw [e]; exact tkH_end lT
 obtain ⟨H,hH⟩:∃ H,H=tkH T vs.length i:=⟨_,rfl⟩;rw [<- hH] at h12 lH sH eH;by_cases hiv:i<vs.length
 . have hI:(i:Int)<(vs.length:Int):=by omega
   have w1:=i64_succ i (by omega);have hiH:i<H.length:=by omega
   obtain ⟨b1,t1,hvi,hz1,hzi1⟩:=hv.cell i hiv;by_cases hiw:i<ws.length
   . have hW:(i:Int)<(ws.length:Int):=by omega
     obtain ⟨b2,t2,hwi,hz2,hzi2⟩:=hw.cell i hiw;have mu:=zmul (isZ_of hx) (hw.get i hiw) (by omega);have lb:=hw.pl i;have lm:=zlen_mul x (cf b i);have sb:=zsub ((hv.get i hiv).mono (show k<=2^22 by omega)) (isZ_of (x:=x*cf b i) (k:=2^22) (by omega)) (by omega);rw [hwi] at mu;rw [hvi] at sb;have hs:=sH _ hiv (by rw [hT]; exact takeV_lo hiv (by omega));obtain ⟨y,hy⟩:∃ y,y=cf a i-x*cf b i:=⟨_,rfl⟩;obtain ⟨z,hz⟩:∃ z,z=x*cf b i:=⟨_,rfl⟩;rw [<- hz] at mu hy sb hs;rw [<- hy] at sb hs;rw [Z_eq] at hs;refine Wr ?_; simp [s0,s1,s5,h5,s13,s14,s15,s7,h12,hiv,hI,hiw,hW,hvi,hwi,w1,hiH];refine WS_seq ?_;refine WS_cT (by simp [s0,s1,s5,h5,s13,s14,s15,s7,h12,hiv,hI,hiw,hW,hvi,hwi,w1,hiH]) ?_;refine WS_skip ?_; simp [s0,s1,s5,h5,s13,s14,s15,s7,h12,hiv,hI,hiw,hW,hvi,hwi,w1,hiH];refine WS_seq (WS_block (Wr ?_)); simp [s0,s1,s5,h5,s13,s14,s15,s7,h12,hiv,hI,hiw,hW,hvi,hwi,w1,hiH];refine Wr ?_; simp [s0,s1,s5,h5,s13,s14,s15,s7,h12,hiv,hI,hiw,hW,hvi,hwi,w1,hiH];refine Wr ?_; simp [s0,s1,s5,h5,s13,s14,s15,s7,h12,hiv,hI,hiw,hW,hvi,hwi,w1,hiH];refine WS_cT (by simp [s0,s1,s5,h5,s13,s14,s15,s7,h12,hiv,hI,hiw,hW,hvi,hwi,w1,hiH]) ?_;refine WS_regD [] ?_; simp [s0,s1,s5,h5,s13,s14,s15,s7,h12,hiv,hI,hiw,hW,hvi,hwi,w1,hiH];refine callD mu rfl ?_; simp [s0,s1,s5,h5,s13,s14,s15,s7,h12,hiv,hI,hiw,hW,hvi,hwi,w1,hiH];refine callD sb rfl ?_; simp [s0,s1,s5,h5,s13,s14,s15,s7,h12,hiv,hI,hiw,hW,hvi,hwi,w1,hiH];refine ⟨by kernel_rfl,?_⟩;refine WS_reg [] ?_; simp [s0,s1,s5,h5,s13,s14,s15,s7,h12,hiv,hI,hiw,hW,hvi,hwi,w1,hiH];exact nx _ (by simp [s0]) (by simp [s1]) (by simp [s5]) (by simp [h5]) (by simp [s13]) (by simp [s14]) (by simp) (by simp [s7]) hiv (by simp [hs]) λq=>by simp
   . have hW:¬ (i:Int)<(ws.length:Int):=by omega
     have hs:=sH _ hiv (by rw [hT]; exact takeV_hi hiv (by omega));rw [hvi] at hs;refine Wr ?_; simp [s0,s1,s5,h5,s13,s14,s15,s7,h12,hiv,hI,hiw,hW,hvi,w1,hiH];refine WS_seq ?_;refine WS_cT (by simp [s0,s1,s5,h5,s13,s14,s15,s7,h12,hiv,hI,hiw,hW,hvi,w1,hiH]) ?_;refine WS_skip ?_; simp [s0,s1,s5,h5,s13,s14,s15,s7,h12,hiv,hI,hiw,hW,hvi,w1,hiH];refine WS_seq (WS_block (Wr ?_)); simp [s0,s1,s5,h5,s13,s14,s15,s7,h12,hiv,hI,hiw,hW,hvi,w1,hiH];refine Wr ?_; simp [s0,s1,s5,h5,s13,s14,s15,s7,h12,hiv,hI,hiw,hW,hvi,w1,hiH];refine Wr ?_; simp [s0,s1,s5,h5,s13,s14,s15,s7,h12,hiv,hI,hiw,hW,hvi,w1,hiH];refine WS_cF (by simp [s0,s1,s5,h5,s13,s14,s15,s7,h12,hiv,hI,hiw,hW,hvi,w1,hiH]) ?_;refine WS_skip ?_; simp [s0,s1,s5,h5,s13,s14,s15,s7,h12,hiv,hI,hiw,hW,hvi,w1,hiH];refine WS_reg [] ?_; simp [s0,s1,s5,h5,s13,s14,s15,s7,h12,hiv,hI,hiw,hW,hvi,w1,hiH];exact nx _ (by simp [s0]) (by simp [s1]) (by simp [s5]) (by simp [h5]) (by simp [s13]) (by simp [s14]) (by simp) (by simp [s7]) hiv (by simp [hs]) λq=>by simp
 . obtain rfl:i=vs.length:=by omega
   have hI:¬ ((vs.length:Int)<(vs.length:Int)):=by omega
   rw [eH rfl] at h12;refine Wr ?_; simp [s14,s15,hI];refine WS_seq ?_;refine WS_cF (by simp [s14,s15,hI]) ?_;refine WS_exit ?_; simp [s14,s15,hI];refine WS_abs (λS'=>S'.σ 7= .own 12 1 0 vs.length/\S'.h 12=⟨1,some (.arr 28 (some 2) T)⟩/\∀ q,S'.h (q+1000)=h2 (q+1000)) ⟨by simp [s7],by simp [h12],λq=>by simp [hoth q]⟩ ?_;clear s0 s1 s5 h5 s13 s14 s15 s7 h12 hoth d15 nx;rintro S ⟨s7,h12,hoth⟩;refine WS_move 12 (q+1000) (by rw [h12]) (by rw [hoth]; exact hq2) (by decide) (by omega) (by simp [HObj.refs]) ?_;refine WS_abs (λS'=>S'.σ 7= .own (q+1000) ((h2 (q+1000)).g+1) 0 vs.length/\S'.h (q+1000)=⟨(h2 (q+1000)).g+1,some (.arr 28 (some 2) T)⟩/\∀ p,p≠q->S'.h (p+1000)=h2 (p+1000)) ⟨by simp [St.move,s7,ren2,ren1,ren0,h12,hoth],by simp [St.move,h12,hoth],λp hp=>?_⟩ ?_
   . have e2:¬ p+1000<1000:=by omega
     simp [St.move,e2,hp,hoth p]
   rintro S ⟨s7,hq3,hoth⟩;refine Wr ?_; simp [s7];refine WS_ret ?_; simp [s7];refine ⟨λp hp=>?_,hq3⟩
   intros; exact hoth p hp
set_option maxHeartbeats 4000000 in
theorem ltakeOP {h:Nat->HC} {k q:Nat} {rA gA:Nat} {vs ws:List V} {a b:List Int} {x:Int} (hv:IsP k vs a) (hw:IsP k ws b) (hx:zlen x<=k) (hk:k<=2^20) (hn:vs.length<=2^20) (hn2:ws.length<=2^20) (hq:(h (q+1000)).o=none) (hA:h (rA+1000)=⟨gA,some (.arr 28 (some 2) vs)⟩):
 FrM Tryz.prog f_lattice_take h [q+1000,rA+1000] [.own (rA+1000) gA 0 vs.length,.p (.sl (some 2) ws),.p (Z x)] (λg svs=>∃ G,svs=[.own (q+1000) G 0 vs.length]/\g (q+1000)=⟨G,some (.arr 28 (some 2) (takeV vs a b x))⟩/\g (rA+1000)=⟨gA,some (.arr 28 (some 2) vs)⟩):=by
 refine frM_at Tryz.func97 ok_lattice_take (by simp) (by simp) (by simp) λh2 hh=>?_;have hq2:(h2 (q+1000)).o=none:=by rw [hh _ (by simp)]; exact hq
 have hA2:h2 (rA+1000)=⟨gA,some (.arr 28 (some 2) vs)⟩:=by rw [hh _ (by simp)]; exact hA
 have nA:rA≠q:=λe=>by rw [<- e,hA] at hq; cases hq
 have lT:=takeV_length vs a b x;obtain ⟨T,hT⟩:∃ T,T=takeV vs a b x:=⟨_,rfl⟩;rw [<- hT] at lT ⊢;have hlw:=hw.len;have hT0:=tkH_zero T vs.length;have hb1:(vs.length:Int)*32<=140737488355328:=by omega
 have hb2:(vs.length:Int)<=140737488355328:=by omega
 unfold sc_lattice_take;refine Wr ?_; simp [hA2,hb1,hb2,<-hT0];refine Wr ?_; simp [hA2,hb1,hb2,<-hT0];refine Ws ?_; simp [hA2,hb1,hb2,<-hT0];refine WS_block ?_;refine WS_loop (TkS h2 (.own (rA+1000) gA 0 vs.length) (.p (.sl (some 2) ws)) T vs.length x) (λS=>vs.length-nM 15 S) ⟨0,by omega,by simp,by simp,by simp,by simp,by simp,by simp,by simp,by simp,by simp,λq=>by simp⟩ ?_;rintro S ⟨i,hi,s0,s1,s5,h5,s13,s14,s15,s7,h12,hoth⟩;have d15:=nM_eq s15;have nx:∀ S':St,S'.σ 0=S.σ 0->S'.σ 1=S.σ 1->S'.σ 5=S.σ 5->S'.h 5=S.h 5->S'.σ 13=S.σ 13->S'.σ 14=S.σ 14->S'.σ 15= .p (.i .i64 ((i+1:Nat):Int))->S'.σ 7=S.σ 7->i<vs.length->S'.h 12=⟨1,some (.arr 28 (some 2) (tkH T vs.length (i+1)))⟩->(∀ q,S'.h (q+1000)=S.h (q+1000))->
  TkS h2 (.own (rA+1000) gA 0 vs.length) (.p (.sl (some 2) ws)) T vs.length x S'/\vs.length-nM 15 S'<vs.length-nM 15 S:=λS' e1 e2 e3 e4 e5 e6 e7 e8 hi' e9 e10=>
  ⟨⟨i+1,hi',e1.trans s0,e2.trans s1,e3.trans s5,e4.trans h5,e5.trans s13,e6.trans s14,e7,e8.trans s7,e9,λq=>(e10 q).trans (hoth q)⟩,by rw [d15,nM_eq e7]; omega⟩
 have kA:S.h (rA+1000)=⟨gA,some (.arr 28 (some 2) vs)⟩:=(hoth rA).trans hA2;have lH:=tkH_length lT hi;have sH:∀ y,i<vs.length->T[i]? =some y->(tkH T vs.length i).set i y=tkH T vs.length (i+1):=λy h1 h2=>tkH_set lT h1 h2;have eH:i=vs.length->tkH T vs.length i=T:=λe=>by rw [e]; exact tkH_end lT
 obtain ⟨H,hH⟩:∃ H,H=tkH T vs.length i:=⟨_,rfl⟩;rw [<- hH] at h12 lH sH eH;by_cases hiv:i<vs.length
 . have hI:(i:Int)<(vs.length:Int):=by omega
   have w1:=i64_succ i (by omega);have hiH:i<H.length:=by omega
   obtain ⟨b1,t1,hvi,hz1,hzi1⟩:=hv.cell i hiv;by_cases hiw:i<ws.length
   . have hW:(i:Int)<(ws.length:Int):=by omega
     obtain ⟨b2,t2,hwi,hz2,hzi2⟩:=hw.cell i hiw;have mu:=zmul (isZ_of hx) (hw.get i hiw) (by omega);have lb:=hw.pl i;have lm:=zlen_mul x (cf b i);have sb:=zsub ((hv.get i hiv).mono (show k<=2^22 by omega)) (isZ_of (x:=x*cf b i) (k:=2^22) (by omega)) (by omega);rw [hwi] at mu;rw [hvi] at sb;have hs:=sH _ hiv (by rw [hT]; exact takeV_lo hiv (by omega));obtain ⟨y,hy⟩:∃ y,y=cf a i-x*cf b i:=⟨_,rfl⟩;obtain ⟨z,hz⟩:∃ z,z=x*cf b i:=⟨_,rfl⟩;rw [<- hz] at mu hy sb hs;rw [<- hy] at sb hs;rw [Z_eq] at hs;refine Wr ?_; simp [s0,s1,s5,h5,s13,s14,s15,s7,h12,hiv,hI,hiw,hW,hvi,hwi,w1,hiH,kA];refine WS_seq ?_;refine WS_cT (by simp [s0,s1,s5,h5,s13,s14,s15,s7,h12,hiv,hI,hiw,hW,hvi,hwi,w1,hiH,kA]) ?_;refine WS_skip ?_; simp [s0,s1,s5,h5,s13,s14,s15,s7,h12,hiv,hI,hiw,hW,hvi,hwi,w1,hiH,kA];refine WS_seq (WS_block (Wr ?_)); simp [s0,s1,s5,h5,s13,s14,s15,s7,h12,hiv,hI,hiw,hW,hvi,hwi,w1,hiH,kA];refine Wr ?_; simp [s0,s1,s5,h5,s13,s14,s15,s7,h12,hiv,hI,hiw,hW,hvi,hwi,w1,hiH,kA];refine Wr ?_; simp [s0,s1,s5,h5,s13,s14,s15,s7,h12,hiv,hI,hiw,hW,hvi,hwi,w1,hiH,kA];refine WS_cT (by simp [s0,s1,s5,h5,s13,s14,s15,s7,h12,hiv,hI,hiw,hW,hvi,hwi,w1,hiH,kA]) ?_;refine WS_regD [] ?_; simp [s0,s1,s5,h5,s13,s14,s15,s7,h12,hiv,hI,hiw,hW,hvi,hwi,w1,hiH,kA];refine callD mu rfl ?_; simp [s0,s1,s5,h5,s13,s14,s15,s7,h12,hiv,hI,hiw,hW,hvi,hwi,w1,hiH,kA];refine callD sb rfl ?_; simp [s0,s1,s5,h5,s13,s14,s15,s7,h12,hiv,hI,hiw,hW,hvi,hwi,w1,hiH,kA];refine ⟨by kernel_rfl,?_⟩;refine WS_reg [] ?_; simp [s0,s1,s5,h5,s13,s14,s15,s7,h12,hiv,hI,hiw,hW,hvi,hwi,w1,hiH,kA];exact nx _ (by simp [s0]) (by simp [s1]) (by simp [s5]) (by simp [h5]) (by simp [s13]) (by simp [s14]) (by simp) (by simp [s7]) hiv (by simp [hs]) λq=>by simp
   . have hW:¬ (i:Int)<(ws.length:Int):=by omega
     have hs:=sH _ hiv (by rw [hT]; exact takeV_hi hiv (by omega));rw [hvi] at hs;refine Wr ?_; simp [s0,s1,s5,h5,s13,s14,s15,s7,h12,hiv,hI,hiw,hW,hvi,w1,hiH,kA];refine WS_seq ?_;refine WS_cT (by simp [s0,s1,s5,h5,s13,s14,s15,s7,h12,hiv,hI,hiw,hW,hvi,w1,hiH,kA]) ?_;refine WS_skip ?_; simp [s0,s1,s5,h5,s13,s14,s15,s7,h12,hiv,hI,hiw,hW,hvi,w1,hiH,kA];refine WS_seq (WS_block (Wr ?_)); simp [s0,s1,s5,h5,s13,s14,s15,s7,h12,hiv,hI,hiw,hW,hvi,w1,hiH,kA];refine Wr ?_; simp [s0,s1,s5,h5,s13,s14,s15,s7,h12,hiv,hI,hiw,hW,hvi,w1,hiH,kA];refine Wr ?_; simp [s0,s1,s5,h5,s13,s14,s15,s7,h12,hiv,hI,hiw,hW,hvi,w1,hiH,kA];refine WS_cF (by simp [s0,s1,s5,h5,s13,s14,s15,s7,h12,hiv,hI,hiw,hW,hvi,w1,hiH,kA]) ?_;refine WS_skip ?_; simp [s0,s1,s5,h5,s13,s14,s15,s7,h12,hiv,hI,hiw,hW,hvi,w1,hiH,kA];refine WS_reg [] ?_; simp [s0,s1,s5,h5,s13,s14,s15,s7,h12,hiv,hI,hiw,hW,hvi,w1,hiH,kA];exact nx _ (by simp [s0]) (by simp [s1]) (by simp [s5]) (by simp [h5]) (by simp [s13]) (by simp [s14]) (by simp) (by simp [s7]) hiv (by simp [hs]) λq=>by simp
 . obtain rfl:i=vs.length:=by omega
   have hI:¬ ((vs.length:Int)<(vs.length:Int)):=by omega
   rw [eH rfl] at h12;refine Wr ?_; simp [s14,s15,hI];refine WS_seq ?_;refine WS_cF (by simp [s14,s15,hI]) ?_;refine WS_exit ?_; simp [s14,s15,hI];refine WS_abs (λS'=>S'.σ 7= .own 12 1 0 vs.length/\S'.h 12=⟨1,some (.arr 28 (some 2) T)⟩/\∀ q,S'.h (q+1000)=h2 (q+1000)) ⟨by simp [s7],by simp [h12],λq=>by simp [hoth q]⟩ ?_;clear s0 s1 s5 h5 s13 s14 s15 s7 h12 hoth d15 nx kA;rintro S ⟨s7,h12,hoth⟩;refine WS_move 12 (q+1000) (by rw [h12]) (by rw [hoth]; exact hq2) (by decide) (by omega) (by simp [HObj.refs]) ?_;refine WS_abs (λS'=>S'.σ 7= .own (q+1000) ((h2 (q+1000)).g+1) 0 vs.length/\S'.h (q+1000)=⟨(h2 (q+1000)).g+1,some (.arr 28 (some 2) T)⟩/\∀ p,p≠q->S'.h (p+1000)=h2 (p+1000)) ⟨by simp [St.move,s7,ren2,ren1,ren0,h12,hoth],by simp [St.move,h12,hoth],λp hp=>?_⟩ ?_
   . have e2:¬ p+1000<1000:=by omega
     simp [St.move,e2,hp,hoth p]
   rintro S ⟨s7,hq3,hoth⟩;refine Wr ?_; simp [s7];refine WS_ret ?_; simp [s7];refine ⟨λp hp=>?_,hq3,(hoth _ nA).trans hA2⟩
   intros; exact hoth p hp
set_option maxHeartbeats 4000000 in
theorem ltakeOO {h:Nat->HC} {k q:Nat} {rA gA:Nat} {rB gB:Nat} {vs ws:List V} {a b:List Int} {x:Int} (hv:IsP k vs a) (hw:IsP k ws b) (hx:zlen x<=k) (hk:k<=2^20) (hn:vs.length<=2^20) (hn2:ws.length<=2^20) (hq:(h (q+1000)).o=none) (hA:h (rA+1000)=⟨gA,some (.arr 28 (some 2) vs)⟩) (hB:h (rB+1000)=⟨gB,some (.arr 28 (some 2) ws)⟩):
 FrM Tryz.prog f_lattice_take h [q+1000,rA+1000,rB+1000] [.own (rA+1000) gA 0 vs.length,.own (rB+1000) gB 0 ws.length,.p (Z x)] (λg svs=>∃ G,svs=[.own (q+1000) G 0 vs.length]/\g (q+1000)=⟨G,some (.arr 28 (some 2) (takeV vs a b x))⟩/\g (rA+1000)=⟨gA,some (.arr 28 (some 2) vs)⟩/\g (rB+1000)=⟨gB,some (.arr 28 (some 2) ws)⟩):=by
 refine frM_at Tryz.func97 ok_lattice_take (by simp) (by simp) (by simp) λh2 hh=>?_;have hq2:(h2 (q+1000)).o=none:=by rw [hh _ (by simp)]; exact hq
 have hA2:h2 (rA+1000)=⟨gA,some (.arr 28 (some 2) vs)⟩:=by rw [hh _ (by simp)]; exact hA
 have nA:rA≠q:=λe=>by rw [<- e,hA] at hq; cases hq
 have hB2:h2 (rB+1000)=⟨gB,some (.arr 28 (some 2) ws)⟩:=by rw [hh _ (by simp)]; exact hB
 have nB:rB≠q:=λe=>by rw [<- e,hB] at hq; cases hq
 have lT:=takeV_length vs a b x;obtain ⟨T,hT⟩:∃ T,T=takeV vs a b x:=⟨_,rfl⟩;rw [<- hT] at lT ⊢;have hlw:=hw.len;have hT0:=tkH_zero T vs.length;have hb1:(vs.length:Int)*32<=140737488355328:=by omega
 have hb2:(vs.length:Int)<=140737488355328:=by omega
 unfold sc_lattice_take;refine Wr ?_; simp [hA2,hB2,hb1,hb2,<-hT0];refine Wr ?_; simp [hA2,hB2,hb1,hb2,<-hT0];refine Ws ?_; simp [hA2,hB2,hb1,hb2,<-hT0];refine WS_block ?_;refine WS_loop (TkS h2 (.own (rA+1000) gA 0 vs.length) (.own (rB+1000) gB 0 ws.length) T vs.length x) (λS=>vs.length-nM 15 S) ⟨0,by omega,by simp,by simp,by simp,by simp,by simp,by simp,by simp,by simp,by simp,λq=>by simp⟩ ?_;rintro S ⟨i,hi,s0,s1,s5,h5,s13,s14,s15,s7,h12,hoth⟩;have d15:=nM_eq s15;have nx:∀ S':St,S'.σ 0=S.σ 0->S'.σ 1=S.σ 1->S'.σ 5=S.σ 5->S'.h 5=S.h 5->S'.σ 13=S.σ 13->S'.σ 14=S.σ 14->S'.σ 15= .p (.i .i64 ((i+1:Nat):Int))->S'.σ 7=S.σ 7->i<vs.length->S'.h 12=⟨1,some (.arr 28 (some 2) (tkH T vs.length (i+1)))⟩->(∀ q,S'.h (q+1000)=S.h (q+1000))->
  TkS h2 (.own (rA+1000) gA 0 vs.length) (.own (rB+1000) gB 0 ws.length) T vs.length x S'/\vs.length-nM 15 S'<vs.length-nM 15 S:=λS' e1 e2 e3 e4 e5 e6 e7 e8 hi' e9 e10=>
  ⟨⟨i+1,hi',e1.trans s0,e2.trans s1,e3.trans s5,e4.trans h5,e5.trans s13,e6.trans s14,e7,e8.trans s7,e9,λq=>(e10 q).trans (hoth q)⟩,by rw [d15,nM_eq e7]; omega⟩
 have kA:S.h (rA+1000)=⟨gA,some (.arr 28 (some 2) vs)⟩:=(hoth rA).trans hA2;have kB:S.h (rB+1000)=⟨gB,some (.arr 28 (some 2) ws)⟩:=(hoth rB).trans hB2;have lH:=tkH_length lT hi;have sH:∀ y,i<vs.length->T[i]? =some y->(tkH T vs.length i).set i y=tkH T vs.length (i+1):=λy h1 h2=>tkH_set lT h1 h2;have eH:i=vs.length->tkH T vs.length i=T:=λe=>by rw [e]; exact tkH_end lT
 obtain ⟨H,hH⟩:∃ H,H=tkH T vs.length i:=⟨_,rfl⟩;rw [<- hH] at h12 lH sH eH;by_cases hiv:i<vs.length
 . have hI:(i:Int)<(vs.length:Int):=by omega
   have w1:=i64_succ i (by omega);have hiH:i<H.length:=by omega
   obtain ⟨b1,t1,hvi,hz1,hzi1⟩:=hv.cell i hiv;by_cases hiw:i<ws.length
   . have hW:(i:Int)<(ws.length:Int):=by omega
     obtain ⟨b2,t2,hwi,hz2,hzi2⟩:=hw.cell i hiw;have mu:=zmul (isZ_of hx) (hw.get i hiw) (by omega);have lb:=hw.pl i;have lm:=zlen_mul x (cf b i);have sb:=zsub ((hv.get i hiv).mono (show k<=2^22 by omega)) (isZ_of (x:=x*cf b i) (k:=2^22) (by omega)) (by omega);rw [hwi] at mu;rw [hvi] at sb;have hs:=sH _ hiv (by rw [hT]; exact takeV_lo hiv (by omega));obtain ⟨y,hy⟩:∃ y,y=cf a i-x*cf b i:=⟨_,rfl⟩;obtain ⟨z,hz⟩:∃ z,z=x*cf b i:=⟨_,rfl⟩;rw [<- hz] at mu hy sb hs;rw [<- hy] at sb hs;rw [Z_eq] at hs;refine Wr ?_; simp [s0,s1,s5,h5,s13,s14,s15,s7,h12,hiv,hI,hiw,hW,hvi,hwi,w1,hiH,kA,kB];refine WS_seq ?_;refine WS_cT (by simp [s0,s1,s5,h5,s13,s14,s15,s7,h12,hiv,hI,hiw,hW,hvi,hwi,w1,hiH,kA,kB]) ?_;refine WS_skip ?_; simp [s0,s1,s5,h5,s13,s14,s15,s7,h12,hiv,hI,hiw,hW,hvi,hwi,w1,hiH,kA,kB];refine WS_seq (WS_block (Wr ?_)); simp [s0,s1,s5,h5,s13,s14,s15,s7,h12,hiv,hI,hiw,hW,hvi,hwi,w1,hiH,kA,kB];refine Wr ?_; simp [s0,s1,s5,h5,s13,s14,s15,s7,h12,hiv,hI,hiw,hW,hvi,hwi,w1,hiH,kA,kB];refine Wr ?_; simp [s0,s1,s5,h5,s13,s14,s15,s7,h12,hiv,hI,hiw,hW,hvi,hwi,w1,hiH,kA,kB];refine WS_cT (by simp [s0,s1,s5,h5,s13,s14,s15,s7,h12,hiv,hI,hiw,hW,hvi,hwi,w1,hiH,kA,kB]) ?_;refine WS_regD [] ?_; simp [s0,s1,s5,h5,s13,s14,s15,s7,h12,hiv,hI,hiw,hW,hvi,hwi,w1,hiH,kA,kB];refine callD mu rfl ?_; simp [s0,s1,s5,h5,s13,s14,s15,s7,h12,hiv,hI,hiw,hW,hvi,hwi,w1,hiH,kA,kB];refine callD sb rfl ?_; simp [s0,s1,s5,h5,s13,s14,s15,s7,h12,hiv,hI,hiw,hW,hvi,hwi,w1,hiH,kA,kB];refine ⟨by kernel_rfl,?_⟩;refine WS_reg [] ?_; simp [s0,s1,s5,h5,s13,s14,s15,s7,h12,hiv,hI,hiw,hW,hvi,hwi,w1,hiH,kA,kB];exact nx _ (by simp [s0]) (by simp [s1]) (by simp [s5]) (by simp [h5]) (by simp [s13]) (by simp [s14]) (by simp) (by simp [s7]) hiv (by simp [hs]) λq=>by simp
   . have hW:¬ (i:Int)<(ws.length:Int):=by omega
     have hs:=sH _ hiv (by rw [hT]; exact takeV_hi hiv (by omega));rw [hvi] at hs;refine Wr ?_; simp [s0,s1,s5,h5,s13,s14,s15,s7,h12,hiv,hI,hiw,hW,hvi,w1,hiH,kA,kB];refine WS_seq ?_;refine WS_cT (by simp [s0,s1,s5,h5,s13,s14,s15,s7,h12,hiv,hI,hiw,hW,hvi,w1,hiH,kA,kB]) ?_;refine WS_skip ?_; simp [s0,s1,s5,h5,s13,s14,s15,s7,h12,hiv,hI,hiw,hW,hvi,w1,hiH,kA,kB];refine WS_seq (WS_block (Wr ?_)); simp [s0,s1,s5,h5,s13,s14,s15,s7,h12,hiv,hI,hiw,hW,hvi,w1,hiH,kA,kB];refine Wr ?_; simp [s0,s1,s5,h5,s13,s14,s15,s7,h12,hiv,hI,hiw,hW,hvi,w1,hiH,kA,kB];refine Wr ?_; simp [s0,s1,s5,h5,s13,s14,s15,s7,h12,hiv,hI,hiw,hW,hvi,w1,hiH,kA,kB];refine WS_cF (by simp [s0,s1,s5,h5,s13,s14,s15,s7,h12,hiv,hI,hiw,hW,hvi,w1,hiH,kA,kB]) ?_;refine WS_skip ?_; simp [s0,s1,s5,h5,s13,s14,s15,s7,h12,hiv,hI,hiw,hW,hvi,w1,hiH,kA,kB];refine WS_reg [] ?_; simp [s0,s1,s5,h5,s13,s14,s15,s7,h12,hiv,hI,hiw,hW,hvi,w1,hiH,kA,kB];exact nx _ (by simp [s0]) (by simp [s1]) (by simp [s5]) (by simp [h5]) (by simp [s13]) (by simp [s14]) (by simp) (by simp [s7]) hiv (by simp [hs]) λq=>by simp
 . obtain rfl:i=vs.length:=by omega
   have hI:¬ ((vs.length:Int)<(vs.length:Int)):=by omega
   rw [eH rfl] at h12;refine Wr ?_; simp [s14,s15,hI];refine WS_seq ?_;refine WS_cF (by simp [s14,s15,hI]) ?_;refine WS_exit ?_; simp [s14,s15,hI];refine WS_abs (λS'=>S'.σ 7= .own 12 1 0 vs.length/\S'.h 12=⟨1,some (.arr 28 (some 2) T)⟩/\∀ q,S'.h (q+1000)=h2 (q+1000)) ⟨by simp [s7],by simp [h12],λq=>by simp [hoth q]⟩ ?_;clear s0 s1 s5 h5 s13 s14 s15 s7 h12 hoth d15 nx kA kB;rintro S ⟨s7,h12,hoth⟩;refine WS_move 12 (q+1000) (by rw [h12]) (by rw [hoth]; exact hq2) (by decide) (by omega) (by simp [HObj.refs]) ?_;refine WS_abs (λS'=>S'.σ 7= .own (q+1000) ((h2 (q+1000)).g+1) 0 vs.length/\S'.h (q+1000)=⟨(h2 (q+1000)).g+1,some (.arr 28 (some 2) T)⟩/\∀ p,p≠q->S'.h (p+1000)=h2 (p+1000)) ⟨by simp [St.move,s7,ren2,ren1,ren0,h12,hoth],by simp [St.move,h12,hoth],λp hp=>?_⟩ ?_
   . have e2:¬ p+1000<1000:=by omega
     simp [St.move,e2,hp,hoth p]
   rintro S ⟨s7,hq3,hoth⟩;refine Wr ?_; simp [s7];refine WS_ret ?_; simp [s7];refine ⟨λp hp=>?_,hq3,(hoth _ nA).trans hA2,(hoth _ nB).trans hB2⟩
   intros; exact hoth p hp
def FrR (P:Program) (f:FuncId) (h:Nat->HC) (fp:List Nat) (args:List SV) (r:List SV):Prop:=FrM P f h fp args λg svs=>svs=r/\∀ q∈fp,g q=h q
theorem mcallR {P:Program} {S:St} {f:FuncId} {args:List SV} {K:St->Prop} {dst:Option Nat} {fp:List Nat} {r:List SV} (h:FrR P f S.h fp args r) (hfp:∀ x∈args,∀ q∈svref x,q∈fp) (k:K (S.put dst (packSV r))):HCall P f args K S dst:=by
 refine mcall fp h hfp ?_;rintro H g svs h1 h2 ⟨rfl,h3⟩;have:H=S.h:=funext λq=>if hq:q∈fp then (h2 q hq).trans (h3 q hq) else h1 q hq
 rw [this]; exact k
theorem sgn_gt (c:Int):(0<c.sign)=(0<c):=by
 rcases Int.lt_trichotomy c 0 with h | h | h
 . rw [Int.sign_eq_neg_one_of_neg h]; simp; omega
 . subst h; simp
 . rw [Int.sign_eq_one_of_pos h]; simp [h]
theorem sgn_lt (c:Int):(c.sign<0)=(c<0):=by
 rcases Int.lt_trichotomy c 0 with h | h | h
 . rw [Int.sign_eq_neg_one_of_neg h]; simp [h]
 . subst h; simp
 . rw [Int.sign_eq_one_of_pos h]; simp; omega
theorem isZ_abs {k:Nat} {y:Int} (h:zlen y<=k):IsZ k (.agg [.b false,.sl none (uL (zl y))]) (y.natAbs:Int):=
 ⟨false,zl y,rfl,⟨zl_dl y,h⟩,by simp [zi,zl_val]⟩
structure NumH (h:Nat->HC) (Gd Gm n:Nat) (γ:Nat->Nat) (D:Nat->Int) (M:Nat->Nat->Int):Prop where
 d:h 1000=⟨Gd,some (.arr 28 (some 2) (rowZ (n+1) D))⟩
 m:h 1001=⟨Gm,some (.rows 22 (rowsT n γ))⟩
 row:∀ a,a<n->h (a+20+1000)=⟨γ a,some (.arr 28 (some 2) (rowZ (a+1) (M a)))⟩
def numA (Gd Gm n:Nat):SV:=.agg [.own 1000 Gd 0 (n+1),.own 1001 Gm 0 n]
attribute [local simp] maskH_ge numA
set_option maxHeartbeats 4000000 in
theorem lfar {h:Nat->HC} {n i j Gd Gm:Nat} {γ:Nat->Nat} {D:Nat->Int} {M:Nat->Nat->Int} (H:NumH h Gd Gm n γ D M) (hi:i<n) (hj:j<=i) (hn:n<=64) (hM:zlen (M i j)<=2^24) (hD:zlen (D (j+1))<=2^24):
 FrR Tryz.prog f_lattice_numbers_far h [1000,1001,i+20+1000] [numA Gd Gm n,.p (.i .i64 (i:Int)),.p (.i .i64 (j:Int))] [.p (.b (decide (D (j+1)<((M i j+M i j).natAbs:Int))))]:=by
 refine frM_at Tryz.func114 ok_lattice_numbers_far (by simp) (by simp) (by simp) λh2 hh=>?_;have e0:h2 1000=_:=(hh _ (by simp)).trans H.d;have e1:h2 1001=_:=(hh _ (by simp)).trans H.m;have e2:h2 (i+20+1000)=_:=(hh _ (by simp)).trans (H.row i hi);have hiI:(i:Int)<(n:Int):=by omega
 have hj1:j<i+1:=by omega
 have hj1I:(j:Int)<(i:Int)+1:=by omega
 have hjn:j+1<n+1:=by omega
 have hjnI:(j:Int)+1<(n:Int)+1:=by omega
 have hj0:(0:Int)<=(j:Int)+1:=by omega
 have wj:=i64_succ j (by omega);have hjnI':((j+1:Nat):Int)<(n:Int)+1:=by omega
 have hin:i<(rowsT n γ).length:=by simp [hi]
 have l1:=zlen_add (M i j) (M i j);obtain ⟨x,hx⟩:∃ x,x=M i j:=⟨_,rfl⟩;obtain ⟨d,hd⟩:∃ x,x=D (j+1):=⟨_,rfl⟩;rw [<- hx] at l1 hM ⊢;rw [<- hd] at hD ⊢;have ad:=zadd (isZ_of (x:=x) (k:=2^24) hM) (isZ_of (x:=x) (k:=2^24) hM) (by omega);obtain ⟨y,hy⟩:∃ y,y=x+x:=⟨_,rfl⟩;rw [<- hy] at ad l1 ⊢;have no:=znorm (isZ_abs (k:=2^25) (y:=y) (by omega)) (by omega);have cm:=zcmp (isZ_of (x:=(y.natAbs:Int)) (k:=2^25) (Nat.le_trans (zlen_le (y:=y) (by omega)) (by omega))) (isZ_of (x:=d) (k:=2^25) (by omega)) (by omega);obtain ⟨u,hu⟩:∃ u:Int,u=(y.natAbs:Int):=⟨_,rfl⟩;rw [<- hu] at no cm ⊢;have hr:decide (0<(u-d).sign)=decide (d<u):=by exact decide_eq_decide.2 (by rw [sgn_gt]; omega)
 unfold sc_lattice_numbers_far;refine Wr ?_; simp [e0,e1,e2,hi,hiI,hj1,hj1I,hjn,hjnI,hjnI',hj0,wj,hin,<-hx,<-hd,hr];refine Wr ?_; simp [e0,e1,e2,hi,hiI,hj1,hj1I,hjn,hjnI,hjnI',hj0,wj,hin,<-hx,<-hd,hr];refine Wr ?_; simp [e0,e1,e2,hi,hiI,hj1,hj1I,hjn,hjnI,hjnI',hj0,wj,hin,<-hx,<-hd,hr];refine callP ad rfl ?_;simp [e0,e1,e2,hi,hiI,hj1,hj1I,hjn,hjnI,hjnI',hj0,wj,hin,<-hx,<-hd,hr];refine callP no rfl ?_;simp [e0,e1,e2,hi,hiI,hj1,hj1I,hjn,hjnI,hjnI',hj0,wj,hin,<-hx,<-hd,hr];refine WS_seq (WS_regD [] ?_); simp [e0,e1,e2,hi,hiI,hj1,hj1I,hjn,hjnI,hjnI',hj0,wj,hin,<-hx,<-hd,hr];refine callD cm rfl ?_; simp [e0,e1,e2,hi,hiI,hj1,hj1I,hjn,hjnI,hjnI',hj0,wj,hin,<-hx,<-hd,hr];refine ⟨by kernel_rfl,?_⟩;refine WS_ret ?_; simp [e0,e1,e2,hi,hiI,hj1,hj1I,hjn,hjnI,hjnI',hj0,wj,hin,<-hx,<-hd,hr];exact ⟨H.d.symm,H.m.symm,(H.row i hi).symm⟩
set_option maxHeartbeats 4000000 in
theorem lfalls {h:Nat->HC} {n i Gd Gm:Nat} {γ:Nat->Nat} {D:Nat->Int} {M:Nat->Nat->Int} (H:NumH h Gd Gm n γ D M) (hi:i<n) (hi0:0<i) (hn:n<=64) (hM:zlen (M i (i-1))<=2^20) (hD0:zlen (D (i-1))<=2^20) (hD1:zlen (D i)<=2^20) (hD2:zlen (D (i+1))<=2^20):
 FrR Tryz.prog f_lattice_numbers_falls h [1000,1001,i+20+1000] [numA Gd Gm n,.p (.i .i64 (i:Int))] [.p (.b (decide (4*(D (i+1)*D (i-1)+M i (i-1)*M i (i-1))<3*(D i*D i))))]:=by
 refine frM_at Tryz.func99 ok_lattice_numbers_falls (by simp) (by simp) (by simp) λh2 hh=>?_;have e0:h2 1000=_:=(hh _ (by simp)).trans H.d;have e1:h2 1001=_:=(hh _ (by simp)).trans H.m;have e2:h2 (i+20+1000)=_:=(hh _ (by simp)).trans (H.row i hi);obtain ⟨j,rfl⟩:∃ j,i=j+1:=⟨i-1,by omega⟩;rw [Nat.add_sub_cancel] at hM hD0 ⊢;have hin:j+1<(rowsT n γ).length:=by simp [hi]
 have b1:j<n+1:=by omega
 have b2:j+1<n+1:=by omega
 have b3:j+1+1<n+1:=by omega
 have b4:j<j+1+1:=by omega
 have b1I:(j:Int)<(n:Int)+1:=by omega
 have b2I:((j+1:Nat):Int)<(n:Int)+1:=by omega
 have b2J:(j:Int)+1<(n:Int)+1:=by omega
 have b3I:((j+1+1:Nat):Int)<(n:Int)+1:=by omega
 have b3J:(j:Int)+1+1<(n:Int)+1:=by omega
 have b4I:(j:Int)<(j:Int)+1+1:=by omega
 have b5I:(j:Int)+1<(n:Int):=by omega
 have p1:(0:Int)<=(j:Int)+1:=by omega
 have p2:(0:Int)<=(j:Int)+1+1:=by omega
 have t1:((j:Int)+1).toNat=j+1:=by omega
 have t2:((j:Int)+1+1).toNat=j+1+1:=by omega
 have wp:=i64_succ (j+1) (by omega);have wm:=i64_nat j (by omega);have wp':IntKind.i64.wrap ((j:Int)+1+1)=((j+1+1:Nat):Int):=wp;obtain ⟨x,hx⟩:∃ x,x=M (j+1) j:=⟨_,rfl⟩;obtain ⟨d0,hd0⟩:∃ x,x=D j:=⟨_,rfl⟩;obtain ⟨d1,hd1⟩:∃ x,x=D (j+1):=⟨_,rfl⟩;obtain ⟨d2,hd2⟩:∃ x,x=D (j+1+1):=⟨_,rfl⟩;rw [<- hx] at hM ⊢;rw [<- hd0] at hD0 ⊢;rw [<- hd1] at hD1 ⊢;rw [<- hd2] at hD2 ⊢;have m1:=zmul (isZ_of hD2) (isZ_of hD0) (by omega);have l1:=zlen_mul d2 d0;have m2:=zmul (isZ_of hM) (isZ_of hM) (by omega);have l2:=zlen_mul x x;have ad:=zadd (isZ_of (x:=d2*d0) (k:=2^22) (by omega)) (isZ_of (x:=x*x) (k:=2^22) (by omega)) (by omega);have l3:=zlen_add (d2*d0) (x*x);have m5:=zmul (isZ_of hD1) (isZ_of hD1) (by omega);have l5:=zlen_mul d1 d1;obtain ⟨z1,hz1⟩:∃ z,z=d2*d0:=⟨_,rfl⟩;obtain ⟨z2,hz2⟩:∃ z,z=x*x:=⟨_,rfl⟩;rw [<- hz1,<-hz2] at ad l3 ⊢;rw [<- hz1] at m1 l1;rw [<- hz2] at m2 l2;obtain ⟨z3,hz3⟩:∃ z,z=z1+z2:=⟨_,rfl⟩;obtain ⟨z5,hz5⟩:∃ z,z=d1*d1:=⟨_,rfl⟩;rw [<- hz3] at ad l3 ⊢;rw [<- hz5] at m5 l5 ⊢;have o4:=zof 4 (by omega) (by omega);have o3:=zof 3 (by omega) (by omega);have l4:zlen 4<=1:=zlen_small (by decide);have l0:zlen 3<=1:=zlen_small (by decide);have m4:=zmul (isZ_of (x:=4) (k:=2^24) (by omega)) (isZ_of (x:=z3) (k:=2^24) (by omega)) (by omega);have l6:=zlen_mul 4 z3;have m6:=zmul (isZ_of (x:=3) (k:=2^24) (by omega)) (isZ_of (x:=z5) (k:=2^24) (by omega)) (by omega);have l7:=zlen_mul 3 z5;have cm:=zcmp (isZ_of (x:=4*z3) (k:=2^25) (by omega)) (isZ_of (x:=3*z5) (k:=2^25) (by omega)) (by omega);obtain ⟨u,hu⟩:∃ z,z=4*z3:=⟨_,rfl⟩;obtain ⟨v,hv⟩:∃ z,z=3*z5:=⟨_,rfl⟩;rw [<- hu,<-hv] at cm ⊢;rw [<- hu] at m4;rw [<- hv] at m6;have hr:decide ((u-v).sign<0)=decide (u<v):=decide_eq_decide.2 (by rw [sgn_lt]; omega);obtain ⟨f4,h4⟩:∃ z:Int,z=4:=⟨_,rfl⟩;obtain ⟨f3,h3⟩:∃ z:Int,z=3:=⟨_,rfl⟩;rw [<- h4] at m4;rw [<- h3] at m6;have o4':Spec Tryz.prog f_zint_Of [.i .i64 4] (· =[.pure (Z f4)]):=by rw [h4]; exact o4
 have o3':Spec Tryz.prog f_zint_Of [.i .i64 3] (· =[.pure (Z f3)]):=by rw [h3]; exact o3
 have r0:=H.d.symm;have r1:=H.m.symm;have r2:=(H.row (j+1) hi).symm;clear H hh;unfold sc_lattice_numbers_falls;refine Wr ?_; simp [e0,e1,e2,hin,hi,b1,b2,b3,b4,b1I,b2I,b2J,b3I,b3J,b4I,b5I,p1,p2,t1,t2,wp,wp',wm,<-hx,<-hd0,<-hd1,<-hd2,hr];refine Wr ?_; simp [e0,e1,e2,hin,hi,b1,b2,b3,b4,b1I,b2I,b2J,b3I,b3J,b4I,b5I,p1,p2,t1,t2,wp,wp',wm,<-hx,<-hd0,<-hd1,<-hd2,hr];refine WS_seq (WS_regD [] ?_); simp [e0,e1,e2,hin,hi,b1,b2,b3,b4,b1I,b2I,b2J,b3I,b3J,b4I,b5I,p1,p2,t1,t2,wp,wp',wm,<-hx,<-hd0,<-hd1,<-hd2,hr];refine callD m1 rfl ?_; simp [e0,e1,e2,hin,hi,b1,b2,b3,b4,b1I,b2I,b2J,b3I,b3J,b4I,b5I,p1,p2,t1,t2,wp,wp',wm,<-hx,<-hd0,<-hd1,<-hd2,hr];refine callD m2 rfl ?_; simp [e0,e1,e2,hin,hi,b1,b2,b3,b4,b1I,b2I,b2J,b3I,b3J,b4I,b5I,p1,p2,t1,t2,wp,wp',wm,<-hx,<-hd0,<-hd1,<-hd2,hr];refine callD ad rfl ?_; simp [e0,e1,e2,hin,hi,b1,b2,b3,b4,b1I,b2I,b2J,b3I,b3J,b4I,b5I,p1,p2,t1,t2,wp,wp',wm,<-hx,<-hd0,<-hd1,<-hd2,hr];refine ⟨by kernel_rfl,?_⟩;refine WS_seq (WS_regD [] ?_); simp [e0,e1,e2,hin,hi,b1,b2,b3,b4,b1I,b2I,b2J,b3I,b3J,b4I,b5I,p1,p2,t1,t2,wp,wp',wm,<-hx,<-hd0,<-hd1,<-hd2,hr];refine callD o4' rfl ?_; simp [e0,e1,e2,hin,hi,b1,b2,b3,b4,b1I,b2I,b2J,b3I,b3J,b4I,b5I,p1,p2,t1,t2,wp,wp',wm,<-hx,<-hd0,<-hd1,<-hd2,hr];refine callD m4 rfl ?_; simp [e0,e1,e2,hin,hi,b1,b2,b3,b4,b1I,b2I,b2J,b3I,b3J,b4I,b5I,p1,p2,t1,t2,wp,wp',wm,<-hx,<-hd0,<-hd1,<-hd2,hr];refine callD o3' rfl ?_; simp [e0,e1,e2,hin,hi,b1,b2,b3,b4,b1I,b2I,b2J,b3I,b3J,b4I,b5I,p1,p2,t1,t2,wp,wp',wm,<-hx,<-hd0,<-hd1,<-hd2,hr];refine callD m5 rfl ?_; simp [e0,e1,e2,hin,hi,b1,b2,b3,b4,b1I,b2I,b2J,b3I,b3J,b4I,b5I,p1,p2,t1,t2,wp,wp',wm,<-hx,<-hd0,<-hd1,<-hd2,hr];refine callD m6 rfl ?_; simp [e0,e1,e2,hin,hi,b1,b2,b3,b4,b1I,b2I,b2J,b3I,b3J,b4I,b5I,p1,p2,t1,t2,wp,wp',wm,<-hx,<-hd0,<-hd1,<-hd2,hr];refine callD cm rfl ?_; simp [e0,e1,e2,hin,hi,b1,b2,b3,b4,b1I,b2I,b2J,b3I,b3J,b4I,b5I,p1,p2,t1,t2,wp,wp',wm,<-hx,<-hd0,<-hd1,<-hd2,hr];refine ⟨by kernel_rfl,?_⟩;refine WS_ret ?_; simp [e0,e1,e2,hin,hi,b1,b2,b3,b4,b1I,b2I,b2J,b3I,b3J,b4I,b5I,p1,p2,t1,t2,wp,wp',wm,<-hx,<-hd0,<-hd1,<-hd2,hr];exact ⟨by omega,r0,r1,r2⟩
open Go.RowKit (Below)
def St.mv (S:St) (D:Nat->Bool) (r r':Nat):St:=
 ⟨λt=>ren2 r (S.h r).g r' ((S.h r').g+1) (S.σ t),
  λq=>if q=r' then ⟨(S.h r').g+1,(S.h r).o⟩ else if q=r then ⟨(S.h r).g+1,none⟩ else if D q=true then ⟨(S.h q).g,(S.h q).o.map (HObj.ren r (S.h r).g r' ((S.h r').g+1))⟩ else S.h q⟩
theorem ren0_refs {r g r' g' p:Nat} {x:SV} (h:p∈svref (ren0 r g r' g' x)):p∈svref x\/p=r':=by
 cases x with
 | own q k off len=>
  simp only [ren0] at h;split at h
  . simp only [svref,List.mem_singleton] at h; exact .inr h
  . exact .inl h
 | ptr q k j=>
  simp only [ren0] at h;split at h
  . simp only [svref,List.mem_singleton] at h; exact .inr h
  . exact .inl h
 | _=>exact .inl h
theorem ren_refs {r g r' g' p:Nat} {o:HObj} (h:p∈(o.ren r g r' g').refs):p∈o.refs\/p=r':=by
 have key:∀ {xs:List SV},p∈(xs.map (ren0 r g r' g')).flatMap svref->p∈xs.flatMap svref\/p=r':=by
  intro xs h;simp only [List.mem_flatMap,List.mem_map] at h;obtain ⟨_,⟨x,hx,rfl⟩,h⟩:=h;rcases ren0_refs h with e | e
  . exact .inl (List.mem_flatMap.2 ⟨x,hx,e⟩)
  . exact .inr e
 cases o with
 | rows T xs=>exact key h
 | sbox T cs=>exact key h
 | _=>exact .inl h
section
variable {P:Program} {n:Nat} {S:St}
theorem WS_mv {sc:SC} {Q:Exit->St->Prop} (D:Nat->Bool) (r r':Nat) {o0:HObj} (hlive:(S.h r).o=some o0) (hfree:(S.h r').o=none) (hne:r≠r') (hr':1000<=r') (hclo:∀ q∈o0.refs,1000<=q)
 (h:WS P n sc Q (S.mv D r r')):WS P n sc Q S:=by
 refine h.weaken λA w0 a w hR=>?_;obtain ⟨μ,H,rel⟩:=hR.ex
 let h':=(S.mv D r r').h
 let μ':Nat->Value:=upd μ r' (μ r)
 have e1:h' r'=⟨(S.h r').g+1,some o0⟩:=by simp [h',St.mv,hlive]
 have e2:h' r=⟨(S.h r).g+1,none⟩:=by simp [h',St.mv,hne]
 have e3:∀ q,q≠r->q≠r'->h' q=if D q=true then ⟨(S.h q).g,(S.h q).o.map (HObj.ren r (S.h r).g r' ((S.h r').g+1))⟩ else S.h q:=λq h1 h2=>by simp [h',St.mv,h1,h2]
 have hw:∀ q,q≠r->q≠r'->(h' q).g=(S.h q).g/\(h' q).width=(S.h q).width/\((h' q).o≠none->(S.h q).o≠none):=by
  intro q h1 h2;rw [e3 q h1 h2];split
  . refine ⟨rfl,?_,λhh hn=>hh (by simp [hn])⟩;cases ho:(S.h q).o with
    | none=>simp [HC.width,ho]
    | some o=>simp only [HC.width,ho,Option.map_some]; exact ren_width ..
  . exact ⟨rfl,rfl,λhh=>hh⟩
 have hback:∀ q,(h' q).o≠none->(S.h (if q=r' then r else q)).o≠none/\μ' q=μ (if q=r' then r else q)/\q≠r:=by
  intro q hq;by_cases h2:q=r'
  . subst h2;rw [if_pos rfl];exact ⟨by rw [hlive]; simp,upd_same _ _ _,λe=>hne e.symm⟩
  . rw [if_neg h2];by_cases h1:q=r
    . subst h1; rw [e2] at hq; exact absurd rfl hq
    . exact ⟨(hw q h1 h2).2.2 hq,upd_ne _ _ h2,h1⟩
 have hok:∀ b,okOf A w μ S.h b->okOf A w μ' h' b:=λb hb=>⟨hb.1,hb.2.1,λq hq hbl=>by
  obtain ⟨k1,k2,_⟩:=hback q hq;rw [k2] at hbl;exact hb.2.2 _ k1 hbl⟩
 have K:Keeps A w μ S.h w μ' h':=by
  refine ⟨hok,λ_ _ _=>rfl,λq=>?_⟩;by_cases h2:q=r'
  . subst h2; rw [e1]; exact .inl (by simp)
  . by_cases h1:q=r
    . subst h1; rw [e2]; exact .inl (by simp)
    . obtain ⟨k1,k2,_⟩:=hw q h1 h2;exact .inr ⟨k1,k2,upd_ne _ _ h2⟩
 have hwid:(h' r').width=(S.h r).width:=by rw [e1]; simp [HC.width,hlive]
 have r0:∀ {x:SV} {val:Value},RelS w (okOf A w μ S.h) μ S.h x val->RelS w (okOf A w μ' h') μ' h' (ren0 r (S.h r).g r' ((S.h r').g+1) x) val:=by
  intro x val hs;cases x with
  | own q k off len=>
   simp only [ren0];split
   . rename_i hc;obtain ⟨rfl,rfl⟩:=hc;have h1:=own_inv hs rfl;refine .own _ _ _ _ _ (by rw [e1]) ?_;rw [hwid]; simpa [μ'] using h1
   . exact hs.keep K
  | ptr q k j=>
   simp only [ren0];split
   . rename_i hc;obtain ⟨rfl,rfl⟩:=hc;have h1:=ptr_inv hs rfl;refine .ptr _ _ _ _ (by rw [e1]) ?_;rw [hwid]; simpa [μ'] using h1
   . exact hs.keep K
  | _=>exact hs.keep K
 have r1:∀ {x:SV} {val:Value},RelS w (okOf A w μ S.h) μ S.h x val->RelS w (okOf A w μ' h') μ' h' (ren1 r (S.h r).g r' ((S.h r').g+1) x) val:=by
  intro x val hs;cases x with
  | agg cs=>
   cases hs with
   | agg _ vals hlen hone hrel=>exact .agg _ vals (by simpa using hlen) hone λj hj=>by simpa using r0 (hrel j (by simpa using hj))
  | _=>exact r0 hs
 have r2:∀ {x:SV} {val:Value},RelS w (okOf A w μ S.h) μ S.h x val->RelS w (okOf A w μ' h') μ' h' (ren2 r (S.h r).g r' ((S.h r').g+1) x) val:=by
  intro x val hs;cases x with
  | tup vs=>
   cases hs with
   | tup _ vals hlen hrel=>exact .tup _ vals (by simpa using hlen) λj hj=>by simpa using r1 (hrel j (by simpa using hj))
  | _=>exact r1 hs
 have hcells:∀ {xs:List SV} {flat:List Value},RelCells w (okOf A w μ S.h) μ S.h xs flat->RelCells w (okOf A w μ' h') μ' h' (xs.map (ren0 r (S.h r).g r' ((S.h r').g+1))) flat:=λhc=>
  ⟨by simpa using hc.1,λj hj=>⟨by simpa using r0 (hc.2 j (by simpa using hj)).1,(hc.2 j (by simpa using hj)).2⟩⟩
 refine ⟨⟨μ',⟨λq o ho=>?_,λq1 q2 b h1 h2 b1 b2=>?_,λq g wd v hv=>?_,λq o ho hq=>?_⟩,λt=>r2 (rel t)⟩,hR.below,hR.size,hR.defers,hR.new⟩
 . by_cases h2:q=r'
   . subst h2;rw [show (S.mv D r q).h q=h' q from rfl,e1] at ho;simp only [Option.some.injEq] at ho; subst ho;have:=(H.obj r _ hlive).keep K (λ_ _=>rfl)
     simpa [μ'] using this
   . have h1:q≠r:=λe=>by subst e; rw [show (S.mv D q r').h q=h' q from rfl,e2] at ho; cases ho
     rw [show (S.mv D r r').h q=h' q from rfl,e3 q h1 h2] at ho;have hμq:μ' q=μ q:=upd_ne _ _ h2;rw [hμq];split at ho
     . cases hoq:(S.h q).o with
       | none=>rw [hoq] at ho; cases ho
       | some oq=>
        rw [hoq] at ho;simp only [Option.map_some,Option.some.injEq] at ho; subst ho;have hx:=H.obj q oq hoq;cases oq with
        | box T cs=>exact hx.keep K (λ_ _=>rfl)
        | arr T sz xs=>exact hx.keep K (λ_ _=>rfl)
        | sbox T cs=>
         obtain ⟨g,cells,k1,k2,k3,k4⟩:=hx;exact ⟨g,cells,k1,k2,k3,hcells k4⟩
        | rows T xs=>
         obtain ⟨flat,k1,k2⟩:=hx;exact ⟨flat,by simpa using k1,hcells k2⟩
     . exact (H.obj q o ho).keep K (λ_ _=>rfl)
 . obtain ⟨k1,k2,k3⟩:=hback q1 h1;obtain ⟨l1,l2,l3⟩:=hback q2 h2;rw [k2] at b1;rw [l2] at b2;have:=H.inj _ _ b k1 l1 b1 b2;by_cases c1:q1=r'<;>by_cases c2:q2=r'
   . rw [c1,c2]
   . rw [if_pos c1,if_neg c2] at this; exact absurd this.symm l3
   . rw [if_neg c1,if_pos c2] at this; exact absurd this k3
   . rw [if_neg c1,if_neg c2] at this; exact this
 . show g<(h' q).g\/((h' q).g=g/\(h' q).width=wd/\μ' q=v);by_cases h2:q=r'
   . subst h2;rw [e1];rcases H.giv q g wd v hv with k | ⟨k,_⟩
     . exact .inl (by simp only; omega)
     . exact .inl (by simp only; omega)
   . by_cases h1:q=r
     . subst h1;rw [e2];rcases H.giv q g wd v hv with k | ⟨k,_⟩
       . exact .inl (by simp only; omega)
       . exact .inl (by simp only; omega)
     . obtain ⟨k1,k2,_⟩:=hw q h1 h2;rw [k1,k2,show μ' q=μ q from upd_ne _ _ h2];exact H.giv q g wd v hv
 . by_cases h2:q=r'
   . subst h2;rw [show (S.mv D r q).h q=h' q from rfl,e1] at ho;simp only [Option.some.injEq] at ho; subst ho;exact hclo
   . have h1:q≠r:=λe=>by subst e; rw [show (S.mv D q r').h q=h' q from rfl,e2] at ho; cases ho
     rw [show (S.mv D r r').h q=h' q from rfl,e3 q h1 h2] at ho;split at ho
     . cases hoq:(S.h q).o with
       | none=>rw [hoq] at ho; cases ho
       | some oq=>
        rw [hoq] at ho;simp only [Option.map_some,Option.some.injEq] at ho; subst ho;intro p hp;rcases ren_refs hp with e | e
        . exact H.clo q oq hoq hq p e
        . rw [e]; exact hr'
     . exact H.clo q o ho hq
end
theorem FrM.mono {P:Program} {f:FuncId} {h:Nat->HC} {fp:List Nat} {args:List SV} {R R':(Nat->HC)->List SV->Prop} (H:FrM P f h fp args R) (hr:∀ g svs,R g svs->R' g svs):FrM P f h fp args R':=by
 intro h2 hh A w0 w μ vals a b c d e;refine (H h2 hh A w0 w μ vals a b c d e).mono ?_;rintro e w' ⟨h',svs,vs,μ',⟨δ,⟨g,e1,e2⟩,e3,e4⟩,rest⟩;exact ⟨h',svs,vs,μ',⟨δ,⟨g,e1,hr _ _ e2⟩,e3,e4⟩,rest⟩
def FrU (P:Program) (f:FuncId) (h:Nat->HC) (fp:List Nat) (args:List SV) (q:Nat) (o:HObj) (r:Nat->List SV):Prop:=
 FrM P f h fp args λg svs=>∃ G,svs=r G/\g q=⟨G,some o⟩/\∀ p∈fp,p≠q->g p=h p
theorem mcallUD {P:Program} {S:St} {f:FuncId} {args:List SV} {K:St->List Ent->Prop} {dst:Option Nat} {i:Nat} {fp:List Nat} {q:Nat} {o:HObj} {r:Nat->List SV} (h:FrU P f S.h fp args q o r) (hq:q∈fp) (hfp:∀ x∈args,∀ p∈svref x,p∈fp)
 (k:∀ G,K ((⟨S.σ,upd S.h q ⟨G,some o⟩⟩:St).put dst (packSV (r G))) (callEnt i++fp.map λr=>(i,r,true))):HCallD P i f args K S dst:=by
 refine mcallD fp h hfp ⟨upd S.h q ⟨0,some o⟩,r 0,0,rfl,upd_same _ _ _,λp _ hp=>upd_ne _ _ hp⟩ ?_;rintro H g svs h1 h2 ⟨G,rfl,h3,h4⟩;have:H=upd S.h q ⟨G,some o⟩:=funext λp=>by
  rw [upd_apply];by_cases e:p=q
  . subst e; rw [if_pos rfl,h2 p hq,h3]
  . rw [if_neg e];by_cases hp:p∈fp
    . rw [h2 p hp,h4 p hp e]
    . exact h1 p hp
 rw [this]; exact k G
theorem isP_rowZ {k w:Nat} {f:Nat->Int} (h:∀ j,j<w->zlen (f j)<=k):IsP k (rowZ w f) ((List.range w).map f):=by
 refine ⟨by simp [rowZ],λi hi=>?_⟩;have hi':i<w:=by simpa [rowZ] using hi
 rw [cf_lt (by simpa using hi')];simp only [rowZ,List.getElem_map,List.getElem_range];exact isZ_of (h i hi')
theorem cf_rowZ {w i:Nat} {f:Nat->Int} (h:i<w):cf ((List.range w).map f) i=f i:=by rw [cf_lt (by simpa using h)]; simp
theorem takeV_rowZ {w v:Nat} {f g:Nat->Int} {x:Int}:takeV (rowZ w f) ((List.range w).map f) ((List.range v).map g) x=rowZ w λk=>if k<v then f k-x*g k else f k:=by
 rw [takeV,rowZ_length];refine List.map_congr_left λk hk=>?_;have hk':k<w:=by simpa using hk
 rw [List.length_map,List.length_range,cf_rowZ hk'];by_cases h:k<v
 . simp only [if_pos h,cf_rowZ h]
 . simp [h,rowZ,hk']
theorem WS_replace {P:Program} {m:Nat} {S:St} {sc:SC} {Q:Exit->St->Prop} (c r q:Nat) {o0:HObj} (hq:(S.h q).o=some o0) (hne:r≠q) (hr:1000<=r) (hcr:c≠r) (hcq:c≠q) (hclo:∀ p∈o0.refs,1000<=p)
 (k:∀ (S':St) (G':Nat),(∀ t,S'.σ t=ren2 q (S.h q).g r G' (S.σ t))->S'.h r=⟨G',some o0⟩->(S'.h q).o=none->S'.h c=⟨(S.h c).g,(S.h c).o.map (HObj.ren q (S.h q).g r G')⟩->(∀ p,p≠r->p≠q->p≠c->S'.h p=S.h p)->WS P m sc Q S'):WS P m sc Q S:=by
 have hqr:¬ q=r:=λe=>hne e.symm;have e1:dropH (λx=>decide (x=r)) S.h q=S.h q:=by simp [dropH,hqr]
 have e2:dropH (λx=>decide (x=r)) S.h r=⟨(S.h r).g+1,none⟩:=by simp [dropH]
 refine WS_drop (λx=>decide (x=r)) ?_;refine WS_mv (λx=>decide (x=c)) q r (o0:=o0) (by show (dropH _ S.h q).o=_; rw [e1]; exact hq) (by show (dropH _ S.h r).o=_; rw [e2]) hqr hr hclo ?_;refine k _ ((S.h r).g+1+1) (λt=>?_) ?_ ?_ ?_ λp h1 h2 h3=>?_
 . show ren2 q (dropH _ S.h q).g r ((dropH _ S.h r).g+1) (S.σ t)=_;rw [e1,e2]
 . simp only [St.mv,e1,e2,if_true,hq]
 . simp only [St.mv,if_neg hqr,if_true]
 . have e3:dropH (λx=>decide (x=r)) S.h c=S.h c:=by simp [dropH,hcr]
   simp only [St.mv,if_neg hcr,if_neg hcq,e1,e2,e3,decide_true,if_true]
 . have e3:dropH (λx=>decide (x=r)) S.h p=S.h p:=by simp [dropH,h1]
   simp only [St.mv,if_neg h1,if_neg h2,e3,h3,decide_false,Bool.false_eq_true,if_false]
def rowsR (n w:Nat) (ρ:Nat->Nat):List SV:=(List.range n).map λi=>.own (i+100+1000) (ρ i) 0 w
theorem rowsR_length (n w:Nat) (ρ:Nat->Nat):(rowsR n w ρ).length=n:=by simp [rowsR]
theorem rowsR_at {n w:Nat} {ρ:Nat->Nat} {i:Nat} (h:i<(rowsR n w ρ).length):(rowsR n w ρ)[i]= .own (i+100+1000) (ρ i) 0 w:=by simp [rowsR]
theorem rowsR_set {n w:Nat} {ρ:Nat->Nat} {i G G':Nat}:((rowsR n w ρ).set i (.own 1010 G 0 w)).map (ren0 1010 G (i+100+1000) G')=rowsR n w (upd ρ i G'):=by
 refine List.ext_getElem (by simp [rowsR]) λk h1 h2=>?_;rw [List.getElem_map,List.getElem_set];by_cases e:i=k
 . subst e; simp [rowsR,ren0]
 . rw [if_neg e];have e3:¬ k+100+1000=1010:=by omega
   simp [rowsR,ren0,upd,Ne.symm e,e3]
theorem rowsT_set {n:Nat} {γ:Nat->Nat} {i G G':Nat} (hn:n<=64):((rowsT n γ).set i (.own 1010 G 0 (i+1))).map (ren0 1010 G (i+20+1000) G')=rowsT n (upd γ i G'):=by
 refine List.ext_getElem (by simp [rowsT]) λk h1 h2=>?_;have hk:k<n:=by simpa [rowsT] using h2
 rw [List.getElem_map,List.getElem_set];by_cases e:i=k
 . subst e; simp [rowsT,ren0]
 . rw [if_neg e];have e3:¬ k+20+1000=1010:=by omega
   simp [rowsT,ren0,upd,Ne.symm e,e3]
structure BasH (h:Nat->HC) (Gb Gd Gm Gr n w:Nat) (γ ρ:Nat->Nat) (D:Nat->Int) (M:Nat->Nat->Int) (R:Nat->List V):Prop where
 num:NumH h Gd Gm n γ D M
 box:h 1013=⟨Gb,some (.sbox 103 [.own 1000 Gd 0 (n+1),.own 1001 Gm 0 n,.own 1012 Gr 0 n])⟩
 top:h 1012=⟨Gr,some (.rows 22 (rowsR n w ρ))⟩
 row:∀ a,a<n->h (a+100+1000)=⟨ρ a,some (.arr 28 (some 2) (R a))⟩
 wid:∀ a,a<n->(R a).length=w
 free:(h 1010).o=none
def fpB:List Nat:=(List.range 200).map (· +1000)
theorem fpB_big:∀ q∈fpB,1000<=q:=by
 intro q hq;simp only [fpB,List.mem_map] at hq;obtain ⟨i,_,rfl⟩:=hq;omega
theorem fpB_mem {q:Nat} (h:q<200):q+1000∈fpB:=by
 simp only [fpB,List.mem_map,List.mem_range]; exact ⟨q,h,rfl⟩
theorem NumH.of {h h':Nat->HC} {Gd Gm n:Nat} {γ:Nat->Nat} {D:Nat->Int} {M:Nat->Nat->Int} (H:NumH h Gd Gm n γ D M) (hn:n<=64) (he:∀ q,q<2\/(20<=q/\q<84)->h' (q+1000)=h (q+1000)):NumH h' Gd Gm n γ D M:=
 ⟨(he 0 (by omega)).trans H.d,(he 1 (by omega)).trans H.m,λa ha=>(he (a+20) (by omega)).trans (H.row a ha)⟩
theorem BasH.of {h h':Nat->HC} {Gb Gd Gm Gr n w:Nat} {γ ρ:Nat->Nat} {D:Nat->Int} {M:Nat->Nat->Int} {R:Nat->List V} (H:BasH h Gb Gd Gm Gr n w γ ρ D M R) (hn:n<=64) (he:∀ q,q<200->h' (q+1000)=h (q+1000)):BasH h' Gb Gd Gm Gr n w γ ρ D M R:=
 ⟨H.num.of hn λq hq=>he q (by omega),(he 13 (by omega)).trans H.box,(he 12 (by omega)).trans H.top,λa ha=>(he (a+100) (by omega)).trans (H.row a ha),H.wid,by rw [he 10 (by omega)]; exact H.free⟩
def nrM (M:Nat->Nat->Int) (i j:Nat) (q:Int) (a t:Nat):Int:=if a=i/\t<=j then M i t-q*M j t else M a t
def nrR (R:Nat->List V) (RL:Nat->List Int) (i j:Nat) (q:Int) (a:Nat):List V:=if a=i then takeV (R i) (RL i) (RL j) q else R a
theorem rowZ_nr {w j:Nat} {f g:Nat->Int} {q:Int}:rowZ w (λk=>if k<j+1 then f k-q*g k else f k)=rowZ w λt=>if t<=j then f t-q*g t else f t:=
 rowZ_congr λk _=>by
  by_cases h:k<j+1
  . rw [if_pos h,if_pos (by omega)]
  . rw [if_neg h,if_neg (by omega)]
theorem rowZ_last {w i:Nat} {f:Nat->Int} (hi:i<w):(rowZ w f).set i (.agg [.b (zn (f i)),.sl none (uL (zl (f i)))])=rowZ w f:=by
 rw [<- Z_eq,rowZ_set];exact rowZ_congr λk _=>by
  by_cases h:k=i
  . subst h; rw [if_pos rfl]
  . rw [if_neg h]
theorem rowZ_cut {j:Nat} {f:Nat->Int} {d:Int} (hd:f j=d):(rowZ (j+1) f).take j++[.agg [.b (zn d),.sl none (uL (zl d))]]=rowZ (j+1) f:=by
 have e:(rowZ (j+1) f).take j=rowZ j f:=by
  rw [<- rowZ_snoc,List.take_append_of_le_length (by simp [rowZ])];exact List.take_of_length_le (by simp [rowZ])
 rw [e,<-hd,<-Z_eq,rowZ_snoc]
attribute [local simp] rowsR_length rowsR_at
theorem ltakeOO_u {h:Nat->HC} {k q:Nat} {rA gA:Nat} {rB gB:Nat} {vs ws:List V} {a b:List Int} {x:Int} (hv:IsP k vs a) (hw:IsP k ws b) (hx:zlen x<=k) (hk:k<=2^20) (hn:vs.length<=2^20) (hn2:ws.length<=2^20) (hq:(h (q+1000)).o=none) (hA:h (rA+1000)=⟨gA,some (.arr 28 (some 2) vs)⟩) (hB:h (rB+1000)=⟨gB,some (.arr 28 (some 2) ws)⟩):
 FrU Tryz.prog f_lattice_take h [q+1000,rA+1000,rB+1000] [.own (rA+1000) gA 0 vs.length,.own (rB+1000) gB 0 ws.length,.p (Z x)] (q+1000) (.arr 28 (some 2) (takeV vs a b x)) λG=>[.own (q+1000) G 0 vs.length]:=
 (ltakeOO hv hw hx hk hn hn2 hq hA hB).mono (by
  rintro g svs ⟨G,e1,e2,e3,e4⟩;refine ⟨G,e1,e2,λp hp hne=>?_⟩;simp only [List.mem_cons,List.not_mem_nil,or_false] at hp;rcases hp with rfl | rfl | rfl
  . exact absurd rfl hne
  . rw [e3,hA]
  . rw [e4,hB])
theorem ltakeOP_u {h:Nat->HC} {k q:Nat} {rA gA:Nat} {vs ws:List V} {a b:List Int} {x:Int} (hv:IsP k vs a) (hw:IsP k ws b) (hx:zlen x<=k) (hk:k<=2^20) (hn:vs.length<=2^20) (hn2:ws.length<=2^20) (hq:(h (q+1000)).o=none) (hA:h (rA+1000)=⟨gA,some (.arr 28 (some 2) vs)⟩):
 FrU Tryz.prog f_lattice_take h [q+1000,rA+1000] [.own (rA+1000) gA 0 vs.length,.p (.sl (some 2) ws),.p (Z x)] (q+1000) (.arr 28 (some 2) (takeV vs a b x)) λG=>[.own (q+1000) G 0 vs.length]:=
 (ltakeOP hv hw hx hk hn hn2 hq hA).mono (by
  rintro g svs ⟨G,e1,e2,e3⟩;refine ⟨G,e1,e2,λp hp hne=>?_⟩;simp only [List.mem_cons,List.not_mem_nil,or_false] at hp;rcases hp with rfl | rfl
  . exact absurd rfl hne
  . rw [e3,hA])
set_option maxHeartbeats 4000000 in
theorem lnear {h:Nat->HC} {Gb Gd Gm Gr n w i j K:Nat} {γ ρ:Nat->Nat} {D:Nat->Int} {M:Nat->Nat->Int} {R:Nat->List V} {RL:Nat->List Int} (H:BasH h Gb Gd Gm Gr n w γ ρ D M R) (hi:i<n) (hj:j<i) (hn:n<=64) (hw:w<=64)
 (hR:∀ a,a<n->IsP K (R a) (RL a)) (hK:K<=2^18) (hM:∀ t,t<=i->zlen (M i t)<=2^18) (hMj:∀ t,t<=j->zlen (M j t)<=2^18) (hD:zlen (D (j+1))<=2^18) (hD0:0<D (j+1)) (hdg:M j j=D (j+1)) (c:Bool) (hc:c=decide (D (j+1)<((M i j+M i j).natAbs:Int)))
 (q:Int) (hq:q=(M i j+M i j+D (j+1)) / (D (j+1)+D (j+1))):
 FrM Tryz.prog f_lattice_basis_near h fpB [.ptr 1013 Gb 0,.p (.i .i64 (i:Int)),.p (.i .i64 (j:Int))] (λg svs=>svs=[]/\∃ γ' ρ',BasH g Gb Gd Gm Gr n w γ' ρ' D (if c then nrM M i j q else M) (if c then nrR R RL i j q else R)):=by
 refine frM_at Tryz.func98 ok_lattice_basis_near (by simp) (by simp) fpB_big λh2 hh=>?_;have H2:BasH h2 Gb Gd Gm Gr n w γ ρ D M R:=H.of hn λq hq=>hh _ (fpB_mem hq);have eb:=H2.box;have et:=H2.top;have ed:=H2.num.d;have em:=H2.num.m;have ei:=H2.num.row i hi;have ej:=H2.num.row j (by omega);have ri:=H2.row i hi;have rj:=H2.row j (by omega);have e70:=H2.free;have wi:=H2.wid i hi;have wj:=H2.wid j (by omega);have far:=λ(g:Nat->HC) (hg:∀ q,q<2\/(20<=q/\q<84)->g (q+1000)=h2 (q+1000))=>lfar (H2.num.of hn hg) hi (show j<=i by omega) hn (Nat.le_trans (hM j (by omega)) (by omega)) (Nat.le_trans hD (by omega));rw [<- hc] at far;have iT:i<(rowsT n γ).length:=by simp [hi]
 have jT:j<(rowsT n γ).length:=by simp; omega
 have iR:i<(rowsR n w ρ).length:=by simp [hi]
 have jR:j<(rowsR n w ρ).length:=by simp; omega
 have hjn:j<n:=by omega
 have iI:(i:Int)<(n:Int):=by omega
 have jI:(j:Int)<(n:Int):=by omega
 have ji1:j<i+1:=by omega
 have ji1I:(j:Int)<(i:Int)+1:=by omega
 have jn1:j+1<n+1:=by omega
 have jn1I:((j+1:Nat):Int)<(n:Int)+1:=by omega
 have jn1J:(j:Int)+1<(n:Int)+1:=by omega
 have j0:(0:Int)<=(j:Int)+1:=by omega
 have wj1:=i64_succ j (by omega);obtain ⟨x,hx⟩:∃ x,x=M i j:=⟨_,rfl⟩;obtain ⟨d,hd⟩:∃ x,x=D (j+1):=⟨_,rfl⟩;have lx:=hM j (by omega);rw [<- hx] at lx hc hq;rw [<- hd] at hD hD0 hc hq hdg;have s1:=zadd (isZ_of lx) (isZ_of lx) (by omega);have k1:=zlen_add x x;have s3:=zadd (isZ_of hD) (isZ_of hD) (by omega);have k3:=zlen_add d d;obtain ⟨y1,hy1⟩:∃ z,z=x+x:=⟨_,rfl⟩;rw [<- hy1] at s1 k1 hc hq;have s2:=zadd (isZ_of (x:=y1) (k:=2^19) (by omega)) (isZ_of (x:=d) (k:=2^19) (by omega)) (by omega);have k2:=zlen_add y1 d;obtain ⟨y2,hy2⟩:∃ z,z=y1+d:=⟨_,rfl⟩;obtain ⟨y3,hy3⟩:∃ z,z=d+d:=⟨_,rfl⟩;rw [<- hy2] at s2 k2 hq;rw [<- hy3] at s3 k3 hq;have dv:=zdiv (isZ_of (x:=y2) (k:=2^20) (by omega)) (isZ_of (x:=y3) (k:=2^20) (by omega)) (by omega) (by omega);have kq:=zlen_ediv y2 y3;rw [<- hq] at dv kq;obtain ⟨r,hr⟩:∃ z,z=y2%y3:=⟨_,rfl⟩;rw [<- hr] at dv;have lq:zlen q<=2^20:=by omega
 clear hy1 hy2 hy3 hr;unfold sc_lattice_basis_near;cases c with
 | false=>
  refine Ws ?_; simp [eb];refine mcallR (far _ λq _=>by simp) (by simp [numA,svref1]) ?_;simp [eb];refine WS_cT (by simp [eb]) ?_;refine WS_ret ?_; simp [eb];exact ⟨γ,ρ,H2.of hn λq _=>by simp⟩
 | true=>
  refine Ws ?_; simp [eb,ed,em,ei,iT,jT,hi,hjn,iI,jI,ji1,ji1I,jn1,jn1I,jn1J,j0,wj1,<-hx,<-hd];refine mcallR (far _ λq _=>by simp) (by simp [numA,svref1]) ?_;simp [eb,ed,em,ei,iT,jT,hi,hjn,iI,jI,ji1,ji1I,jn1,jn1I,jn1J,j0,wj1,<-hx,<-hd];refine WS_cF (by simp [eb,ed,em,ei,iT,jT,hi,hjn,iI,jI,ji1,ji1I,jn1,jn1I,jn1J,j0,wj1,<-hx,<-hd]) ?_;refine WS_skip ?_; simp [eb,ed,em,ei,iT,jT,hi,hjn,iI,jI,ji1,ji1I,jn1,jn1I,jn1J,j0,wj1,<-hx,<-hd];refine WS_seq (WS_regD [] ?_); simp [eb,ed,em,ei,iT,jT,hi,hjn,iI,jI,ji1,ji1I,jn1,jn1I,jn1J,j0,wj1,<-hx,<-hd];refine ⟨by kernel_rfl,?_⟩;refine WS_seq (WS_regD [] ?_); simp [eb,ed,em,ei,iT,jT,hi,hjn,iI,jI,ji1,ji1I,jn1,jn1I,jn1J,j0,wj1,<-hx,<-hd];refine callD s1 rfl ?_; simp [eb,ed,em,ei,iT,jT,hi,hjn,iI,jI,ji1,ji1I,jn1,jn1I,jn1J,j0,wj1,<-hx,<-hd];refine callD s2 rfl ?_; simp [eb,ed,em,ei,iT,jT,hi,hjn,iI,jI,ji1,ji1I,jn1,jn1I,jn1J,j0,wj1,<-hx,<-hd];refine callD s3 rfl ?_; simp [eb,ed,em,ei,iT,jT,hi,hjn,iI,jI,ji1,ji1I,jn1,jn1I,jn1J,j0,wj1,<-hx,<-hd];refine callD dv rfl ?_; simp [eb,ed,em,ei,iT,jT,hi,hjn,iI,jI,ji1,ji1I,jn1,jn1I,jn1J,j0,wj1,<-hx,<-hd];refine ⟨by kernel_rfl,?_⟩;refine WS_abs (λS=>S.σ 0= .ptr 1013 Gb 0/\S.σ 1= .p (.i .i64 (i:Int))/\S.σ 2= .p (.i .i64 (j:Int))/\S.σ 7= .ptr 7 1 0/\S.h 7=⟨1,some (.box 28 [.b (zn d),.sl none (uL (zl d))])⟩/\S.σ 8= .ptr 8 1 0/\S.h 8=⟨1,some (.box 28 [.b (zn q),.sl none (uL (zl q))])⟩/\∀ p,S.h (p+1000)=h2 (p+1000)) ?_ ?_
  . simp
  clear s1 s2 s3 dv far hc hq k1 k2 k3 kq hx lx eb et ed em ei ej ri rj;rintro S ⟨t0,t1,t2,t7,h7,t8,h8,hoth⟩;have H3:BasH S.h Gb Gd Gm Gr n w γ ρ D M R:=H2.of hn λq _=>hoth q;have eb:=H3.box;have et:=H3.top;have ri:=H3.row i hi;have rj:=H3.row j (by omega);have tk:=λ(g:Nat->HC) (h70:(g (10+1000)).o=none) (hi':g (i+100+1000)=⟨ρ i,some (.arr 28 (some 2) (R i))⟩) (hj':g (j+100+1000)=⟨ρ j,some (.arr 28 (some 2) (R j))⟩)=>ltakeOO_u (q:=10) ((hR i hi).mono (show K<=2^20 by omega)) ((hR j (by omega)).mono (show K<=2^20 by omega)) lq (by omega) (by omega) (by omega) h70 hi' hj';rw [wi,wj,Z_eq] at tk;refine WS_seq (WS_regD [] ?_); simp [t0,t1,t2,t7,h7,t8,h8,eb,et,ri,rj,iR,jR,hi,hjn,iI,jI];refine mcallUD (tk _ (by simp [H3.free]) (by simp [ri]) (by simp [rj])) (by simp) (by simp) (λG=>?_);simp [t0,t1,t2,t7,h7,t8,h8,eb,et,ri,rj,iR,jR,hi,hjn,iI,jI];refine ⟨by kernel_rfl,?_⟩;obtain ⟨T,hT⟩:∃ T,T=takeV (R i) (RL i) (RL j) q:=⟨_,rfl⟩;have lT:T.length=w:=by rw [hT,takeV_length,wi]
  rw [<- hT];refine WS_abs (λS=>S.σ 0= .ptr 1013 Gb 0/\S.σ 1= .p (.i .i64 (i:Int))/\S.σ 2= .p (.i .i64 (j:Int))/\S.σ 7= .ptr 7 1 0/\S.h 7=⟨1,some (.box 28 [.b (zn d),.sl none (uL (zl d))])⟩/\S.σ 8= .ptr 8 1 0/\S.h 8=⟨1,some (.box 28 [.b (zn q),.sl none (uL (zl q))])⟩/\
   S.h 1010=⟨G,some (.arr 28 (some 2) T)⟩/\S.h 1012=⟨Gr,some (.rows 22 ((rowsR n w ρ).set i (.own 1010 G 0 w)))⟩/\∀ p,p≠10->p≠12->S.h (p+1000)=h2 (p+1000)) ?_ ?_
  . refine ⟨by simp [t0],by simp [t1],by simp [t2],by simp [t7],by simp [h7],by simp [t8],by simp [h8],by simp,by simp,λp h1 h2=>?_⟩;have e1:¬ p+1000=1010:=by omega
    have e2:¬ p+1000=1012:=by omega
    simp [e1,e2,hoth]
  clear t0 t1 t2 t7 h7 t8 h8 hoth H3 eb et ri rj tk S;rintro S ⟨t0,t1,t2,t7,h7,t8,h8,h70,h72,hoth⟩;refine WS_replace 1012 (i+100+1000) 1010 (by rw [h70]) (by omega) (by omega) (by omega) (by omega) (by simp [HObj.refs]) ?_;intro S' G' hσ hr1 hq1 hc1 hp;rw [h70] at hσ hc1;rw [h72] at hc1;simp only [Option.map_some,HObj.ren,rowsR_set] at hσ hc1;have gp:∀ p,p≠10->p≠12->p≠i+100->S'.h (p+1000)=h2 (p+1000):=λp h1 h2 h3=>by rw [hp _ (by omega) (by omega) (by omega),hoth p h1 h2]
  have H3:BasH S'.h Gb Gd Gm Gr n w γ (upd ρ i G') D M (nrR R RL i j q):=by
   refine ⟨H2.num.of hn λq hq=>gp q (by omega) (by omega) (by omega),?_,hc1,λa ha=>?_,λa ha=>?_,hq1⟩
   . rw [gp 13 (by omega) (by omega) (by omega),H2.box]
   . by_cases e:a=i
     . subst e; rw [hr1,nrR,if_pos rfl,upd_same,hT]
     . rw [gp (a+100) (by omega) (by omega) (by omega),H2.row a ha,nrR,if_neg e,upd_ne _ _ e]
   . by_cases e:a=i
     . subst e; rw [nrR,if_pos rfl,<-hT,lT]
     . rw [nrR,if_neg e,H2.wid a ha]
  have hF:∀ p,200<=p->S'.h (p+1000)=h2 (p+1000):=λp h=>gp p (by omega) (by omega) (by omega);have x0:S'.σ 0= .ptr 1013 Gb 0:=by rw [hσ,t0]; rfl
  have x1:S'.σ 1= .p (.i .i64 (i:Int)):=by rw [hσ,t1]; rfl
  have x2:S'.σ 2= .p (.i .i64 (j:Int)):=by rw [hσ,t2]; rfl
  have x7:S'.σ 7= .ptr 7 1 0:=by rw [hσ,t7]; rfl
  have x8:S'.σ 8= .ptr 8 1 0:=by rw [hσ,t8]; rfl
  have y7:=(hp 7 (by omega) (by omega) (by omega)).trans h7;have y8:=(hp 8 (by omega) (by omega) (by omega)).trans h8;clear t0 t1 t2 t7 h7 t8 h8 hoth h70 h72 hp gp hc1 hr1 hσ S hq1;obtain ⟨S,rfl⟩:∃ S,S=S':=⟨_,rfl⟩;obtain ⟨R',hR'⟩:∃ r,r=nrR R RL i j q:=⟨_,rfl⟩;obtain ⟨ρ',hρ'⟩:∃ r,r=upd ρ i G':=⟨_,rfl⟩;rw [<- hR',<-hρ'] at H3;simp only [if_true,<-hR'];have eb:=H3.box;have em:=H3.num.m;have ei:=H3.num.row i hi;have ej:=H3.num.row j (by omega);have hcut:=rowZ_cut (j:=j) (f:=M j) hdg;have hcut2:((rowZ (j+1) (M j)).take j).take j++[.agg [.b (zn d),.sl none (uL (zl d))]]=rowZ (j+1) (M j):=by rw [List.take_take,Nat.min_self]; exact hcut
  have b7:j<=140737488355328:=by omega
  have tk:=λ(g:Nat->HC) (h70:(g (10+1000)).o=none) (hi':g (i+20+1000)=⟨γ i,some (.arr 28 (some 2) (rowZ (i+1) (M i)))⟩)=>
   ltakeOP_u (q:=10) ((isP_rowZ (k:=2^18) (w:=i+1) (f:=M i) λt ht=>hM t (by omega)).mono (show 2^18<=2^20 by omega)) ((isP_rowZ (k:=2^18) (w:=j+1) (f:=M j) λt ht=>hMj t (by omega)).mono (show 2^18<=2^20 by omega)) lq (by omega) (by rw [rowZ_length]; omega) (by rw [rowZ_length]; omega) h70 hi'
  rw [takeV_rowZ,rowZ_nr,rowZ_length,Z_eq] at tk;have hlast:=rowZ_last (w:=i+1) (i:=i) (f:=λt=>if t<=j then M i t-q*M j t else M i t) (by omega);have ij:¬ i<=j:=by omega
  simp only [ij,if_false] at hlast;have iM:i<i+1:=by omega
  have iMI:(i:Int)<(i:Int)+1:=by omega
  have mj:min j (j+1)=j:=by omega
  have jj:j<=j+1:=by omega
  have jjI:(j:Int)<=(j:Int)+1:=by omega
  obtain ⟨la,hla⟩:∃ z,z=M i i:=⟨_,rfl⟩;rw [<- hla] at hlast;obtain ⟨b1,b2,b3,b4⟩:=app_bnds (i:=j) (by omega);have b5:j*32<=140737488355328:=app_bnd _ _ _ (by omega) (by omega) (by omega);have b6:(j+1)*32<=140737488355328:=app_bnd _ _ _ (by omega) (by omega) (by omega);refine Wr ?_; simp [x0,x1,x2,x7,y7,x8,y8,eb,em,ei,ej,iT,jT,hi,hjn,iI,jI,iM,iMI,hcut,hcut2,mj,jj,jjI,b1,b2,b3,b4,b5,b6,b7,<-hla];refine WS_seq (WS_regD [100,114] ?_); simp [x0,x1,x2,x7,y7,x8,y8,eb,em,ei,ej,iT,jT,hi,hjn,iI,jI,iM,iMI,hcut,hcut2,mj,jj,jjI,b1,b2,b3,b4,b5,b6,b7,<-hla];refine callXGD ?_;refine mcallUD (tk _ (by simp [H3.free]) (by simp [ei])) (by simp) (by simp) (λG=>?_);simp [x0,x1,x2,x7,y7,x8,y8,eb,em,ei,ej,iT,jT,hi,hjn,iI,jI,iM,iMI,hcut,hcut2,mj,jj,jjI,b1,b2,b3,b4,b5,b6,b7,<-hla];refine ⟨by kernel_rfl,?_⟩;obtain ⟨F,hF'⟩:∃ F:Nat->Int,F=λt=>if t<=j then M i t-q*M j t else M i t:=⟨_,rfl⟩
  rw [<- hF'] at hlast;simp only [<- hF'];refine WS_abs (λS'=>S'.σ 0= .ptr 1013 Gb 0/\S'.σ 1= .p (.i .i64 (i:Int))/\S'.σ 11= .ptr 11 ((S.h 11).g+1) 0/\S'.h 11=⟨(S.h 11).g+1,some (.box 28 [.b (zn la),.sl none (uL (zl la))])⟩/\
   S'.h 1010=⟨G,some (.arr 28 (some 2) (rowZ (i+1) F))⟩/\S'.h 1001=⟨Gm,some (.rows 22 ((rowsT n γ).set i (.own 1010 G 0 (i+1))))⟩/\∀ p,p≠10->p≠1->S'.h (p+1000)=S.h (p+1000)) ?_ ?_
  . refine ⟨by simp [x0],by simp [x1],by simp,by simp,by simp,by simp,λp h1 h2=>?_⟩;have e1:¬ p+1000=1010:=by omega
    have e2:¬ p+1000=1001:=by omega
    have e3:¬ p+1000=11:=by omega
    have e4:¬ p+1000=100:=by omega
    have e5:¬ p+1000=113:=by omega
    simp [e1,e2,e3,e4,e5]
  obtain ⟨g11,h11⟩:∃ g,g=(S.h 11).g+1:=⟨_,rfl⟩;rw [<- h11];clear x0 x1 x2 x7 y7 x8 y8 tk eb em ei ej h11;rintro S1 ⟨t0,t1,t11,k11,h10,h1,hoth⟩;refine WS_replace 1001 (i+20+1000) 1010 (by rw [h10]) (by omega) (by omega) (by omega) (by omega) (by simp [HObj.refs]) ?_;intro S2 G2 hσ hr1 hq1 hc1 hp;rw [h10] at hσ hc1;rw [h1] at hc1;simp only [Option.map_some,HObj.ren,rowsT_set hn] at hσ hc1;have gp:∀ p,p≠10->p≠1->p≠i+20->S2.h (p+1000)=S.h (p+1000):=λp h1 h2 h3=>by rw [hp _ (by omega) (by omega) (by omega),hoth p h1 h2]
  have z0:S2.σ 0= .ptr 1013 Gb 0:=by rw [hσ,t0]; rfl
  have z1:S2.σ 1= .p (.i .i64 (i:Int)):=by rw [hσ,t1]; rfl
  have z11:S2.σ 11= .ptr 11 g11 0:=by rw [hσ,t11]; rfl
  have y11:=(hp 11 (by omega) (by omega) (by omega)).trans k11;have eb:S2.h 1013=_:=(gp 13 (by omega) (by omega) (by omega)).trans H3.box;have iT2:i<(rowsT n (upd γ i G2)).length:=by simp [hi]
  have gi:(upd γ i G2) i=G2:=upd_same _ _ _;refine WS_regD [] ?_; simp [z0,z1,z11,y11,eb,hc1,hr1,iT2,hi,iI,iM,iMI,hlast,gi];refine ⟨by kernel_rfl,?_⟩;have hu:upd S2.h (i+20+1000) ⟨G2,some (.arr 28 (some 2) (rowZ (i+1) F))⟩=S2.h:=funext λp=>by
   rw [upd_apply];by_cases e:p=i+20+1000
   . rw [if_pos e,e,hr1]
   . rw [if_neg e]
  refine ⟨λp hp=>?_,upd γ i G2,ρ',?_⟩
  . have h200:200<=p:=Nat.le_of_not_lt λh=>hp (fpB_mem h);rw [if_neg (by omega),gp p (by omega) (by omega) (by omega),hF p h200]
  . rw [hu];refine ⟨⟨(gp 0 (by omega) (by omega) (by omega)).trans H3.num.d,hc1,λa ha=>?_⟩,eb,(gp 12 (by omega) (by omega) (by omega)).trans H3.top,λa ha=>(gp (a+100) (by omega) (by omega) (by omega)).trans (H3.row a ha),H3.wid,hq1⟩;by_cases e:a=i
    . subst e;rw [hr1,upd_same,rowZ_congr (g:=nrM M a j q a) λt _=>by rw [hF',nrM]; simp]
    . rw [gp (a+20) (by omega) (by omega) (by omega),H3.num.row a ha,upd_ne _ _ e,rowZ_congr (g:=nrM M i j q a) λt _=>by rw [nrM,if_neg (λh=>e h.1)]]
theorem WS_turn {P:Program} {m:Nat} {S:St} {sc:SC} {Q:Exit->St->Prop} (c a b q:Nat) {oa ob:HObj} (ha:(S.h a).o=some oa) (hb:(S.h b).o=some ob) (hq:(S.h q).o=none) (hab:a≠b) (haq:a≠q) (hbq:b≠q) (hca:c≠a) (hcb:c≠b) (hcq:c≠q)
 (h1a:1000<=a) (h1b:1000<=b) (h1q:1000<=q) (cla:∀ p∈oa.refs,1000<=p) (clb:∀ p∈ob.refs,1000<=p)
 (k:∀ (S':St) (G1 G2 G3:Nat),(∀ t,S'.σ t=ren2 q G1 b G3 (ren2 b (S.h b).g a G2 (ren2 a (S.h a).g q G1 (S.σ t))))->S'.h a=⟨G2,some ob⟩->S'.h b=⟨G3,some oa⟩->(S'.h q).o=none->
  S'.h c=⟨(S.h c).g,(((S.h c).o.map (HObj.ren a (S.h a).g q G1)).map (HObj.ren b (S.h b).g a G2)).map (HObj.ren q G1 b G3)⟩->(∀ p,p≠a->p≠b->p≠q->p≠c->S'.h p=S.h p)->WS P m sc Q S'):WS P m sc Q S:=by
 refine WS_mv (λx=>decide (x=c)) a q ha hq haq h1q cla ?_;have e1:(S.mv (λx=>decide (x=c)) a q).h q=⟨(S.h q).g+1,some oa⟩:=by simp only [St.mv,if_true,ha]
 have e2:(S.mv (λx=>decide (x=c)) a q).h a=⟨(S.h a).g+1,none⟩:=by simp only [St.mv,if_neg haq,if_true]
 have e3:(S.mv (λx=>decide (x=c)) a q).h b=S.h b:=by simp only [St.mv,if_neg hbq,if_neg (Ne.symm hab),Ne.symm hcb,decide_false,Bool.false_eq_true,if_false]
 have e4:(S.mv (λx=>decide (x=c)) a q).h c=⟨(S.h c).g,(S.h c).o.map (HObj.ren a (S.h a).g q ((S.h q).g+1))⟩:=by simp only [St.mv,if_neg hcq,if_neg hca,decide_true,if_true]
 have e5:∀ p,p≠a->p≠q->p≠c->(S.mv (λx=>decide (x=c)) a q).h p=S.h p:=λp p1 p2 p3=>by simp only [St.mv,if_neg p1,if_neg p2,p3,decide_false,Bool.false_eq_true,if_false]
 have f1:∀ t,(S.mv (λx=>decide (x=c)) a q).σ t=ren2 a (S.h a).g q ((S.h q).g+1) (S.σ t):=λt=>rfl;obtain ⟨S1,hS1⟩:∃ S1,S1=S.mv (λx=>decide (x=c)) a q:=⟨_,rfl⟩;rw [<- hS1] at e1 e2 e3 e4 ⊢;simp only [<- hS1] at e5 f1;refine WS_mv (λx=>decide (x=c)) b a (o0:=ob) (by rw [e3]; exact hb) (by rw [e2]) (Ne.symm hab) h1a clb ?_;have i1:(S1.mv (λx=>decide (x=c)) b a).h a=⟨(S.h a).g+1+1,some ob⟩:=by simp only [St.mv,if_true,e2,e3,hb]
 have i2:(S1.mv (λx=>decide (x=c)) b a).h b=⟨(S.h b).g+1,none⟩:=by simp only [St.mv,if_neg (Ne.symm hab),if_true,e3]
 have i3:(S1.mv (λx=>decide (x=c)) b a).h q=⟨(S.h q).g+1,some oa⟩:=by simp only [St.mv,if_neg (Ne.symm haq),if_neg (Ne.symm hbq),Ne.symm hcq,decide_false,Bool.false_eq_true,if_false,e1]
 have i4:(S1.mv (λx=>decide (x=c)) b a).h c=⟨(S.h c).g,((S.h c).o.map (HObj.ren a (S.h a).g q ((S.h q).g+1))).map (HObj.ren b (S.h b).g a ((S.h a).g+1+1))⟩:=by simp only [St.mv,if_neg hca,if_neg hcb,decide_true,if_true,e2,e3,e4]
 have i5:∀ p,p≠a->p≠b->p≠q->p≠c->(S1.mv (λx=>decide (x=c)) b a).h p=S.h p:=λp p1 p2 p3 p4=>by simp only [St.mv,if_neg p1,if_neg p2,p4,decide_false,Bool.false_eq_true,if_false,e5 p p1 p3 p4]
 have g1:∀ t,(S1.mv (λx=>decide (x=c)) b a).σ t=ren2 b (S.h b).g a ((S.h a).g+1+1) (ren2 a (S.h a).g q ((S.h q).g+1) (S.σ t)):=λt=>by
  rw [<- f1 t]; simp only [St.mv,e2,e3]
 obtain ⟨S2,hS2⟩:∃ S2,S2=S1.mv (λx=>decide (x=c)) b a:=⟨_,rfl⟩;rw [<- hS2] at i1 i2 i3 i4 ⊢;simp only [<- hS2] at i5 g1;refine WS_mv (λx=>decide (x=c)) q b (o0:=oa) (by rw [i3]) (by rw [i2]) (Ne.symm hbq) h1b cla ?_;refine k _ ((S.h q).g+1) ((S.h a).g+1+1) ((S.h b).g+1+1) (λt=>?_) ?_ ?_ ?_ ?_ λp p1 p2 p3 p4=>?_
 . rw [<- g1 t]; simp only [St.mv,i2,i3]
 . simp only [St.mv,if_neg haq,if_neg hab,Ne.symm hca,decide_false,Bool.false_eq_true,if_false,i1]
 . simp only [St.mv,if_true,i2,i3]
 . simp only [St.mv,if_neg (Ne.symm hbq),if_true]
 . simp only [St.mv,if_neg hcq,if_neg hcb,decide_true,if_true,i2,i3,i4]
 . simp only [St.mv,if_neg p2,if_neg p3,p4,decide_false,Bool.false_eq_true,if_false,i5 p p1 p2 p3 p4]
theorem rowsR_turn {n w e G1 G2 G3:Nat} {ρ:Nat->Nat}:
 ((((((rowsR n w ρ).set e (.own (e+1+100+1000) (ρ (e+1)) 0 w)).set (e+1) (.own (e+100+1000) (ρ e) 0 w)).map (ren0 (e+100+1000) (ρ e) 1010 G1))).map (ren0 (e+1+100+1000) (ρ (e+1)) (e+100+1000) G2)).map (ren0 1010 G1 (e+1+100+1000) G3)=
   rowsR n w (upd (upd ρ e G2) (e+1) G3):=by
 refine List.ext_getElem (by simp [rowsR]) λk h1 h2=>?_;rw [List.getElem_map,List.getElem_map,List.getElem_map,List.getElem_set,List.getElem_set];by_cases e1:e+1=k
 . subst e1;have n1:¬ (e+1=e):=by omega
   simp [rowsR,ren0]
 . by_cases e2:e=k
   . subst e2;have n1:¬ e+1+100+1000=e+100+1000:=by omega
     have n2:¬ e+100+1000=1010:=by omega
     have n3:¬ e+1=e:=by omega
     have n4:¬ e=e+1:=by omega
     simp [rowsR,ren0,n1,n2,n3,n4,upd]
   . have n1:¬ k+100+1000=e+100+1000:=by omega
     have n2:¬ k+100+1000=e+1+100+1000:=by omega
     have n3:¬ k+100+1000=1010:=by omega
     have n4:¬ k=e:=by omega
     have n5:¬ k=e+1:=by omega
     rw [if_neg e1,if_neg e2];simp only [rowsR,List.getElem_map,List.getElem_range,ren0,n1,n2,n3,false_and,if_false];rw [upd_ne _ _ n5,upd_ne _ _ n4]
def swR (R:Nat->List V) (e a:Nat):List V:=R (tr2 e (e+1) a)
def swM1 (M:Nat->Nat->Int) (e a t:Nat):Int:=if a=e then (if t<e then M (e+1) t else M e t) else if a=e+1 then (if t<e then M e t else M (e+1) t) else M a t
theorem rowZ_setA {w k:Nat} {f:Nat->Int} {x:Int}:(rowZ w f).set k (.agg [.b (zn x),.sl none (uL (zl x))])=rowZ w λb=>if b=k then x else f b:=by rw [<- Z_eq,rowZ_set]
def SwI (S:St) (M:Nat->Nat->Int) (γ:Nat->Nat) (e:Nat) (S':St):Prop:=
 ∃ k,k<=e/\S'.σ 42= .p (.i .i64 (k:Int))/\S'.σ 41= .p (.i .i64 (e:Int))/\S'.σ 0=S.σ 0/\S'.σ 1=S.σ 1/\S'.h (e+20+1000)=⟨γ e,some (.arr 28 (some 2) (rowZ (e+1) λt=>if t<k then M (e+1) t else M e t))⟩/\
  S'.h (e+1+20+1000)=⟨γ (e+1),some (.arr 28 (some 2) (rowZ (e+1+1) λt=>if t<k then M e t else M (e+1) t))⟩/\∀ p,p≠e+20->p≠e+1+20->S'.h (p+1000)=S.h (p+1000)
set_option maxHeartbeats 4000000 in
theorem swap_1 {Q:Exit->St->Prop} {S:St} {Gb Gd Gm Gr n w e:Nat} {γ ρ:Nat->Nat} {D:Nat->Int} {M:Nat->Nat->Int} {R:Nat->List V} (H:BasH S.h Gb Gd Gm Gr n w γ ρ D M R) (hi:e+1<n) (hn:n<=64)
 (s0:S.σ 0= .ptr 1013 Gb 0) (s1:S.σ 1= .p (.i .i64 ((e+1:Nat):Int)))
 (hQ:∀ (S':St) ρ',BasH S'.h Gb Gd Gm Gr n w γ ρ' D (swM1 M e) (swR R e)->S'.σ 0= .ptr 1013 Gb 0->S'.σ 1= .p (.i .i64 ((e+1:Nat):Int))->(∀ p,200<=p->S'.h (p+1000)=S.h (p+1000))->WS Tryz.prog 237 sc_lattice_basis_swap.snd.snd Q S'):
 WS Tryz.prog 237 sc_lattice_basis_swap Q S:=by
 have eb:=H.box;have et:=H.top;have iR:e+1<(rowsR n w ρ).length:=by simp [hi]
 have jR:e<(rowsR n w ρ).length:=by simp; omega
 have he:e<n:=by omega
 have eI:(e:Int)<(n:Int):=by omega
 have iI:(e:Int)+1<(n:Int):=by omega
 have iI':((e+1:Nat):Int)<(n:Int):=by omega
 have i0:(0:Int)<=(e:Int)+1:=by omega
 have tn:((e:Int)+1).toNat=e+1:=by omega
 have we:=i64_nat e (by omega);unfold sc_lattice_basis_swap;refine WS_seq (WS_regD [] ?_); simp [s0,s1,eb,et,iR,jR,hi,he,eI,iI,iI',i0,tn,we];refine ⟨by kernel_rfl,?_⟩;refine WS_abs (λS'=>S'.σ 0= .ptr 1013 Gb 0/\S'.σ 1= .p (.i .i64 ((e+1:Nat):Int))/\S'.h 1012=⟨Gr,some (.rows 22 (((rowsR n w ρ).set e (.own (e+1+100+1000) (ρ (e+1)) 0 w)).set (e+1) (.own (e+100+1000) (ρ e) 0 w)))⟩/\∀ p,p≠12->S'.h (p+1000)=S.h (p+1000)) ?_ ?_
 . refine ⟨by simp [s0],by simp [s1],by simp,λp h1=>?_⟩;have e2:¬ p+1000=1012:=by omega
   simp [e2]
 clear eb et iR jR s0 s1;rintro S1 ⟨t0,t1,h12,hoth⟩;have ra:=(hoth (e+100) (by omega)).trans (H.row e he);have rb:=(hoth (e+1+100) (by omega)).trans (H.row (e+1) hi);have r10:(S1.h 1010).o=none:=by rw [show (1010:Nat)=10+1000 from rfl,hoth 10 (by omega)]; exact H.free
 refine WS_turn 1012 (e+100+1000) (e+1+100+1000) 1010 (by rw [ra]) (by rw [rb]) r10 (by omega) (by omega) (by omega) (by omega) (by omega) (by omega) (by omega) (by omega) (by omega) (by simp [HObj.refs]) (by simp [HObj.refs]) ?_;intro S2 G1 G2 G3 hσ ha hb hq hc hp;rw [ra,rb] at hσ hc;rw [h12] at hc;simp only [Option.map_some,HObj.ren,rowsR_turn] at hσ hc;have gp:∀ p,p≠e+100->p≠e+1+100->p≠10->p≠12->S2.h (p+1000)=S.h (p+1000):=λp h1 h2 h3 h4=>by rw [hp _ (by omega) (by omega) (by omega) (by omega),hoth p h4]
 have H2:BasH S2.h Gb Gd Gm Gr n w γ (upd (upd ρ e G2) (e+1) G3) D M (swR R e):=by
  refine ⟨H.num.of hn λq hq=>gp q (by omega) (by omega) (by omega) (by omega),(gp 13 (by omega) (by omega) (by omega) (by omega)).trans H.box,hc,λa ha'=>?_,λa ha'=>?_,hq⟩
  . by_cases e1:a=e
    . subst e1; rw [ha,upd_ne _ _ (by omega),upd_same]; simp [swR,tr2]
    . by_cases e2:a=e+1
      . subst e2; rw [hb,upd_same]; simp [swR,tr2]
      . rw [gp (a+100) (by omega) (by omega) (by omega) (by omega),H.row a ha',upd_ne _ _ e2,upd_ne _ _ e1]; simp [swR,tr2,e1,e2]
  . show (R (tr2 e (e+1) a)).length=w;exact H.wid _ (by unfold tr2; split<;>(try split)<;>omega)
 have hF:∀ p,200<=p->S2.h (p+1000)=S.h (p+1000):=λp h=>gp p (by omega) (by omega) (by omega) (by omega);have x0:S2.σ 0= .ptr 1013 Gb 0:=by
  rw [hσ,t0];have n1:¬ 1013=e+100+1000:=by omega
  have n2:¬ 1013=e+1+100+1000:=by omega
  simp [ren2,ren1,ren0,n1,n2]
 have x1:S2.σ 1= .p (.i .i64 ((e+1:Nat):Int)):=by rw [hσ,t1]; rfl
 obtain ⟨ρ',hρ'⟩:∃ r,r=upd (upd ρ e G2) (e+1) G3:=⟨_,rfl⟩;obtain ⟨R',hR'⟩:∃ r,r=swR R e:=⟨_,rfl⟩;rw [<- hρ',<-hR'] at H2;rw [<- hR'] at hQ;clear hσ ha hb hq hc hp gp ra rb r10 h12 hoth t0 t1 hρ' hR' G1 G2 G3;have eb:=H2.box;have em:=H2.num.m;have mt:e<(rowsT n γ).length:=by simp; omega
 have mt1:e+1<(rowsT n γ).length:=by simp [hi]
 show WS Tryz.prog 237 _ _ S2;refine Ws ?_; simp [x0,x1,we];refine WS_block ?_;refine WS_loop (SwI S2 M γ e) (λS=>e-nM 42 S) ⟨0,by omega,by simp,by simp,by simp,by simp,by simpa using H2.num.row e he,by simpa using H2.num.row (e+1) hi,λp _ _=>by simp⟩ ?_;clear S1;rintro S1 ⟨k,hk,y42,y41,z0,z1,w0,w1,hoth⟩;have y0:=z0.trans x0;have y1:=z1.trans x1;have d42:=nM_eq y42;have eb':S1.h 1013=_:=(hoth 13 (by omega) (by omega)).trans eb;have em':S1.h 1001=_:=(hoth 1 (by omega) (by omega)).trans em;by_cases hke:k<e
 . have kI:(k:Int)<(e:Int):=by omega
   have k1:k<e+1:=by omega
   have k2:k<e+1+1:=by omega
   have k1I:(k:Int)<(e:Int)+1:=by omega
   have k2I:(k:Int)<(e:Int)+1+1:=by omega
   have wk:=i64_succ k (by omega);obtain ⟨F1,hF1⟩:∃ F:Nat->Int,F=λt=>if t<k then M (e+1) t else M e t:=⟨_,rfl⟩
   obtain ⟨F2,hF2⟩:∃ F:Nat->Int,F=λt=>if t<k then M e t else M (e+1) t:=⟨_,rfl⟩
   rw [<- hF1] at w0;rw [<- hF2] at w1;have s1:=rowZ_setA (w:=e+1) (k:=k) (f:=F1) (x:=F2 k);have s2:=rowZ_setA (w:=e+1+1) (k:=k) (f:=F2) (x:=F1 k);refine Wr ?_; simp [y42,y41,y0,y1,eb',em',w0,w1,hke,kI,k1,k2,k1I,k2I,wk,we,mt,mt1,hi,he,eI,iI,iI',i0,tn,s1,s2];refine WS_seq ?_;refine WS_cT (by simp [y42,y41,y0,y1,eb',em',w0,w1,hke,kI,k1,k2,k1I,k2I,wk,we,mt,mt1,hi,he,eI,iI,iI',i0,tn,s1,s2]) ?_;refine WS_skip ?_; simp [y42,y41,y0,y1,eb',em',w0,w1,hke,kI,k1,k2,k1I,k2I,wk,we,mt,mt1,hi,he,eI,iI,iI',i0,tn,s1,s2];refine WS_seq (WS_block (Wr ?_)); simp [y42,y41,y0,y1,eb',em',w0,w1,hke,kI,k1,k2,k1I,k2I,wk,we,mt,mt1,hi,he,eI,iI,iI',i0,tn,s1,s2];refine WS_regD [] ?_; simp [y42,y41,y0,y1,eb',em',w0,w1,hke,kI,k1,k2,k1I,k2I,wk,we,mt,mt1,hi,he,eI,iI,iI',i0,tn,s1,s2];refine ⟨by kernel_rfl,?_⟩;refine WS_reg [] ?_; simp [y42,y41,y0,y1,eb',em',w0,w1,hke,kI,k1,k2,k1I,k2I,wk,we,mt,mt1,hi,he,eI,iI,iI',i0,tn,s1,s2];have c1:rowZ (e+1) (λb=>if b=k then F2 k else F1 b)=rowZ (e+1) (λt=>if t<k+1 then M (e+1) t else M e t):=rowZ_congr λb _=>by
    rw [hF1,hF2];by_cases h:b=k
    . subst h; simp
    . by_cases h2:b<k
      . simp [h,h2,Nat.lt_succ_of_lt h2]
      . have h3:¬ b<k+1:=by omega
        simp [h,h2,h3]
   have c2:rowZ (e+1+1) (λb=>if b=k then F1 k else F2 b)=rowZ (e+1+1) (λt=>if t<k+1 then M e t else M (e+1) t):=rowZ_congr λb _=>by
    rw [hF1,hF2];by_cases h:b=k
    . subst h; simp
    . by_cases h2:b<k
      . simp [h,h2,Nat.lt_succ_of_lt h2]
      . have h3:¬ b<k+1:=by omega
        simp [h,h2,h3]
   have n1:¬ (e+20+1000=e+1+20+1000):=by omega
   refine ⟨⟨k+1,by omega,by simp,by simp [y41],by simp [z0],by simp [z1],by simp [n1,c1],by simp [c2],λp h1 h2=>?_⟩,?_⟩
   . have n2:¬ p+1000=e+20+1000:=by omega
     have n3:¬ p+1000=e+1+20+1000:=by omega
     simp only [upd_apply,n2,n3,if_false];exact hoth p h1 h2
   . rw [d42,nM_eq (i:=42) (n:=k+1) (by simp)]; omega
 . obtain rfl:k=e:=by omega
   have kI:¬ ((k:Int)<(k:Int)):=by omega
   refine Wr ?_; simp [y42,y41,kI];refine WS_seq ?_;refine WS_cF (by simp [y42,y41,kI]) ?_;refine WS_exit ?_; simp [y42,y41,kI];have hh:∀ p,p≠k+20->p≠k+1+20->S1.h (p+1000)=S2.h (p+1000):=hoth;refine hQ _ ρ' ⟨⟨?_,?_,λa ha=>?_⟩,eb',?_,λa ha=>?_,H2.wid,?_⟩ (by simp [y0]) (by simp [y1]) (λp hp=>?_)
   . exact (hh 0 (by omega) (by omega)).trans H2.num.d
   . exact em'
   . show S1.h (a+20+1000)=_;by_cases e1:a=k
     . subst e1;rw [w0,rowZ_congr (g:=swM1 M a a) λt _=>by rw [swM1,if_pos rfl]]
     . by_cases e2:a=k+1
       . subst e2;rw [w1,rowZ_congr (g:=swM1 M k (k+1)) λt _=>by rw [swM1,if_neg (show ¬ k+1=k by omega),if_pos rfl]]
       . rw [hh (a+20) (by omega) (by omega),H2.num.row a ha,rowZ_congr (g:=swM1 M k a) λt _=>by rw [swM1,if_neg e1,if_neg e2]]
   . exact (hh 12 (by omega) (by omega)).trans H2.top
   . exact (hh (a+100) (by omega) (by omega)).trans (H2.row a ha)
   . show (S1.h (10+1000)).o=none;rw [hh 10 (by omega) (by omega)]; exact H2.free
   . exact (hh p (by omega) (by omega)).trans (hF p hp)
def swM2 (M:Nat->Nat->Int) (e k:Nat) (U W:Nat->Int) (a t:Nat):Int:=if e+1<a/\a<k then (if t=e+1 then U a else if t=e then W a else M a t) else M a t
theorem swM2_in {M:Nat->Nat->Int} {e k a t:Nat} {U W:Nat->Int} (h:¬ (e+1<a/\a<k)):swM2 M e k U W a t=M a t:=by rw [swM2,if_neg h]
theorem swM2_first (M:Nat->Nat->Int) (e:Nat) (U W:Nat->Int):swM2 M e (e+1+1) U W=M:=by
 funext a t; rw [swM2,if_neg (by omega)]
theorem swM2_next {M:Nat->Nat->Int} {e k w:Nat} {U W:Nat->Int} (hk:e+1<k):rowZ w (λb=>if b=e then W k else if b=e+1 then U k else M k b)=rowZ w (swM2 M e (k+1) U W k):=rowZ_congr λb _=>by
 have hc:e+1<k/\k<k+1:=⟨hk,by omega⟩;simp only [swM2,if_pos hc];by_cases h:b=e
 . have:¬ b=e+1:=by omega
   simp only [if_pos h,if_neg this]
 . simp only [if_neg h]
theorem BasH.setM {h h':Nat->HC} {Gb Gd Gm Gr n w k:Nat} {γ ρ:Nat->Nat} {D:Nat->Int} {M M':Nat->Nat->Int} {R:Nat->List V} (H:BasH h Gb Gd Gm Gr n w γ ρ D M R) (hk:k<n) (hn:n<=64) (h1:h' (k+20+1000)=⟨γ k,some (.arr 28 (some 2) (rowZ (k+1) (M' k)))⟩)
 (h2:∀ p,p≠k+20->h' (p+1000)=h (p+1000)) (h3:∀ a,a≠k->a<n->rowZ (a+1) (M' a)=rowZ (a+1) (M a)):BasH h' Gb Gd Gm Gr n w γ ρ D M' R:=by
 refine ⟨⟨(h2 0 (by omega)).trans H.num.d,(h2 1 (by omega)).trans H.num.m,λa ha=>?_⟩,(h2 13 (by omega)).trans H.box,(h2 12 (by omega)).trans H.top,λa ha=>(h2 (a+100) (by omega)).trans (H.row a ha),H.wid,?_⟩
 . by_cases e:a=k
   . subst e; exact h1
   . rw [h2 (a+20) (by omega),H.num.row a ha,h3 a e ha]
 . show (h' (10+1000)).o=none;rw [h2 10 (by omega)]; exact H.free
def S2I (S:St) (Gb Gd Gm Gr n w:Nat) (γ ρ:Nat->Nat) (D:Nat->Int) (M:Nat->Nat->Int) (R:Nat->List V) (e:Nat) (U W:Nat->Int) (S':St):Prop:=
 ∃ k,e+1<k/\k<=n/\BasH S'.h Gb Gd Gm Gr n w γ ρ D (swM2 M e k U W) R/\S'.σ 10= .p (.i .i64 (k:Int))/\(∀ t,t<=9->S'.σ t=S.σ t)/\(∀ p,p<=9->S'.h p=S.h p)/\∀ p,200<=p->S'.h (p+1000)=S.h (p+1000)
set_option maxHeartbeats 4000000 in
theorem swap_2 {Q:Exit->St->Prop} {S:St} {Gb Gd Gm Gr n w e g5 g7 g8 g9:Nat} {γ ρ:Nat->Nat} {D:Nat->Int} {M:Nat->Nat->Int} {R:Nat->List V} {U W:Nat->Int} {x mid high own:Int} (H:BasH S.h Gb Gd Gm Gr n w γ ρ D M R) (hi:e+1<n) (hn:n<=64)
 (s0:S.σ 0= .ptr 1013 Gb 0) (s1:S.σ 1= .p (.i .i64 ((e+1:Nat):Int)))
 (s5:S.σ 5= .ptr 5 g5 0) (h5:S.h 5=⟨g5,some (.box 28 [.b (zn x),.sl none (uL (zl x))])⟩) (s7:S.σ 7= .ptr 7 g7 0) (h7:S.h 7=⟨g7,some (.box 28 [.b (zn mid),.sl none (uL (zl mid))])⟩)
 (s8:S.σ 8= .ptr 8 g8 0) (h8:S.h 8=⟨g8,some (.box 28 [.b (zn high),.sl none (uL (zl high))])⟩) (s9:S.σ 9= .ptr 9 g9 0) (h9:S.h 9=⟨g9,some (.box 28 [.b (zn own),.sl none (uL (zl own))])⟩)
 (lM:∀ a t,a<n->t<=a->zlen (M a t)<=2^18) (lx:zlen x<=2^18) (lm:zlen mid<=2^18) (lh:zlen high<=2^18) (lo:zlen own<=2^18) (lU:∀ k,e+1<k->k<n->zlen (U k)<=2^18)
 (hm:mid≠0) (hh:high≠0) (hU:∀ k,e+1<k->k<n->high*M k e-x*M k (e+1)=U k*mid) (hW:∀ k,e+1<k->k<n->own*M k (e+1)+x*U k=W k*high)
 (hQ:∀ S':St,BasH S'.h Gb Gd Gm Gr n w γ ρ D (swM2 M e n U W) R->(∀ t,t<=9->S'.σ t=S.σ t)->(∀ p,p<=9->S'.h p=S.h p)->(∀ p,200<=p->S'.h (p+1000)=S.h (p+1000))->Q .normal S'):
 WS Tryz.prog 237 sc_lattice_basis_swap.snd.snd.snd.snd.fst Q S:=by
 have we1:IntKind.i64.wrap ((e:Int)+1+1)=((e+1+1:Nat):Int):=i64_succ (e+1) (by omega);have we:=i64_nat e (by omega);unfold sc_lattice_basis_swap;simp only [SC.snd,SC.fst];refine Wr ?_; simp [s0,s1,we1];refine WS_block ?_;refine WS_loop (S2I S Gb Gd Gm Gr n w γ ρ D M R e U W) (λS=>n-nM 10 S) ⟨e+1+1,by omega,by omega,?_,by simp,λt ht=>?_,λp _=>by simp,λp _=>by simp⟩ ?_
 . rw [swM2_first]; simpa using H
 . simp only [upd_apply];repeat rw [if_neg (by omega)]
 rintro S1 ⟨k,hk,hkn,HB,t10,hs,hb,hf⟩;have d10:=nM_eq t10;have t0:=(hs 0 (by omega)).trans s0;have t1:=(hs 1 (by omega)).trans s1;have t5:=(hs 5 (by omega)).trans s5;have t7:=(hs 7 (by omega)).trans s7;have t8:=(hs 8 (by omega)).trans s8;have t9:=(hs 9 (by omega)).trans s9;have k5:=(hb 5 (by omega)).trans h5;have k7:=(hb 7 (by omega)).trans h7;have k8:=(hb 8 (by omega)).trans h8;have k9:=(hb 9 (by omega)).trans h9;have eb:=HB.box;have et:=HB.top;by_cases hlt:k<n
 . have hltI:(k:Int)<(n:Int):=by omega
   have em:=HB.num.m;have er:=HB.num.row k hlt;rw [rowZ_congr (g:=M k) λt _=>swM2_in (by omega)] at er;have wk:=i64_succ k (by omega);have mt:k<(rowsT n γ).length:=by simp [hlt]
   have e1:e+1<k+1:=by omega
   have e2:e<k+1:=by omega
   have e1I:((e+1:Nat):Int)<(k:Int)+1:=by omega
   have e1J:(e:Int)+1<(k:Int)+1:=by omega
   have e2I:(e:Int)<(k:Int)+1:=by omega
   have i0:(0:Int)<=(e:Int)+1:=by omega
   have tn:((e:Int)+1).toNat=e+1:=by omega
   have l1:=lM k e hlt (by omega);have l2:=lM k (e+1) hlt (by omega);have l3:=lU k hk hlt;have hUk:=hU k hk hlt;have hWk:=hW k hk hlt;have hnext:=swM2_next (M:=M) (e:=e) (k:=k) (w:=k+1) (U:=U) (W:=W) hk;obtain ⟨F,hF⟩:∃ F,F=M k:=⟨_,rfl⟩;obtain ⟨u,hu⟩:∃ u,u=U k:=⟨_,rfl⟩;obtain ⟨v,hv⟩:∃ u,u=W k:=⟨_,rfl⟩;simp only [<- hF,<-hu,<-hv] at er l1 l2 l3 hUk hWk hnext;obtain ⟨y,hy⟩:∃ y,y=F e:=⟨_,rfl⟩;obtain ⟨t,ht⟩:∃ y,y=F (e+1):=⟨_,rfl⟩;rw [<- hy] at l1 hUk;rw [<- ht] at l2 hUk hWk;have cr:=lcross (isZ_of lh) (isZ_of l1) (isZ_of lx) (isZ_of l2) (isZ_of lm) (by omega) hm hUk;have m1:=zmul (isZ_of lo) (isZ_of l2) (by omega);have q1:=zlen_mul own t;have m2:=zmul (isZ_of lx) (isZ_of l3) (by omega);have q2:=zlen_mul x u;have ad:=zadd (isZ_of (x:=own*t) (k:=2^20) (by omega)) (isZ_of (x:=x*u) (k:=2^20) (by omega)) (by omega);have q3:=zlen_add (own*t) (x*u);have ex:=lexact (isZ_of (x:=own*t+x*u) (k:=2^22) (by omega)) (isZ_of (x:=high) (k:=2^22) (by omega)) (by omega) hh hWk;obtain ⟨z1,hz1⟩:∃ z,z=own*t:=⟨_,rfl⟩;obtain ⟨z2,hz2⟩:∃ z,z=x*u:=⟨_,rfl⟩;rw [<- hz1,<-hz2] at ad ex;rw [<- hz1] at m1;rw [<- hz2] at m2;obtain ⟨z3,hz3⟩:∃ z,z=z1+z2:=⟨_,rfl⟩;rw [<- hz3] at ad ex;have c1:=rowZ_setA (w:=k+1) (k:=e+1) (f:=F) (x:=u);have c2:=rowZ_setA (w:=k+1) (k:=e) (f:=λb=>if b=e+1 then u else F b) (x:=v);rw [hnext] at c2;have ne:¬ (e=e+1):=by omega
   refine Ws ?_; simp [t0,t1,t5,t7,t8,t9,k5,k7,k8,k9,t10,eb,et,em,er,hlt,hltI,wk,mt,e1,e2,e1I,e1J,e2I,i0,tn,we,c1,c2,<-hy,<-ht];refine WS_cT (by simp [t0,t1,t5,t7,t8,t9,k5,k7,k8,k9,t10,eb,et,em,er,hlt,hltI,wk,mt,e1,e2,e1I,e1J,e2I,i0,tn,we,c1,c2,<-hy,<-ht]) ?_;refine WS_skip ?_; simp [t0,t1,t5,t7,t8,t9,k5,k7,k8,k9,t10,eb,et,em,er,hlt,hltI,wk,mt,e1,e2,e1I,e1J,e2I,i0,tn,we,c1,c2,<-hy,<-ht];refine WS_seq (WS_block (Wr ?_)); simp [t0,t1,t5,t7,t8,t9,k5,k7,k8,k9,t10,eb,et,em,er,hlt,hltI,wk,mt,e1,e2,e1I,e1J,e2I,i0,tn,we,c1,c2,<-hy,<-ht];refine WS_seq (WS_regD [] ?_); simp [t0,t1,t5,t7,t8,t9,k5,k7,k8,k9,t10,eb,et,em,er,hlt,hltI,wk,mt,e1,e2,e1I,e1J,e2I,i0,tn,we,c1,c2,<-hy,<-ht];refine callD cr rfl ?_; simp [t0,t1,t5,t7,t8,t9,k5,k7,k8,k9,t10,eb,et,em,er,hlt,hltI,wk,mt,e1,e2,e1I,e1J,e2I,i0,tn,we,c1,c2,<-hy,<-ht];refine ⟨by kernel_rfl,?_⟩;refine WS_regD [] ?_; simp [t0,t1,t5,t7,t8,t9,k5,k7,k8,k9,t10,eb,et,em,er,hlt,hltI,wk,mt,e1,e2,e1I,e1J,e2I,i0,tn,we,c1,c2,<-hy,<-ht];refine callD m1 rfl ?_; simp [t0,t1,t5,t7,t8,t9,k5,k7,k8,k9,t10,eb,et,em,er,hlt,hltI,wk,mt,e1,e2,e1I,e1J,e2I,i0,tn,we,c1,c2,<-hy,<-ht];refine callD m2 rfl ?_; simp [t0,t1,t5,t7,t8,t9,k5,k7,k8,k9,t10,eb,et,em,er,hlt,hltI,wk,mt,e1,e2,e1I,e1J,e2I,i0,tn,we,c1,c2,<-hy,<-ht];refine callD ad rfl ?_; simp [t0,t1,t5,t7,t8,t9,k5,k7,k8,k9,t10,eb,et,em,er,hlt,hltI,wk,mt,e1,e2,e1I,e1J,e2I,i0,tn,we,c1,c2,<-hy,<-ht];refine callD ex rfl ?_; simp [t0,t1,t5,t7,t8,t9,k5,k7,k8,k9,t10,eb,et,em,er,hlt,hltI,wk,mt,e1,e2,e1I,e1J,e2I,i0,tn,we,c1,c2,<-hy,<-ht];refine ⟨by kernel_rfl,?_⟩;refine WS_reg [] ?_; simp [t0,t1,t5,t7,t8,t9,k5,k7,k8,k9,t10,eb,et,em,er,hlt,hltI,wk,mt,e1,e2,e1I,e1J,e2I,i0,tn,we,c1,c2,<-hy,<-ht];refine ⟨⟨k+1,by omega,by omega,HB.setM (M':=swM2 M e (k+1) U W) hlt hn (by simp) (λp hp=>?_) (λa ha ha'=>rowZ_congr λt _=>?_),by simp,λt ht=>?_,λp hp=>?_,λp hp=>?_⟩,?_⟩
   . have n1:¬ p+1000=k+20+1000:=by omega
     have n2:¬ p+1000=11:=by omega
     simp [n2,hp]
   . by_cases h1:e+1<a/\a<k
     . have h2:e+1<a/\a<k+1:=⟨h1.1,by omega⟩;simp only [swM2,if_pos h1,if_pos h2]
     . have h2:¬ (e+1<a/\a<k+1):=by omega
       simp only [swM2,if_neg h1,if_neg h2]
   . simp only [upd_apply];repeat rw [if_neg (by omega)]
     exact hs t ht
   . have n1:¬ p=k+20+1000:=by omega
     have n2:¬ p=11:=by omega
     simp only [upd_apply,n1,n2,if_false];exact hb p hp
   . have n1:¬ p+1000=k+20+1000:=by omega
     have n2:¬ p+1000=11:=by omega
     simp only [upd_apply,n1,n2,if_false];exact hf p hp
   . rw [d10,nM_eq (i:=10) (n:=k+1) (by simp)]; omega
 . obtain rfl:k=n:=by omega
   have hltI:¬ ((k:Int)<(k:Int)):=by omega
   refine Ws ?_; simp [t10,t0,eb,et,hltI];refine WS_cF (by simp [t10,t0,eb,et,hltI]) ?_;refine WS_exit ?_; simp [t10,t0,eb,et,hltI];refine hQ _ ?_ (λt ht=>?_) (λp hp=>?_) (λp hp=>?_)
   . simpa using HB
   . simp only [upd_apply];repeat rw [if_neg (by omega)]
     exact hs t ht
   . exact hb p hp
   . exact hf p hp
def swD (D:Nat->Int) (e:Nat) (own:Int) (t:Nat):Int:=if t=e+1 then own else D t
def swM (M:Nat->Nat->Int) (e:Nat) (own:Int) (U W:Nat->Int) (a t:Nat):Int:=
 if a=e then (if t<e then M (e+1) t else own) else if a=e+1 then (if t<e then M e t else M (e+1) t) else if e+1<a then (if t=e+1 then U a else if t=e then W a else M a t) else M a t
set_option maxHeartbeats 4000000 in
theorem lswap {h:Nat->HC} {Gb Gd Gm Gr n w e:Nat} {γ ρ:Nat->Nat} {D:Nat->Int} {M:Nat->Nat->Int} {R:Nat->List V} {U W:Nat->Int} {own:Int} (H:BasH h Gb Gd Gm Gr n w γ ρ D M R) (hi:e+1<n) (hn:n<=64)
 (lM:∀ a t,a<n->t<=a->zlen (M a t)<=2^18) (lD:∀ t,t<=n->zlen (D t)<=2^18) (lo:zlen own<=2^18) (lU:∀ k,e+1<k->k<n->zlen (U k)<=2^18)
 (hD1:D (e+1)≠0) (hD2:D (e+1+1)≠0) (ho:D e*D (e+1+1)+M (e+1) e*M (e+1) e=own*D (e+1))
 (hU:∀ k,e+1<k->k<n->D (e+1+1)*M k e-M (e+1) e*M k (e+1)=U k*D (e+1)) (hW:∀ k,e+1<k->k<n->own*M k (e+1)+M (e+1) e*U k=W k*D (e+1+1)):
 FrM Tryz.prog f_lattice_basis_swap h fpB [.ptr 1013 Gb 0,.p (.i .i64 ((e+1:Nat):Int))] (λg svs=>svs=[]/\∃ ρ',BasH g Gb Gd Gm Gr n w γ ρ' (swD D e own) (swM M e own U W) (swR R e)):=by
 refine frM_at Tryz.func100 ok_lattice_basis_swap (by simp) (by simp) fpB_big λh2 hh=>?_;have H2:BasH h2 Gb Gd Gm Gr n w γ ρ D M R:=H.of hn λq hq=>hh _ (fpB_mem hq);refine swap_1 (H2.of hn λq _=>by simp) hi hn (by simp) (by simp) ?_;intro S ρ' HB t0 t1 hf;have hf2:∀ p,200<=p->S.h (p+1000)=h2 (p+1000):=λp hp=>(hf p hp).trans (by simp);have eb:=HB.box;have em:=HB.num.m;have ed:=HB.num.d;have ei:=HB.num.row (e+1) hi;have he:e<n:=by omega
 have mt:e+1<(rowsT n γ).length:=by simp [hi]
 have mte:e<(rowsT n γ).length:=by simp [he]
 have we:=i64_nat e (by omega);have we2:IntKind.i64.wrap ((e:Int)+1+1)=((e+1+1:Nat):Int):=i64_succ (e+1) (by omega);have i0:(0:Int)<=(e:Int)+1:=by omega
 have i02:(0:Int)<=(e:Int)+1+1:=by omega
 have tn:((e:Int)+1).toNat=e+1:=by omega
 have tn2:((e:Int)+1+1).toNat=e+1+1:=by omega
 have a1:e<e+1+1:=by omega
 have a1I:(e:Int)<(e:Int)+1+1:=by omega
 have a2:e<n+1:=by omega
 have a2I:(e:Int)<(n:Int)+1:=by omega
 have a3:e+1<n+1:=by omega
 have a3I:((e+1:Nat):Int)<(n:Int)+1:=by omega
 have a3J:(e:Int)+1<(n:Int)+1:=by omega
 have a4:e+1+1<n+1:=by omega
 have a4I:((e+1+1:Nat):Int)<(n:Int)+1:=by omega
 have a4J:(e:Int)+1+1<(n:Int)+1:=by omega
 have a5I:(e:Int)+1<(n:Int):=by omega
 have a6:e<e+1:=by omega
 have a6I:(e:Int)<(e:Int)+1:=by omega
 have a7I:(e:Int)<(n:Int):=by omega
 have hM1:swM1 M e (e+1) e=M (e+1) e:=by
  have n1:¬ e+1=e:=by omega
  simp [swM1,n1]
 have lx:=lM (e+1) e hi (by omega);have l0:=lD e (by omega);have l1:=lD (e+1) (by omega);have l2:=lD (e+1+1) (by omega);obtain ⟨M1,hMM⟩:∃ m,m=swM1 M e:=⟨_,rfl⟩;obtain ⟨x,hx⟩:∃ x,x=M (e+1) e:=⟨_,rfl⟩;obtain ⟨d0,hd0⟩:∃ x,x=D e:=⟨_,rfl⟩;obtain ⟨d1,hd1⟩:∃ x,x=D (e+1):=⟨_,rfl⟩;obtain ⟨d2,hd2⟩:∃ x,x=D (e+1+1):=⟨_,rfl⟩;rw [<- hMM] at HB ei hM1;simp only [<- hx,<-hd0,<-hd1,<-hd2] at lx l0 l1 l2 ho hU hW hD1 hD2 hM1;have m1:=zmul (isZ_of l0) (isZ_of l2) (by omega);have q1:=zlen_mul d0 d2;have m2:=zmul (isZ_of lx) (isZ_of lx) (by omega);have q2:=zlen_mul x x;have ad:=zadd (isZ_of (x:=d0*d2) (k:=2^20) (by omega)) (isZ_of (x:=x*x) (k:=2^20) (by omega)) (by omega);have q3:=zlen_add (d0*d2) (x*x);have ex:=lexact (isZ_of (x:=d0*d2+x*x) (k:=2^22) (by omega)) (isZ_of (x:=d1) (k:=2^22) (by omega)) (by omega) hD1 ho;obtain ⟨z1,hz1⟩:∃ z,z=d0*d2:=⟨_,rfl⟩;obtain ⟨z2,hz2⟩:∃ z,z=x*x:=⟨_,rfl⟩;rw [<- hz1,<-hz2] at ad ex;rw [<- hz1] at m1;rw [<- hz2] at m2;obtain ⟨z3,hz3⟩:∃ z,z=z1+z2:=⟨_,rfl⟩;rw [<- hz3] at ad ex;unfold sc_lattice_basis_swap;simp only [SC.snd];refine WS_seq (WS_regD [] ?_); simp [t0,t1,eb,em,ed,ei,mt,hi,he,we,we2,i0,i02,tn,tn2,a1,a1I,a2,a2I,a3,a3I,a3J,a4,a4I,a4J,a5I,hM1,<-hd0,<-hd1,<-hd2];refine ⟨by kernel_rfl,?_⟩;refine WS_seq (WS_regD [] ?_); simp [t0,t1,eb,em,ed,ei,mt,hi,he,we,we2,i0,i02,tn,tn2,a1,a1I,a2,a2I,a3,a3I,a3J,a4,a4I,a4J,a5I,hM1,<-hd0,<-hd1,<-hd2];refine callD m1 rfl ?_; simp [t0,t1,eb,em,ed,ei,mt,hi,he,we,we2,i0,i02,tn,tn2,a1,a1I,a2,a2I,a3,a3I,a3J,a4,a4I,a4J,a5I,hM1,<-hd0,<-hd1,<-hd2];refine callD m2 rfl ?_; simp [t0,t1,eb,em,ed,ei,mt,hi,he,we,we2,i0,i02,tn,tn2,a1,a1I,a2,a2I,a3,a3I,a3J,a4,a4I,a4J,a5I,hM1,<-hd0,<-hd1,<-hd2];refine callD ad rfl ?_; simp [t0,t1,eb,em,ed,ei,mt,hi,he,we,we2,i0,i02,tn,tn2,a1,a1I,a2,a2I,a3,a3I,a3J,a4,a4I,a4J,a5I,hM1,<-hd0,<-hd1,<-hd2];refine callD ex rfl ?_; simp [t0,t1,eb,em,ed,ei,mt,hi,he,we,we2,i0,i02,tn,tn2,a1,a1I,a2,a2I,a3,a3I,a3J,a4,a4I,a4J,a5I,hM1,<-hd0,<-hd1,<-hd2];refine ⟨by kernel_rfl,?_⟩;refine WS_abs (λS'=>S'.σ 0= .ptr 1013 Gb 0/\S'.σ 1= .p (.i .i64 ((e+1:Nat):Int))/\S'.σ 5= .ptr 5 ((S.h 5).g+1) 0/\S'.σ 7= .ptr 7 ((S.h 7).g+1) 0/\S'.σ 8= .ptr 8 ((S.h 8).g+1) 0/\S'.σ 9= .ptr 9 ((S.h 9).g+1) 0/\
  S'.h 5=⟨(S.h 5).g+1,some (.box 28 [.b (zn x),.sl none (uL (zl x))])⟩/\S'.h 7=⟨(S.h 7).g+1,some (.box 28 [.b (zn d1),.sl none (uL (zl d1))])⟩/\S'.h 8=⟨(S.h 8).g+1,some (.box 28 [.b (zn d2),.sl none (uL (zl d2))])⟩/\
  S'.h 9=⟨(S.h 9).g+1,some (.box 28 [.b (zn own),.sl none (uL (zl own))])⟩/\∀ p,S'.h (p+1000)=S.h (p+1000)) ?_ ?_
 . simp [t0,t1]
 obtain ⟨g5,hg5⟩:∃ g,g=(S.h 5).g+1:=⟨_,rfl⟩;obtain ⟨g7,hg7⟩:∃ g,g=(S.h 7).g+1:=⟨_,rfl⟩;obtain ⟨g8,hg8⟩:∃ g,g=(S.h 8).g+1:=⟨_,rfl⟩;obtain ⟨g9,hg9⟩:∃ g,g=(S.h 9).g+1:=⟨_,rfl⟩;simp only [<- hg5,<-hg7,<-hg8,<-hg9];clear m1 m2 ad ex t0 t1 hg5 hg7 hg8 hg9 eb em ed ei;rintro S1 ⟨t0,t1,t5,t7,t8,t9,k5,k7,k8,k9,hoth⟩;refine WS_seq ?_;refine swap_2 (U:=U) (W:=W) (HB.of hn λq _=>hoth q) hi hn t0 t1 t5 k5 t7 k7 t8 k8 t9 k9 (λa t ha ht=>?_) lx l1 l2 lo lU hD1 hD2 (λk hk hkn=>?_) (λk hk hkn=>?_) ?_
 . rw [hMM,swM1];split
   . split
     . exact lM _ _ (by omega) (by omega)
     . exact lM _ _ (by omega) (by omega)
   . split
     . split
       . exact lM _ _ (by omega) (by omega)
       . exact lM _ _ (by omega) (by omega)
     . exact lM _ _ ha ht
 . have n1:¬ k=e:=by omega
   have n2:¬ k=e+1:=by omega
   have:=hU k hk hkn;rw [hMM,swM1,swM1]; simp only [n1,n2,if_false]; exact this
 . have n1:¬ k=e:=by omega
   have n2:¬ k=e+1:=by omega
   have:=hW k hk hkn;rw [hMM,swM1]; simp only [n1,n2,if_false]; exact this
 intro S2 HB2 hs hb hf3;have u0:=(hs 0 (by omega)).trans t0;have u1:=(hs 1 (by omega)).trans t1;have u9:=(hs 9 (by omega)).trans t9;have v9:=(hb 9 (by omega)).trans k9;have eb:=HB2.box;have em:=HB2.num.m;have ed:=HB2.num.d;have ee:=HB2.num.row e he;have s1:=rowZ_setA (w:=n+1) (k:=e+1) (f:=D) (x:=own);obtain ⟨F,hF⟩:∃ F,F=swM2 M1 e n U W e:=⟨_,rfl⟩;rw [<- hF] at ee;have s2:=rowZ_setA (w:=e+1) (k:=e) (f:=F) (x:=own);show WS Tryz.prog 237 _ _ S2;refine WS_seq (WS_regD [] ?_); simp [u0,u1,u9,v9,eb,em,ed,ee,mte,he,we,i0,tn,a3,a3I,a3J,a6,a6I,a7I,s1,s2];refine ⟨by kernel_rfl,?_⟩;refine WS_regD [] ?_; simp [u0,u1,u9,v9,eb,em,ed,ee,mte,he,we,i0,tn,a3,a3I,a3J,a6,a6I,a7I,s1,s2];refine ⟨by kernel_rfl,?_⟩;refine ⟨λp hp=>?_,ρ',⟨?_,?_,λa ha=>?_⟩,?_,?_,λa ha=>?_,HB2.wid,?_⟩
 . have h200:200<=p:=Nat.le_of_not_lt λh=>hp (fpB_mem h);rw [if_neg (by omega),if_neg (by omega),hf3 p h200,hoth p,hf2 p h200]
 . have n1:¬ 1000=e+20+1000:=by omega
   simp only [upd_apply,n1,if_false,if_true];rfl
 . have n1:¬ 1001=e+20+1000:=by omega
   simp only [upd_apply,n1,if_false];exact em
 . have n0:¬ a+20+1000=1000:=by omega
   by_cases e1:a=e
   . subst e1;simp only [upd_apply,if_true];rw [rowZ_congr (g:=swM M a own U W a) λt ht=>?_];have nn:¬ (a+1<a/\a<n):=by omega
     simp only [swM,if_true,hF,swM2,if_neg nn,hMM,swM1];by_cases h1:t=a
     . have:¬ t<a:=by omega
       simp only [if_pos h1,if_neg this]
     . have:t<a:=by omega
       simp only [if_neg h1,if_pos this]
   . have n1:¬ a+20+1000=e+20+1000:=by omega
     simp only [upd_apply,n0,n1,if_false];rw [HB2.num.row a ha,rowZ_congr (g:=swM M e own U W a) λt ht=>?_];by_cases e2:a=e+1
     . have n2:¬ (e+1<a/\a<n):=by omega
       simp only [swM2,if_neg n2,hMM,swM1,swM,if_neg e1,if_pos e2]
     . by_cases e3:e+1<a
       . have n2:e+1<a/\a<n:=⟨e3,ha⟩;simp only [swM2,if_pos n2,hMM,swM1,swM,if_neg e1,if_neg e2,if_pos e3]
       . have n2:¬ (e+1<a/\a<n):=by omega
         simp only [swM2,if_neg n2,hMM,swM1,swM,if_neg e1,if_neg e2,if_neg e3]
 . have n1:¬ 1013=e+20+1000:=by omega
   simp only [upd_apply,n1,if_false];exact eb
 . have n1:¬ 1012=e+20+1000:=by omega
   simp only [upd_apply,n1,if_false];exact HB2.top
 . have n1:¬ a+100+1000=e+20+1000:=by omega
   have n2:¬ a+100+1000=1000:=by omega
   simp only [upd_apply,n1,n2,if_false];exact HB2.row a ha
 . have n1:¬ 1010=e+20+1000:=by omega
   simp only [upd_apply,n1,if_false];exact HB2.free
end Go.Vw
