/- Lattices. -/
import Derived.Test.YtfdjbmamidmgfaaGreatMR
import Derived.Test.YtfdjbmamidmgfaaGreatPW
import Derived.Test.YtfdjbmamidmgfaaGreatPX
import Derived.Test.YtfdjbmamidmgfaaGreatPY
import Derived.Test.YtfdjbmamidmgfaaGreatMP
set_option linter.unusedVariables false
set_option linter.unusedSimpArgs false
namespace Go.Vw
open Go.Proofs Go.Py Go.Dt
structure Lim (b:Nat->Nat->Int) (n w:Nat):Prop where
 m:∀ a t,a<n->t<=a->zlen (bM b w a t)<=2^18
 d:∀ t,t<=n->zlen (bD b w t)<=2^18
 b:∀ a c,a<n->c<w->zlen (b a c)<=2^18
def rl (b:Nat->Nat->Int) (w a:Nat):List Int:=(List.range w).map (b a)
theorem rl_length (b:Nat->Nat->Int) (w a:Nat):(rl b w a).length=w:=by simp [rl]
theorem rl_cf {b:Nat->Nat->Int} {w a c:Nat} (h:c<w):cf (rl b w a) c=b a c:=cf_rowZ h
structure BasB (h:Nat->HC) (Gb Gd Gm Gr n w:Nat) (b:Nat->Nat->Int) (R:Nat->List V):Prop where
 ex:∃ γ ρ,BasH h Gb Gd Gm Gr n w γ ρ (bD b w) (bM b w) R
 row:∀ a,a<n->IsP (2^18) (R a) (rl b w a)
theorem BasH.congr {h:Nat->HC} {Gb Gd Gm Gr n w:Nat} {γ ρ:Nat->Nat} {D D':Nat->Int} {M M':Nat->Nat->Int} {R R':Nat->List V} (H:BasH h Gb Gd Gm Gr n w γ ρ D M R) (h1:∀ t,t<=n->D t=D' t) (h2:∀ a t,a<n->t<=a->M a t=M' a t) (h3:∀ a,a<n->R a=R' a):BasH h Gb Gd Gm Gr n w γ ρ D' M' R':=
 ⟨⟨by rw [H.num.d,rowZ_congr (g:=D') λt ht=>h1 t (by omega)],H.num.m,λa ha=>by rw [H.num.row a ha,rowZ_congr (g:=M' a) λt ht=>h2 a t ha (by omega)]⟩,H.box,H.top,λa ha=>by rw [H.row a ha,h3 a ha],λa ha=>by rw [<- h3 a ha]; exact H.wid a ha,H.free⟩
theorem BasB.of {h h':Nat->HC} {Gb Gd Gm Gr n w:Nat} {b:Nat->Nat->Int} {R:Nat->List V} (H:BasB h Gb Gd Gm Gr n w b R) (hn:n<=64) (he:∀ q,q<200->h' (q+1000)=h (q+1000)):BasB h' Gb Gd Gm Gr n w b R:=by
 obtain ⟨γ,ρ,HB⟩:=H.ex;exact ⟨⟨γ,ρ,HB.of hn he⟩,H.row⟩
def farB (b:Nat->Nat->Int) (w i j:Nat):Bool:=decide (bD b w (j+1)<((bM b w i j+bM b w i j).natAbs:Int))
def nq (b:Nat->Nat->Int) (w i j:Nat):Int:=(bM b w i j+bM b w i j+bD b w (j+1)) / (bD b w (j+1)+bD b w (j+1))
def nearS (b:Nat->Nat->Int) (w i j:Nat):Nat->Nat->Int:=if farB b w i j then nearB b i j (nq b w i j) else b
def fallB (b:Nat->Nat->Int) (w i:Nat):Bool:=decide (4*(bD b w (i+1)*bD b w (i-1)+bM b w i (i-1)*bM b w i (i-1))<3*(bD b w i*bD b w i))
theorem lnearB {h:Nat->HC} {Gb Gd Gm Gr n w i j:Nat} {b:Nat->Nat->Int} {R:Nat->List V} (H:BasB h Gb Gd Gm Gr n w b R) (hI:Ind b n w) (hL:Lim b n w) (hL':Lim (nearS b w i j) n w) (hi:i<n) (hj:j<i) (hn:n<=64) (hw:w<=64):
 FrM Tryz.prog f_lattice_basis_near h fpB [.ptr 1013 Gb 0,.p (.i .i64 (i:Int)),.p (.i .i64 (j:Int))] (λg svs=>svs=[]/\∃ R',BasB g Gb Gd Gm Gr n w (nearS b w i j) R'):=by
 obtain ⟨γ,ρ,HB⟩:=H.ex;refine (lnear (K:=2^18) (q:=nq b w i j) (c:=farB b w i j) HB hi hj hn hw H.row (Nat.le_refl _) (λt ht=>hL.m i t hi ht) (λt ht=>hL.m j t (by omega) ht) (hL.d _ (by omega)) (hI.pos (by omega)) (bM_diag b w j) rfl rfl).mono ?_;rintro g svs ⟨e1,γ',ρ',HB'⟩;refine ⟨e1,?_⟩;unfold nearS at hL' ⊢;cases hf:farB b w i j with
 | false=>
  rw [hf] at HB';simp only [Bool.false_eq_true,if_false] at HB' ⊢;exact ⟨R,⟨γ',ρ',HB'⟩,H.row⟩
 | true=>
  rw [hf] at HB' hL';simp only [if_true] at HB' hL' ⊢;refine ⟨_,⟨γ',ρ',HB'.congr (λt ht=>(near_D hI hj hi _ ht).symm) (λa t ha ht=>?_) λa _=>rfl⟩,λa ha=>?_⟩
  . rw [near_M hI hj hi _ ht ha,nrM]
  . have hw1:=H.row i hi;have hlen:=HB.wid i hi;by_cases e:a=i
    . subst e;refine ⟨by rw [nrR,if_pos rfl,takeV_length,rl_length,hlen],λc hc=>?_⟩;have hc':c<w:=by rw [nrR,if_pos rfl,takeV_length,hlen] at hc; exact hc
      rw [rl_cf hc'];have key:(nrR R (rl b w) a j (nq b w a j) a)[c]? =some (Z (nearB b a j (nq b w a j) a c)):=by
       rw [nrR,if_pos rfl,takeV_lo (by rw [hlen]; exact hc') (by rw [rl_length]; exact hc'),rl_cf hc',rl_cf hc',nearB,if_pos rfl]
      rw [List.getElem?_eq_getElem hc] at key;rw [Option.some.inj key];exact isZ_of (hL'.b a c ha hc')
    . have:nrR R (rl b w) i j (nq b w i j) a=R a:=by rw [nrR,if_neg e]
      rw [this];have hr:rl (nearB b i j (nq b w i j)) w a=rl b w a:=List.map_congr_left λc _=>by rw [nearB,if_neg e]
      rw [hr]; exact H.row a ha
theorem lswapB {h:Nat->HC} {Gb Gd Gm Gr n w e:Nat} {b:Nat->Nat->Int} {R:Nat->List V} (H:BasB h Gb Gd Gm Gr n w b R) (hI:Ind b n w) (hL:Lim b n w) (hL':Lim (swapB b e) n w) (hi:e+1<n) (hn:n<=64):
 FrM Tryz.prog f_lattice_basis_swap h fpB [.ptr 1013 Gb 0,.p (.i .i64 ((e+1:Nat):Int))] (λg svs=>svs=[]/\∃ R',BasB g Gb Gd Gm Gr n w (swapB b e) R'):=by
 obtain ⟨γ,ρ,HB⟩:=H.ex;refine (lswap (U:=λk=>bM (swapB b e) w k (e+1)) (W:=λk=>bM (swapB b e) w k e) (own:=bD (swapB b e) w (e+1)) HB hi hn hL.m hL.d (hL'.d _ (by omega)) (λk hk hkn=>hL'.m k _ hkn (by omega)) (by have:=hI.pos (t:=e+1) (by omega); omega) (by have:=hI.pos (t:=e+1+1) (by omega); omega)
  (swap_own hI hi) (λk hk hkn=>swap_U hI hi hk hkn) (λk hk hkn=>swap_W hI hi hk hkn)).mono ?_
 rintro g svs ⟨e1,ρ',HB'⟩;refine ⟨e1,_,⟨γ,ρ',HB'.congr (λt ht=>?_) (λa t ha ht=>?_) λa _=>rfl⟩,λa ha=>?_⟩
 . rw [swD];by_cases e2:t=e+1
   . rw [if_pos e2,e2]
   . rw [if_neg e2,swap_D hI hi ht e2]
 . rw [swap_M hI hi ht ha,swM]
 . exact H.row (tr2 e (e+1) a) (by unfold tr2; split<;>(try split)<;>omega)
theorem lfallB {h:Nat->HC} {Gb Gd Gm Gr n w i:Nat} {b:Nat->Nat->Int} {R:Nat->List V} (H:BasB h Gb Gd Gm Gr n w b R) (hL:Lim b n w) (hi:i<n) (hi0:0<i) (hn:n<=64):
 FrR Tryz.prog f_lattice_numbers_falls h [1000,1001,i+20+1000] [numA Gd Gm n,.p (.i .i64 (i:Int))] [.p (.b (fallB b w i))]:=by
 obtain ⟨γ,ρ,HB⟩:=H.ex;have m1:=hL.m i (i-1) hi (by omega);have d0:=hL.d (i-1) (by omega);have d1:=hL.d i (by omega);have d2:=hL.d (i+1) (by omega);exact lfalls HB.num hi hi0 hn (by omega) (by omega) (by omega) (by omega)
open Go.RowKit (Below)
theorem least_of {p:Nat->Prop}:∀ v,p v->∃ u,p u/\∀ t,t<u->¬ p t:=by
 intro v;induction v using Nat.strongRecOn with
 | _ v ih=>
  intro hv;by_cases h:∃ t,t<v/\p t
  . obtain ⟨t,h1,h2⟩:=h; exact ih t h1 h2
  . exact ⟨v,hv,λt ht hp=>h ⟨t,ht,hp⟩⟩
theorem WS_loopR {P:Program} {n:Nat} {S:St} {c:SC} {Q:Exit->St->Prop} (I:Nat->St->Prop) (v0:Nat) (h0:I v0 S) (h:∀ v S',I v S'->WS P n c (thenQ (λS''=>∃ v',v'<v/\I v' S'') Q) S'):WS P n (.loop c) Q S:=by
 classical
 let m:St->Nat:=λS=>if hx:∃ u,I u S/\∀ t,t<u->¬ I t S then hx.choose else 0
 have hm:∀ S,(∃ v,I v S)->I (m S) S/\∀ t,t<m S->¬ I t S:=by
  rintro S ⟨v,hv⟩;have hx:=least_of (p:=λu=>I u S) v hv;have:m S=hx.choose:=dif_pos hx;rw [this]; exact hx.choose_spec
 refine WS_loop (λS=>∃ v,I v S) m ⟨v0,h0⟩ λS' hS'=>?_;obtain ⟨h1,h2⟩:=hm S' hS';refine (h (m S') S' h1).mono λe S'' hq=>?_;cases e with
 | normal=>
  obtain ⟨v',hv',hI⟩:=hq;refine ⟨⟨v',hI⟩,?_⟩;obtain ⟨g1,g2⟩:=hm S'' ⟨v',hI⟩;exact Nat.lt_of_le_of_lt (Nat.le_of_not_lt λhlt=>g2 v' hlt hI) hv'
 | _=>exact hq
section
variable {P:Program} {n:Nat} {S:St}
theorem WS_frzC {sc:SC} {Q:Exit->St->Prop} (c j r:Nat) {Tc T:TypeId} {xsc:List SV} {g off len:Nat} {sz:Option Nat} {xs:List V} (hc:(S.h c).o=some (.rows Tc xsc)) (hj:xsc[j]? =some (.own r g off len)) (hg:g=(S.h r).g) (hr:(S.h r).o=some (.arr T sz xs)) (hle:off+len<=xs.length) (hcr:c≠r)
 (k:WS P n sc Q ⟨S.σ,upd (upd S.h r ⟨(S.h r).g+1,none⟩) c ⟨(S.h c).g,some (.rows Tc (xsc.set j (.p (.sl sz ((xs.drop off).take len)))))⟩⟩):WS P n sc Q S:=by
 refine k.weaken λA w0 a w hR=>?_;obtain ⟨μ,H,rel⟩:=hR.ex;obtain ⟨H1,K1⟩:=H.change (w':=w) r ⟨(S.h r).g+1,none⟩ (μ r) (Nat.le_refl _) (λ_ _ _=>rfl) (λb h=>absurd rfl h) (λo h=>by cases h) (.inl (by simp));have hμ:upd μ r (μ r)=μ:=by funext t; simp only [upd]; split<;>simp_all
 rw [hμ] at H1 K1;have ec:upd S.h r ⟨(S.h r).g+1,none⟩ c=S.h c:=upd_ne _ _ hcr;obtain ⟨H2,K2⟩:=H1.changeX (w':=w) c ⟨(S.h c).g,some (.rows Tc (xsc.set j (.p (.sl sz ((xs.drop off).take len)))))⟩ (μ c) (Nat.le_refl _) (λ_ _ _=>rfl) (λb _ hb=>.inl ⟨by rw [ec,hc]; simp,hb⟩)
  (λo ho K=>by
   simp only [Option.some.injEq] at ho; subst ho;obtain ⟨flat,f1,f2⟩:=H.obj c _ hc;refine ⟨flat,by simpa using f1,by simpa using f2.1,λi hi=>?_⟩;have hi':i<xsc.length:=by simpa using hi
   have f3:=f2.2 i hi';rw [List.getElem_set];split
   . rename_i e;subst e;have hcj:xsc[j]= .own r g off len:=by rw [List.getElem?_eq_getElem hi'] at hj; exact Option.some.inj hj
     rw [hcj] at f3;refine ⟨.p _ _ ?_,f3.2⟩;have hs':=own_inv f3.1 hg;rw [show (S.h r).width=width sz by simp only [HC.width,hr]; rfl] at hs';refine (row_plain (ok':=okOf A w μ (upd S.h r ⟨(S.h r).g+1,none⟩)) (H.obj r _ hr) hs' hle K1.ok λb hb=>?_).mono K.ok λ_ _ _=>rfl;obtain ⟨h1,h2⟩:=(H.obj r _ hr).lt hb;refine ⟨hR.new b h1,h2,λr' hr' hb'=>?_⟩;by_cases e:r'=r
     . subst e; simp at hr'
     . rw [upd_ne _ _ e] at hr';exact e (H.inj r' r b hr' (by rw [hr]; simp) hb' hb)
   . exact ⟨(f3.1.keep K1).keep K,f3.2⟩)
  (.inr ⟨by rw [ec],by rw [ec]; simp only [HC.width,hc]; rfl,rfl⟩)
  (λo ho K h1 q' hq'=>by
   simp only [Option.some.injEq] at ho; subst ho;simp only [HObj.refs,List.mem_flatMap] at hq';obtain ⟨x,hx,hq'⟩:=hq';rcases List.mem_or_eq_of_mem_set hx with h2 | h2
   . exact H.clo c _ hc h1 q' (List.mem_flatMap.2 ⟨x,h2,hq'⟩)
   . subst h2; simp [svref] at hq')
 exact ⟨⟨_,H2,λt=>((rel t).keep K1).keep K2⟩,hR.below,hR.size,hR.defers,hR.new⟩
theorem WS_unrows {sc:SC} {Q:Exit->St->Prop} (c:Nat) {T:TypeId} {vs:List V} (hc:(S.h c).o=some (.rows T (vs.map .p)))
 (k:WS P n sc Q ⟨S.σ,upd S.h c ⟨(S.h c).g,some (.arr T none vs)⟩⟩):WS P n sc Q S:=by
 refine k.weaken λA w0 a w hR=>?_;obtain ⟨μ,H,rel⟩:=hR.ex;obtain ⟨H1,K1⟩:=H.changeX (w':=w) c ⟨(S.h c).g,some (.arr T none vs)⟩ (μ c) (Nat.le_refl _) (λ_ _ _=>rfl) (λb _ hb=>.inl ⟨by rw [hc]; simp,hb⟩)
  (λo ho K=>by
   simp only [Option.some.injEq] at ho; subst ho;obtain ⟨flat,f1,f2⟩:=H.obj c _ hc;have hl:flat.length=vs.length:=by simpa using f2.1
   refine ⟨flat,by simpa [width] using f1,flat,hl,λi hi=>?_,λv hv=>?_,?_⟩
   . have:=(f2.2 i (by simpa using hi)).1;simp only [List.getElem_map] at this;cases this with
     | p _ _ h=>exact h.mono K.ok λ_ _ _=>rfl
   . obtain ⟨i,hi,rfl⟩:=List.getElem_of_mem hv;have:=(f2.2 i (by simpa using (hl ▸ hi))).2;rw [List.getD_eq_getElem?_getD,List.getElem?_eq_getElem hi] at this;exact this
   . have:∀ l:List Value,(∀ v∈l,v.oneCell'=true)->l=l.flatMap (·.cells.toList):=by
      intro l;induction l with
      | nil=>intro _; rfl
      | cons x rest ih=>
       intro h;have h1:=h x (by simp);rw [List.flatMap_cons,<-ih λv hv=>h v (by simp [hv])];have:x.cells.toList=[x]:=by cases x<;>simp_all [Value.oneCell',Value.cells]
       rw [this]; rfl
     refine this flat λv hv=>?_;obtain ⟨i,hi,rfl⟩:=List.getElem_of_mem hv;have:=(f2.2 i (by simpa using (hl ▸ hi))).2;rw [List.getD_eq_getElem?_getD,List.getElem?_eq_getElem hi] at this;exact this)
  (.inr ⟨rfl,by simp only [HC.width,hc]; rfl,rfl⟩)
  (λo ho K h1 q' hq'=>by
   simp only [Option.some.injEq] at ho; subst ho;simp [HObj.refs] at hq')
 have hμ:upd μ c (μ c)=μ:=by funext t; simp only [upd]; split<;>simp_all
 exact ⟨⟨_,H1,λt=>(rel t).keep K1⟩,hR.below,hR.size,hR.defers,hR.new⟩
end
def frR (nm γ:Nat->Nat) (F:Nat->List V) (m j:Nat):List SV:=(List.range m).map λi=>if i<j then .p (.sl (some 2) (F i)) else .own (nm i) (γ i) 0 (F i).length
theorem WS_frzAll {P:Program} {n:Nat} {sc:SC} {Q:Exit->St->Prop} (c t m:Nat) {T T':TypeId} {G:Nat} {nm γ:Nat->Nat} {F:Nat->List V} (hne:∀ i,i<m->nm i≠c) (hinj:∀ i j,i<m->j<m->nm i=nm j->i=j):∀ (d j:Nat) (S:St),j+d=m->S.σ t= .own c G 0 m->S.h c=⟨G,some (.rows T (frR nm γ F m j))⟩->(∀ i,j<=i->i<m->S.h (nm i)=⟨γ i,some (.arr T' (some 2) (F i))⟩)->
 (∀ S':St,S'.σ t= .p (.sl none ((List.range m).map λi=>.sl (some 2) (F i)))->(∀ u,u≠t->S'.σ u=S.σ u)->WS P n sc Q S')->WS P n sc Q S
 | 0,j,S,hj,ht,hc,hr,k=>by
  obtain rfl:j=m:=by omega
  have e:frR nm γ F j j=((List.range j).map λi=>V.sl (some 2) (F i)).map SV.p:=by
   rw [frR,List.map_map];exact List.map_congr_left λi hi=>by
    have:i<j:=by simpa using hi
    simp [this]
  rw [e] at hc;refine WS_unrows c (by rw [hc]) ?_;refine WS_frz c t none ?_;simp only [frzQ,ht,upd_same];refine ⟨trivial,by rw [hc],by simp,?_⟩;refine k _ ?_ λu hu=>?_
  . simp only [upd_same,List.drop_zero];rw [List.take_of_length_le (by simp)]
  . simp only [upd_ne _ _ hu]
 | d+1,j,S,hj,ht,hc,hr,k=>by
  have hjm:j<m:=by omega
  have h1:=hr j (Nat.le_refl _) hjm;refine WS_frzC c j (nm j) (T:=T') (g:=γ j) (off:=0) (len:=(F j).length) (xs:=F j) (by rw [hc]) (by simp [frR,hjm]) (by rw [h1]) (by rw [h1]) (by simp) (Ne.symm (hne j hjm)) ?_;refine WS_frzAll (T:=T) (T':=T') (γ:=γ) c t m hne hinj d (j+1) _ (by omega) ht ?_ (λi hi him=>?_) k
  . have e:(frR nm γ F m j).set j (.p (.sl (some 2) (((F j).drop 0).take (F j).length)))=frR nm γ F m (j+1):=by
     refine List.ext_getElem (by simp [frR]) λi h2 h3=>?_;rw [List.getElem_set];by_cases e:j=i
     . subst e; simp [frR]
     . rw [if_neg e];simp only [frR,List.getElem_map,List.getElem_range];by_cases h4:i<j
       . rw [if_pos h4,if_pos (by omega)]
       . rw [if_neg h4,if_neg (by omega)]
    show upd _ c _ c=_;rw [upd_same,e,hc]
  . show upd _ c _ (nm i)=_;rw [upd_ne _ _ (hne i him),upd_ne _ _ (λe=>by have:=hinj i j him hjm e; omega)];exact hr i (by omega) him
structure Run (n w:Nat) (I A:Nat->Nat->(Nat->Nat->Int)->Prop) (B:Nat->Nat->Nat->(Nat->Nat->Int)->Prop):Prop where
 indI:∀ v i b,I v i b->Ind b n w/\Lim b n w/\1<=i/\(i<=n\/i=1)
 indA:∀ v i b,A v i b->Ind b n w/\Lim b n w
 indB:∀ v i j b,B v i j b->Ind b n w/\Lim b n w
 near0:∀ v i b,I v i b->i<n->A v i (nearS b w i (i-1))
 fall:∀ v e b,A v (e+1) b->e+1<n->fallB b w (e+1)=true->Lim (swapB b e) n w/\∃ v',v'<v/\I v' (max e 1) (swapB b e)
 stay:∀ v e b,A v (e+1) b->e+1<n->fallB b w (e+1)=false->B v (e+1) e b
 near1:∀ v i j b,B v i (j+1) b->i<n->j+1<i->B v i j (nearS b w i j)
 done:∀ v i b,B v i 0 b->i<n->∃ v',v'<v/\I v' (i+1) b
attribute [local simp] zv V.fits fillOk fillV Z_eq acK_stuck XCore aopX acD_stuck XD HOp svCells SV.cell cloC svref svFits svPart partOkS okSV okSV1 S0H maskH_add maskH_lt maskH_ge retQM retPM retAllH retOneH rowZ_length rowZ_at St.elemsS packSV rowsT_length rowsT_at rowsR_length rowsR_at SV.solid svPack
def LrS (xs:List V) (Gb Gd Gm Gr n w:Nat) (I:Nat->Nat->(Nat->Nat->Int)->Prop) (v:Nat) (S:St):Prop:=
 ∃ i b R,I v i b/\BasB S.h Gb Gd Gm Gr n w b R/\S.σ 0= .p (.sl none xs)/\S.σ 6= .ptr 1013 Gb 0/\S.σ 9= .p (.i .i64 (i:Int))
def LrB (xs:List V) (Gb Gd Gm Gr n w v i:Nat) (B:Nat->Nat->Nat->(Nat->Nat->Int)->Prop) (S:St):Prop:=
 ∃ j b R,j<i/\B v i j b/\BasB S.h Gb Gd Gm Gr n w b R/\S.σ 0= .p (.sl none xs)/\S.σ 6= .ptr 1013 Gb 0/\S.σ 9= .p (.i .i64 (i:Int))/\S.σ 10= .p (.i .i64 ((j:Int)-1))
def iMJ (i:Nat) (S:St):Nat:=match S.σ i with | .p (.i _ k)=>(k+1).toNat | _=>0
theorem iMJ_eq {i j:Nat} {S:St} {k:IntKind} (h:S.σ i= .p (.i k ((j:Int)-1))):iMJ i S=j:=by simp [iMJ,h]
set_option maxHeartbeats 4000000 in
theorem red_main {Q:Exit->St->Prop} {S:St} {xs:List V} {Gb Gd Gm Gr n w v0:Nat} {b0:Nat->Nat->Int} {R0:Nat->List V} {I A:Nat->Nat->(Nat->Nat->Int)->Prop} {B:Nat->Nat->Nat->(Nat->Nat->Int)->Prop} (HR:Run n w I A B) (h0:I v0 1 b0) (HB0:BasB S.h Gb Gd Gm Gr n w b0 R0) (hn:n<=64) (hw:w<=64) (hx:xs.length=n)
 (s0:S.σ 0= .p (.sl none xs)) (s6:S.σ 6= .ptr 1013 Gb 0)
 (hQ:∀ (S':St) v i b R,I v i b->n<=i->BasB S'.h Gb Gd Gm Gr n w b R->S'.σ 6= .ptr 1013 Gb 0->Q .normal S'):
 WS Tryz.prog 111 sc_lattice_Reduce.snd.snd.snd.snd.snd.fst Q S:=by
 unfold sc_lattice_Reduce;simp only [SC.snd,SC.fst];refine Wr ?_; simp [s0,s6];refine WS_block ?_;refine WS_loopR (LrS xs Gb Gd Gm Gr n w I) v0 ⟨1,b0,R0,h0,by simpa using HB0,by simp [s0],by simp [s6],by simp⟩ ?_;rintro v S1 ⟨i,b,R,hI,HB,t0,t6,t9⟩;obtain ⟨hind,hlim,hi1,hi2⟩:=HR.indI v i b hI;by_cases hlt:i<n
 . have hltI:(i:Int)<(n:Int):=by omega
   obtain ⟨e,rfl⟩:∃ e,i=e+1:=⟨i-1,by omega⟩;have we:=i64_nat e (by omega);have hA:=HR.near0 v (e+1) b hI hlt;rw [Nat.add_sub_cancel] at hA;obtain ⟨hind1,hlim1⟩:=HR.indA v (e+1) _ hA;have nr:=lnearB HB hind hlim hlim1 hlt (by omega) hn hw;obtain ⟨b1,hb1⟩:∃ c,c=nearS b w (e+1) e:=⟨_,rfl⟩;rw [<- hb1] at hA hind1 hlim1 nr;have d1:(e:Int)+1<(n:Int):=by omega
   obtain ⟨γ,ρ,HBh⟩:=HB.ex;have eb:=HBh.box;rw [show ((e+1:Nat):Int)=(e:Int)+1 from rfl] at nr;refine Ws ?_; simp [t0,t6,t9,hx,hltI,d1,we,eb];refine WS_cT (by simp [t0,t6,t9,hx,hltI,d1,we,eb]) ?_;refine WS_skip ?_; simp [t0,t6,t9,hx,hltI,d1,we,eb];refine WS_block (Wr ?_); simp [t0,t6,t9,hx,hltI,d1,we,eb];refine mcall fpB nr (by simp [fpB]) ?_;rintro H g svs hhn hhf ⟨rfl,R1,HB1⟩;simp [t0,t6,t9,hx,hltI,d1,we,eb];have HB2:BasB H Gb Gd Gm Gr n w b1 R1:=HB1.of hn λq hq=>hhf _ (fpB_mem hq);refine WS_abs (λS=>BasB S.h Gb Gd Gm Gr n w b1 R1/\S.σ 0= .p (.sl none xs)/\S.σ 6= .ptr 1013 Gb 0/\S.σ 9= .p (.i .i64 ((e:Int)+1))) ?_ ?_
   . exact ⟨HB2,by simp [t0],by simp [t6],by simp [t9]⟩
   clear HB HB1 HB2 HBh eb hhn hhf t0 t6 t9 nr S1;rintro S1 ⟨HB,t0,t6,t9⟩;obtain ⟨γ,ρ,HBh⟩:=HB.ex;have eb:=HBh.box;have fl:=lfallB HB hlim1 hlt (by omega) hn;rw [show ((e+1:Nat):Int)=(e:Int)+1 from rfl] at fl;cases hf:fallB b1 w (e+1) with
   | true=>
    rw [hf] at fl;obtain ⟨hlim2,v',hv',hI'⟩:=HR.fall v e b1 hA hlt hf;have sw:=lswapB HB hind1 hlim1 hlim2 hlt hn;rw [show ((e+1:Nat):Int)=(e:Int)+1 from rfl] at sw;have mx:(if (1:Int)>(e:Int) then (1:Int) else (e:Int))=((max e 1:Nat):Int):=by split<;>omega
    have mx':(if (e:Int)<(1:Int) then (1:Int) else (e:Int))=((max e 1:Nat):Int):=mx;refine Ws ?_; simp [t0,t6,t9,hx,d1,we,eb,mx,mx'];refine mcallR fl (by simp [numA,svref1]) ?_;simp [t0,t6,t9,hx,d1,we,eb,mx,mx'];refine WS_cT (by simp [t0,t6,t9,hx,d1,we,eb,mx,mx']) ?_;refine Wr ?_; simp [t0,t6,t9,hx,d1,we,eb,mx,mx'];refine mcall fpB sw (by simp [fpB]) ?_;rintro H g svs hhn hhf ⟨rfl,R2,HB2⟩;simp [t0,t6,t9,hx,d1,we,eb,mx,mx'];refine Wr ?_; simp [t0,t6,t9,hx,d1,we,eb,mx,mx'];refine WS_exit ?_; simp [t0,t6,t9,hx,d1,we,eb,mx,mx'];have HB3:BasB H Gb Gd Gm Gr n w (swapB b1 e) R2:=HB2.of hn λq hq=>hhf _ (fpB_mem hq);exact ⟨v',hv',max e 1,swapB b1 e,R2,hI',HB3,by simp [t0],by simp [t6],by simp⟩
   | false=>
    rw [hf] at fl;have hB:=HR.stay v e b1 hA hlt hf;have w2:IntKind.i64.wrap ((e:Int)+1-2)=(e:Int)-1:=by rw [i64_int _ (by omega) (by omega)]; omega
    refine Ws ?_; simp [t0,t6,t9,hx,d1,we,eb,w2];refine mcallR fl (by simp [numA,svref1]) ?_;simp [t0,t6,t9,hx,d1,we,eb,w2];refine WS_cF (by simp [t0,t6,t9,hx,d1,we,eb,w2]) ?_;refine WS_skip ?_; simp [t0,t6,t9,hx,d1,we,eb,w2];refine Ws ?_; simp [t0,t6,t9,hx,d1,we,eb,w2];refine WS_block ?_;refine WS_loop (LrB xs Gb Gd Gm Gr n w v (e+1) B) (λS=>iMJ 10 S) ⟨e,b1,R1,by omega,hB,by simpa using HB,by simp [t0],by simp [t6],by simp [t9],by simp⟩ ?_;clear HB eb HBh t0 t6 t9 fl hA hB hf w2;rintro S2 ⟨j,b2,R2,hj,hBj,HB2,u0,u6,u9,u10⟩;have dm:=iMJ_eq u10;obtain ⟨hind2,hlim2⟩:=HR.indB v (e+1) j b2 hBj;obtain ⟨γ2,ρ2,HBh⟩:=HB2.ex;have eb:=HBh.box;have we1:IntKind.i64.wrap ((e:Int)+1+1)=((e+1+1:Nat):Int):=i64_succ (e+1) (by omega);cases j with
    | zero=>
     have c0:¬ ((0:Int)<=(((0:Nat):Int)-1)):=by omega
     obtain ⟨v',hv',hI'⟩:=HR.done v (e+1) b2 hBj hlt;refine Ws ?_; simp [u0,u6,u9,u10,c0,we1];refine WS_cF (by simp [u0,u6,u9,u10,c0,we1]) ?_;refine WS_exit ?_; simp [u0,u6,u9,u10,c0,we1];refine WS_reg [] ?_; simp [u0,u6,u9,u10,c0,we1];exact ⟨v',hv',e+1+1,b2,R2,hI',by simpa using HB2,by simp [u0],by simp [u6],by simp⟩
    | succ k=>
     have hB':=HR.near1 v (e+1) k b2 hBj hlt (by omega);obtain ⟨hind3,hlim3⟩:=HR.indB v (e+1) k _ hB';have nr:=lnearB HB2 hind2 hlim2 hlim3 hlt (show k<e+1 by omega) hn hw;obtain ⟨b3,hb3⟩:∃ c,c=nearS b2 w (e+1) k:=⟨_,rfl⟩;rw [<- hb3] at hB' nr;rw [show ((e+1:Nat):Int)=(e:Int)+1 from rfl] at nr;have c0:(0:Int)<=(k:Int):=by omega
     have w3:IntKind.i64.wrap ((k:Int)-1)=(k:Int)-1:=i64_int _ (by omega) (by omega);refine Ws ?_; simp [u0,u6,u9,u10,c0,eb,w3];refine WS_cT (by simp [u0,u6,u9,u10,c0,eb,w3]) ?_;refine WS_skip ?_; simp [u0,u6,u9,u10,c0,eb,w3];refine WS_seq (WS_block (WS_reg [] ?_)); simp [u0,u6,u9,u10,c0,eb,w3];refine mcall fpB nr (by simp [fpB]) ?_;rintro H g svs hhn hhf ⟨rfl,R3,HB3⟩;simp [u0,u6,u9,u10,c0,eb,w3];refine WS_reg [] ?_; simp [u0,u6,u9,u10,c0,eb,w3];have HB4:BasB H Gb Gd Gm Gr n w b3 R3:=HB3.of hn λq hq=>hhf _ (fpB_mem hq);refine ⟨⟨k,b3,R3,by omega,hB',HB4,by simp [u0],by simp [u6],by simp [u9],by simp⟩,?_⟩;rw [dm,iMJ_eq (i:=10) (j:=k) (k:=.i64) (by simp)]; omega
 . have hltI:¬ (i:Int)<(n:Int):=by omega
   refine Ws ?_; simp [t0,t9,hx,hltI];refine WS_cF (by simp [t0,t9,hx,hltI]) ?_;refine WS_exit ?_; simp [t0,t9,hx,hltI];exact hQ _ v i b R hI (by omega) (by simpa using HB) (by simp [t6])
def vsOf (xs:List V) (a:Nat):List V:=match xs[a]? with | some (.sl _ vs)=>vs | _=>[]
theorem vsOf_eq {xs:List V} {a:Nat} {sz:Option Nat} {vs:List V} (h:a<xs.length) (e:xs[a]= .sl sz vs):vsOf xs a=vs:=by simp [vsOf,h,e]
theorem takeV_nil {vs:List V} {a:List Int} {x:Int}:takeV vs a [] x=vs:=by
 refine List.ext_getElem (by simp [takeV]) λi h1 h2=>?_;simp [takeV,h2]
theorem rowsR_snoc {i w G:Nat} {ρ:Nat->Nat}:rowsR i w ρ++[.own (i+100+1000) G 0 w]=rowsR (i+1) w (upd ρ i G):=by
 rw [rowsR,rowsR,List.range_succ,List.map_append];congr 1
 . refine List.map_congr_left λk hk=>?_;have:k≠i:=by have:=List.mem_range.1 hk; omega
   rw [upd_ne _ _ this]
 . simp
theorem ltakePP_u {h:Nat->HC} {k q:Nat} {vs ws:List V} {a b:List Int} {x:Int} (hv:IsP k vs a) (hw:IsP k ws b) (hx:zlen x<=k) (hk:k<=2^20) (hn:vs.length<=2^20) (hn2:ws.length<=2^20) (hq:(h (q+1000)).o=none):
 FrU Tryz.prog f_lattice_take h [q+1000] [.p (.sl (some 2) vs),.p (.sl (some 2) ws),.p (Z x)] (q+1000) (.arr 28 (some 2) (takeV vs a b x)) λG=>[.own (q+1000) G 0 vs.length]:=
 (ltakePP hv hw hx hk hn hn2 hq).mono (by
  rintro g svs ⟨G,e1,e2⟩;refine ⟨G,e1,e2,λp hp hne=>?_⟩;simp only [List.mem_cons,List.not_mem_nil,or_false] at hp;exact absurd hp hne)
def RdcS (S:St) (xs:List V) (Gb Gd Gm n w:Nat) (S':St):Prop:=
 ∃ i Gr ρ,i<=n/\S'.h 1013=⟨Gb,some (.sbox 103 [.own 1000 Gd 0 (n+1),.own 1001 Gm 0 n,.own 1012 Gr 0 i])⟩/\S'.h 1012=⟨Gr,some (.rows 22 (rowsR i w ρ))⟩/\
  (∀ a,a<i->S'.h (a+100+1000)=⟨ρ a,some (.arr 28 (some 2) (vsOf xs a))⟩)/\(∀ p,p≠13->p≠12->(p<100\/i+100<=p)->S'.h (p+1000)=S.h (p+1000))/\
  S'.σ 0= .p (.sl none xs)/\S'.σ 6= .ptr 1013 Gb 0/\S'.σ 25= .p (.sl none xs)/\S'.σ 26= .p (.i .i64 (n:Int))/\S'.σ 27= .p (.i .i64 (i:Int))
set_option maxHeartbeats 4000000 in
theorem red_copy {Q:Exit->St->Prop} {S:St} {k:Nat} {xs:List V} {L:List (List Int)} {Gb Gd Gm Gr n w:Nat} {γ:Nat->Nat} {D:Nat->Int} {M:Nat->Nat->Int} (hL:IsL k xs L) (hk:k<=2^18) (hwid:∀ a,a<n->(L.getD a []).length=w) (hn:n<=64) (hw:w<=64) (hx:xs.length=n)
 (HN:NumH S.h Gd Gm n γ D M) (hb:S.h 1013=⟨Gb,some (.sbox 103 [.own 1000 Gd 0 (n+1),.own 1001 Gm 0 n,.own 1012 Gr 0 0])⟩) (ht:S.h 1012=⟨Gr,some (.rows 22 [])⟩) (h10:(S.h 1010).o=none) (hfr:∀ a,a<n->(S.h (a+100+1000)).o=none)
 (s0:S.σ 0= .p (.sl none xs)) (s6:S.σ 6= .ptr 1013 Gb 0)
 (hQ:∀ (S':St) Gr' ρ,BasH S'.h Gb Gd Gm Gr' n w γ ρ D M (vsOf xs)->S'.σ 0= .p (.sl none xs)->S'.σ 6= .ptr 1013 Gb 0->Q .normal S'):
 WS Tryz.prog 111 sc_lattice_Reduce.snd.snd.snd.snd.fst Q S:=by
 have o0:=zof 0 (by omega) (by omega);unfold sc_lattice_Reduce;simp only [SC.snd,SC.fst];refine Wr ?_; simp [s0,s6,hx];refine WS_block ?_;refine WS_loop (RdcS S xs Gb Gd Gm n w) (λS=>n-nM 27 S) ⟨0,Gr,λ_=>0,by omega,by simp [hb],by simp [ht,rowsR],λa ha=>by omega,λp _ _ _=>by simp,by simp [s0],by simp [s6],by simp,by simp,by simp⟩ ?_;rintro S1 ⟨i,G,ρ,hi,k13,k12,hrow,hoth,t0,t6,t25,t26,t27⟩;have d27:=nM_eq t27;by_cases hlt:i<n
 . have hltI:(i:Int)<(n:Int):=by omega
   have hix:i<xs.length:=by omega
   have hixI:(i:Int)<(xs.length:Int):=by omega
   have wi:=i64_succ i (by omega);obtain ⟨vs,hvs,pv⟩:=hL.row i hix;have lv:=pv.len;rw [hwid i hlt] at lv;have hfree:(S1.h (i+100+1000)).o=none:=by rw [hoth (i+100) (by omega) (by omega) (by omega)]; exact hfr i hlt
   have tk:=λ(g:Nat->HC) (hg:(g (i+100+1000)).o=none)=>ltakePP_u (q:=i+100) (ws:=[]) (b:=[]) (x:=0) (pv.mono (show k<=2^20 by omega)) ⟨rfl,λ_ h=>absurd h (by simp)⟩ (by rw [zlen_zero]; omega) (by omega) (by omega) (by simp) hg;rw [takeV_nil,lv,Z_eq] at tk;obtain ⟨b1,b2,b3,b4⟩:=app_bnds (i:=i) (by omega);have htk:(rowsR i w ρ).take i=rowsR i w ρ:=List.take_of_length_le (by simp);have hbnd:(i+1)*24<=140737488355328:=b1;refine Wr ?_; simp [t0,t6,t25,t26,t27,k13,k12,hlt,hltI,hix,hixI,hvs,wi,htk,b1,b2,b3,b4];refine WS_seq ?_;refine WS_cT (by simp [t0,t6,t25,t26,t27,k13,k12,hlt,hltI,hix,hixI,hvs,wi,htk,b1,b2,b3,b4]) ?_;refine WS_skip ?_; simp [t0,t6,t25,t26,t27,k13,k12,hlt,hltI,hix,hixI,hvs,wi,htk,b1,b2,b3,b4];refine WS_seq (WS_block (Wr ?_)); simp [t0,t6,t25,t26,t27,k13,k12,hlt,hltI,hix,hixI,hvs,wi,htk,b1,b2,b3,b4];refine WS_regD [] ?_; simp [t0,t6,t25,t26,t27,k13,k12,hlt,hltI,hix,hixI,hvs,wi,htk,b1,b2,b3,b4];refine callD o0 rfl ?_; simp [t0,t6,t25,t26,t27,k13,k12,hlt,hltI,hix,hixI,hvs,wi,htk,b1,b2,b3,b4];refine callXD ?_;refine mcallUD (tk _ (by simp [hfree])) (by simp) (by simp) (λGn=>?_);simp [t0,t6,t25,t26,t27,k13,k12,hlt,hltI,hix,hixI,hvs,wi,htk,b1,b2,b3,b4];refine ⟨by kernel_rfl,?_⟩;refine WS_reg [] ?_; simp [t0,t6,t25,t26,t27,k13,k12,hlt,hltI,hix,hixI,hvs,wi,htk,b1,b2,b3,b4];have hsn:=rowsR_snoc (i:=i) (w:=w) (G:=Gn) (ρ:=ρ);refine ⟨⟨i+1,G+1,upd ρ i Gn,by omega,by simp,by simp [hsn],λa ha=>?_,λp h1 h2 h3=>?_,by simp [t0],by simp [t6],by simp [t25],by simp [t26],by simp⟩,?_⟩
   . have n1:¬ a+100+1000=1013:=by omega
     have n2:¬ a+100+1000=1012:=by omega
     have n3:¬ a+100+1000=39:=by omega
     by_cases e:a=i
     . subst e;rw [vsOf_eq hix hvs];simp only [upd_apply,n1,n2,n3,if_false,if_true]
     . have n4:¬ a+100+1000=i+100+1000:=by omega
       rw [upd_ne _ _ e];simp only [upd_apply,n1,n2,n3,n4,if_false];exact hrow a (by omega)
   . have n1:¬ p+1000=1013:=by omega
     have n2:¬ p+1000=1012:=by omega
     have n3:¬ p+1000=39:=by omega
     have n4:¬ p+1000=i+100+1000:=by omega
     simp only [upd_apply,n1,n2,n3,n4,if_false];exact hoth p h1 h2 (by omega)
   . rw [d27,nM_eq (i:=27) (n:=i+1) (by simp)]; omega
 . obtain rfl:i=n:=by omega
   have hltI:¬ (i:Int)<(i:Int):=by omega
   refine Wr ?_; simp [t26,t27,hltI];refine WS_seq ?_;refine WS_cF (by simp [t26,t27,hltI]) ?_;refine WS_exit ?_; simp [t26,t27,hltI];refine hQ _ G ρ ⟨HN.of hn λq hq=>hoth q (by omega) (by omega) (by omega),k13,k12,λa ha=>hrow a ha,λa ha=>?_,?_⟩ (by simp [t0]) (by simp [t6])
   . obtain ⟨vs,hvs,pv⟩:=hL.row a (by omega);rw [vsOf_eq (by omega) hvs,pv.len,hwid a ha]
   . show (S1.h (10+1000)).o=none;rw [hoth 10 (by omega) (by omega) (by omega)]; exact h10
def nmL (w c:Nat) (f:Nat->Int) (vs:List V):List V:=(List.range w).map λt=>if t<c then Z (f t) else vs.getD t default
theorem nmL_length (w c:Nat) (f:Nat->Int) (vs:List V):(nmL w c f vs).length=w:=by simp [nmL]
theorem nmL_zero {w:Nat} {f:Nat->Int} {vs:List V} (h:vs.length=w):nmL w 0 f vs=vs:=by
 refine List.ext_getElem (by simp [nmL,h]) λi h1 h2=>?_;simp [nmL,h2]
theorem nmL_end {w:Nat} {f:Nat->Int} {vs:List V}:nmL w w f vs=rowZ w f:=List.map_congr_left λt ht=>by rw [if_pos (by simpa using ht)]
theorem nmL_at {w c:Nat} {f:Nat->Int} {vs:List V} (hc:c<w) (h:vs.length=w):(nmL w c f vs)[c]'(by rw [nmL_length]; exact hc)=vs[c]'(by omega):=by
 have:c<vs.length:=by omega
 simp [nmL,this]
theorem nmL_set {w c:Nat} {f:Nat->Int} {vs:List V} (hc:c<w):(nmL w c f vs).set c (Z (f c))=nmL w (c+1) f vs:=by
 refine List.ext_getElem (by simp [nmL]) λi h1 h2=>?_;rw [List.getElem_set];by_cases e:c=i
 . subst e; simp [nmL]
 . rw [if_neg e];simp only [nmL,List.getElem_map,List.getElem_range];by_cases h4:i<c
   . rw [if_pos h4,if_pos (by omega)]
   . rw [if_neg h4,if_neg (by omega)]
theorem BasH.setR {h h':Nat->HC} {Gb Gd Gm Gr n w k:Nat} {γ ρ:Nat->Nat} {D:Nat->Int} {M:Nat->Nat->Int} {R R':Nat->List V} (H:BasH h Gb Gd Gm Gr n w γ ρ D M R) (hk:k<n) (hn:n<=64) (h1:h' (k+100+1000)=⟨ρ k,some (.arr 28 (some 2) (R' k))⟩) (hl:(R' k).length=w)
 (h2:∀ p,p≠k+100->h' (p+1000)=h (p+1000)) (h3:∀ a,a≠k->R' a=R a):BasH h' Gb Gd Gm Gr n w γ ρ D M R':=by
 refine ⟨H.num.of hn λq hq=>h2 q (by omega),(h2 13 (by omega)).trans H.box,(h2 12 (by omega)).trans H.top,λa ha=>?_,λa ha=>?_,?_⟩
 . by_cases e:a=k
   . subst e; exact h1
   . rw [h2 (a+100) (by omega),H.row a ha,h3 a e]
 . by_cases e:a=k
   . subst e; exact hl
   . rw [h3 a e]; exact H.wid a ha
 . show (h' (10+1000)).o=none;rw [h2 10 (by omega)]; exact H.free
def RnI (S:St) (Gb Gd Gm Gr n w i:Nat) (γ ρ:Nat->Nat) (D:Nat->Int) (M:Nat->Nat->Int) (R:Nat->List V) (f:Nat->Int) (S':St):Prop:=
 ∃ c,c<=w/\BasH S'.h Gb Gd Gm Gr n w γ ρ D M (λa=>if a=i then nmL w c f (R i) else R a)/\S'.σ 89= .p (.i .i64 (c:Int))/\S'.σ 87= .own (i+100+1000) (ρ i) 0 w/\S'.σ 88= .p (.i .i64 (w:Int))/\S'.σ 11= .p (.i .i64 (i:Int))/\∀ t,t=6\/t=80\/t=81\/t=82->S'.σ t=S.σ t
def RnO (Gb Gd Gm Gr n w:Nat) (γ ρ:Nat->Nat) (D:Nat->Int) (M:Nat->Nat->Int) (b:Nat->Nat->Int) (R:Nat->List V) (S':St):Prop:=
 ∃ i,i<=n/\BasH S'.h Gb Gd Gm Gr n w γ ρ D M (λa=>if a<i then rowZ w (b a) else R a)/\S'.σ 6= .ptr 1013 Gb 0/\S'.σ 80= .own 1012 Gr 0 n/\S'.σ 81= .p (.i .i64 (n:Int))/\S'.σ 82= .p (.i .i64 (i:Int))
set_option maxHeartbeats 4000000 in
theorem red_norm {Q:Exit->St->Prop} {S:St} {Gb Gd Gm Gr n w:Nat} {γ ρ:Nat->Nat} {D:Nat->Int} {M:Nat->Nat->Int} {b:Nat->Nat->Int} {R:Nat->List V} (HB:BasH S.h Gb Gd Gm Gr n w γ ρ D M R) (hn:n<=64) (hw:w<=64) (hP:∀ a,a<n->IsP (2^18) (R a) (rl b w a)) (s6:S.σ 6= .ptr 1013 Gb 0)
 (hQ:∀ (S':St),BasH S'.h Gb Gd Gm Gr n w γ ρ D M (λa=>rowZ w (b a))->S'.σ 6= .ptr 1013 Gb 0->Q .normal S'):
 WS Tryz.prog 111 sc_lattice_Reduce.snd.snd.snd.snd.snd.snd.fst Q S:=by
 have eb:=HB.box;have et:=HB.top;unfold sc_lattice_Reduce;simp only [SC.snd,SC.fst];refine Wr ?_; simp [s6,eb,et];refine WS_block ?_;refine WS_loop (RnO Gb Gd Gm Gr n w γ ρ D M b R) (λS=>n-nM 82 S) ⟨0,by omega,by simpa using HB,by simp [s6],by simp,by simp,by simp⟩ ?_;clear eb et HB s6 S;rintro S ⟨i,hi,HB,t6,t80,t81,t82⟩;have d82:=nM_eq t82;have et:=HB.top;by_cases hlt:i<n
 . have hltI:(i:Int)<(n:Int):=by omega
   have wi:=i64_succ i (by omega);have lr:=HB.wid i hlt;simp only [Nat.lt_irrefl,if_false] at lr;have iR:i<(rowsR n w ρ).length:=by simp [hlt]
   have hrow:=HB.row i hlt;refine Wr ?_; simp [t6,t80,t81,t82,et,hlt,hltI,iR,hrow,wi];refine WS_seq ?_;refine WS_cT (by simp [t6,t80,t81,t82,et,hlt,hltI,iR,hrow,wi]) ?_;refine WS_skip ?_; simp [t6,t80,t81,t82,et,hlt,hltI,iR,hrow,wi];refine WS_seq (WS_block (Wr ?_)); simp [t6,t80,t81,t82,et,hlt,hltI,iR,hrow,wi];refine Wr ?_; simp [t6,t80,t81,t82,et,hlt,hltI,iR,hrow,wi];refine WS_block ?_;refine WS_loop (RnI S Gb Gd Gm Gr n w i γ ρ D M (λa=>if a<i then rowZ w (b a) else R a) (b i)) (λS=>w-nM 89 S) ⟨0,by omega,?_,by simp,by simp,by simp,by simp,λt ht=>?_⟩ ?_
   . have:(λa=>if a=i then nmL w 0 (b i) ((λa=>if a<i then rowZ w (b a) else R a) i) else (λa=>if a<i then rowZ w (b a) else R a) a)=λa=>if a<i then rowZ w (b a) else R a:=by
      funext a;by_cases e:a=i
      . subst e; simp only [if_true,Nat.lt_irrefl,if_false]; exact nmL_zero lr
      . simp only [if_neg e]
     rw [this]; simpa using HB
   . simp only [upd_apply];rcases ht with rfl | rfl | rfl | rfl<;>simp
   rintro S1 ⟨c,hc,HB1,u89,u87,u88,u11,hs⟩;have d89:=nM_eq u89;have u6:=(hs 6 (by omega)).trans t6;have u80:=(hs 80 (by omega)).trans t80;have u81:=(hs 81 (by omega)).trans t81;have u82:=(hs 82 (by omega)).trans t82;have eb:=HB1.box;have et1:=HB1.top;have er:=HB1.row i hlt;simp only [if_true,Nat.lt_irrefl,if_false] at er;by_cases hcw:c<w
   . have cI:(c:Int)<(w:Int):=by omega
     have wc:=i64_succ c (by omega);have pi:=hP i hlt;obtain ⟨b1,t1,hvi,hz1,hzi1⟩:=pi.cell c (by omega);have no:=znorm (pi.get c (by omega)) (by omega);rw [rl_cf hcw,hvi] at no;have hat:=nmL_at (f:=b i) hcw lr;rw [hvi] at hat;have hset:=nmL_set (f:=b i) (vs:=R i) hcw;rw [Z_eq] at hset;obtain ⟨y,hy⟩:∃ y,y=b i c:=⟨_,rfl⟩;rw [<- hy] at no hset;have lN:=nmL_length w c (b i) (R i);obtain ⟨N,hN⟩:∃ N,N=nmL w c (b i) (R i):=⟨_,rfl⟩;have hatN:N[c]? =some (.agg [.b b1,.sl none (uL t1)]):=by
      rw [hN,List.getElem?_eq_getElem (by rw [nmL_length]; exact hcw),hat]
     rw [<- hN] at er hset lN;have hcN:c<N.length:=by omega
     have hatN':N[c]= .agg [.b b1,.sl none (uL t1)]:=by
      rw [List.getElem?_eq_getElem hcN] at hatN; exact Option.some.inj hatN
     refine Wr ?_; simp [u6,u89,u87,u88,u11,eb,et1,er,hlt,hltI,iR,hcw,cI,wc,hatN,hatN',lN,hcN,hset];refine WS_seq ?_;refine WS_cT (by simp [u6,u89,u87,u88,u11,eb,et1,er,hlt,hltI,iR,hcw,cI,wc,hatN,hatN',lN,hcN,hset]) ?_;refine WS_skip ?_; simp [u6,u89,u87,u88,u11,eb,et1,er,hlt,hltI,iR,hcw,cI,wc,hatN,hatN',lN,hcN,hset];refine WS_seq (WS_block (Wr ?_)); simp [u6,u89,u87,u88,u11,eb,et1,er,hlt,hltI,iR,hcw,cI,wc,hatN,hatN',lN,hcN,hset];refine WS_regD [] ?_; simp [u6,u89,u87,u88,u11,eb,et1,er,hlt,hltI,iR,hcw,cI,wc,hatN,hatN',lN,hcN,hset];refine callD no rfl ?_; simp [u6,u89,u87,u88,u11,eb,et1,er,hlt,hltI,iR,hcw,cI,wc,hatN,hatN',lN,hcN,hset];refine ⟨by kernel_rfl,?_⟩;refine WS_reg [] ?_; simp [u6,u89,u87,u88,u11,eb,et1,er,hlt,hltI,iR,hcw,cI,wc,hatN,hatN',lN,hcN,hset];refine ⟨⟨c+1,by omega,HB1.setR (k:=i) (R':=λa=>if a=i then nmL w (c+1) (b i) ((λa=>if a<i then rowZ w (b a) else R a) i) else (λa=>if a<i then rowZ w (b a) else R a) a) hlt hn ?_ ?_ (λp hp=>?_) (λa ha=>?_),by simp,by simp [u87],by simp [u88],by simp [u11],λt ht=>?_⟩,?_⟩
     . simp only [if_true,Nat.lt_irrefl,if_false,upd_apply]
     . simp only [if_true,Nat.lt_irrefl,if_false,nmL_length]
     . have n1:¬ p+1000=i+100+1000:=by omega
       have n2:¬ p+1000=14:=by omega
       simp only [upd_apply,n1,n2,if_false]
     . simp only [if_neg ha]
     . have:=hs t ht;rcases ht with rfl | rfl | rfl | rfl<;>simpa using this
     . rw [d89,nM_eq (i:=89) (n:=c+1) (by simp)]; omega
   . obtain rfl:c=w:=by omega
     have cI:¬ (c:Int)<(c:Int):=by omega
     refine Wr ?_; simp [u89,u88,cI,u82,wi];refine WS_seq ?_;refine WS_cF (by simp [u89,u88,cI,u82,wi]) ?_;refine WS_exit ?_; simp [u89,u88,cI,u82,wi];refine WS_reg [] ?_; simp [u89,u88,cI,u82,wi];refine ⟨⟨i+1,by omega,HB1.congr (λ_ _=>rfl) (λ_ _ _ _=>rfl) (λa ha=>?_),by simp [u6],by simp [u80],by simp [u81],by simp⟩,?_⟩
     . by_cases e:a=i
       . subst e;simp only [if_true,Nat.lt_irrefl,if_false,Nat.lt_succ_self,nmL_end]
       . simp only [if_neg e];by_cases h4:a<i
         . rw [if_pos h4,if_pos (by omega)]
         . rw [if_neg h4,if_neg (by omega)]
     . rw [d82,nM_eq (i:=82) (n:=i+1) (by simp)]; omega
 . obtain rfl:i=n:=by omega
   have hltI:¬ (i:Int)<(i:Int):=by omega
   refine Wr ?_; simp [t81,t82,hltI];refine WS_seq ?_;refine WS_cF (by simp [t81,t82,hltI]) ?_;refine WS_exit ?_; simp [t81,t82,hltI];refine hQ _ ?_ (by simp [t6]);exact HB.congr (λ_ _=>rfl) (λ_ _ _ _=>rfl) λa ha=>if_pos ha
def bOf (L:List (List Int)) (a:Nat):Nat->Int:=cf (L.getD a [])
theorem dtZ_dz (a b:List Int):∀ w,dtZ a b w=dz (cf a) (cf b) w
 | 0=>rfl
 | w+1=>by rw [dtZ,dz,dtZ_dz a b w]
theorem dz_zero {u v:Nat->Int} (h:∀ c,u c=0):∀ w,dz u v w=0
 | 0=>rfl
 | w+1=>by rw [dz,dz_zero h w,h w]; simp
theorem bOf_out {L:List (List Int)} {a:Nat} (h:¬ a<L.length) (c:Nat):bOf L a c=0:=by
 have:L.getD a []=[]:=by rw [List.getD_eq_getElem?_getD,List.getElem?_eq_none (by omega)]; rfl
 rw [bOf,this]; exact cf_ge (by simp)
theorem gW_eq (L:List (List Int)) (w:Nat):gW L w=gz (bOf L) w:=by
 funext i j;unfold gW;by_cases h:i<L.length/\j<L.length
 . rw [if_pos h]; exact dtZ_dz _ _ _
 . rw [if_neg h];by_cases hi:i<L.length
   . rw [gz,dz_comm]; exact (dz_zero (bOf_out (λe=>h ⟨hi,e⟩)) w).symm
   . exact (dz_zero (bOf_out hi) w).symm
theorem fpS_out {n q:Nat} (h:n+20<=q):q+1000 ∉ fpS n:=by
 simp only [fpS,List.mem_map,List.mem_range]; rintro ⟨i,hi,e⟩; omega
theorem fpS_low {n q:Nat} (h:q<1000):q ∉ fpS n:=by
 simp only [fpS,List.mem_map,List.mem_range]; rintro ⟨i,hi,e⟩; omega
attribute [local simp] fillS fillOkS nilZ St.evN
set_option maxHeartbeats 4000000 in
theorem lreduce {k n w v0:Nat} {xs:List V} {L:List (List Int)} {I A:Nat->Nat->(Nat->Nat->Int)->Prop} {B:Nat->Nat->Nat->(Nat->Nat->Int)->Prop} (hL:IsL k xs L) (hk:k<=2^12) (hx:xs.length=n) (hw0:(L.getD 0 []).length=w) (hok:okL L) (hnz:∀ t,t<n->brM (gW L w) t t t≠0)
 (HR:Run n w I A B) (h0:I v0 1 (bOf L)) (hw:w<=64):
 Spec Tryz.prog f_lattice_Reduce [.sl none xs] (λrvs=>∃ v i b,I v i b/\n<=i/\rvs=[.pure (.sl none ((List.range n).map λa=>.sl (some 2) (rowZ w (b a)))),.pure (.i .i64 0)]):=by
 have hlen:=hL.len;have hn:n<=64:=by have:=hok.1; omega
 have hwid:∀ a,a<n->(L.getD a []).length=w:=λa ha=>by rw [<- hw0]; exact (hok.2 a (by omega)).2
 have st:=λ(h:Nat->HC) (hf:∀ q,q<xs.length+20->(h (q+1000)).o=none)=>lstripped hL hk (by omega) (λi hi=>by rw [hwid i (by omega)]; omega) hf true (by
  rw [hw0]; simp only [true_iff]; exact ⟨hok,λt ht=>hnz t (by omega)⟩)
 rw [hw0,hx] at st;refine spec_at Tryz.func44 ok_lattice_Reduce [] rfl (by simp) ?_;unfold sc_lattice_Reduce;refine Wr ?_; simp;refine Wr ?_; simp;refine callX ?_;refine mcall _ (st _ λq _=>by simp) (by simp) ?_;rintro H g svs hhn hhf ⟨Gd,Gm,j,rfl,hyes⟩;simp;refine Ws ?_; simp;refine WS_cF (by simp) ?_;refine WS_skip ?_; simp;refine Wr ?_; simp;obtain ⟨hj,hd,γ,hm,hfr,hrow⟩:=hyes rfl;subst hj;have h24:H 24=⟨0,none⟩:=hhn 24 (fpS_low (by omega));have hout:∀ q,j+20<=q->H (q+1000)=⟨0,none⟩:=λq hq=>hhn _ (fpS_out hq);have hin:∀ q,q<j+20->H (q+1000)=g (q+1000):=λq hq=>hhf _ (fpS_mem hq);refine WS_abs (λS=>S.σ 0= .p (.sl none xs)/\S.σ 6= .ptr 24 1 0/\S.h 24=⟨1,some (.sbox 103 [.own 1000 Gd 0 (j+1),.own 1001 Gm 0 j,.nil])⟩/\∀ q,S.h (q+1000)=H (q+1000)) ?_ ?_
 . simp [h24]
 have HN:NumH H Gd Gm j γ (bD (bOf L) w) (bM (bOf L) w):=by
  rw [gW_eq] at hd hrow;exact ⟨(hin 0 (by omega)).trans hd,(hin 1 (by omega)).trans hm,λa ha=>(hin (a+20) (by omega)).trans (hrow a ha)⟩
 have f10:∀ q,2<=q->q<20->(H (q+1000)).o=none:=λq h1 h2=>by rw [hin q (by omega)]; exact hfr q h1 h2
 clear hhn hhf hyes st hd hm hfr hrow h24 hin g;rintro S ⟨s0,s6,k24,hH⟩;refine WS_move 24 1013 (by rw [k24]) (by rw [show (1013:Nat)=13+1000 from rfl,hH]; exact f10 13 (by omega) (by omega)) (by decide) (by decide) (by simp [HObj.refs]) ?_;refine WS_abs (λS'=>S'.σ 0= .p (.sl none xs)/\S'.σ 6= .ptr 1013 ((H 1013).g+1) 0/\S'.h 1013=⟨(H 1013).g+1,some (.sbox 103 [.own 1000 Gd 0 (j+1),.own 1001 Gm 0 j,.nil])⟩/\∀ q,q≠13->S'.h (q+1000)=H (q+1000)) ?_ ?_
 . have e13:S.h 1013=H 1013:=hH 13;refine ⟨by simp [St.move,s0,ren2,ren1,ren0],by simp [St.move,s6,ren2,ren1,ren0,k24,e13],by simp [St.move,k24,e13],λq hq=>?_⟩;have h2:¬ q+1000<1000:=by omega
   have h3:¬ q+1000=24:=by omega
   simp [St.move,hq,h2,h3,hH q]
 clear S s0 s6 k24 hH;obtain ⟨Gb,hGb⟩:∃ G,G=(H 1013).g+1:=⟨_,rfl⟩;rw [<- hGb];clear hGb;rintro S ⟨s0,s6,k13,hH⟩;have k12:S.h 1012=H 1012:=hH 12 (by omega);refine WS_nil 1013 2 1012 22 none (by rw [k13]) (by simp) (by rw [k12]; exact f10 12 (by omega) (by omega)) (by omega) ?_;refine WS_rows 1012 (T:=22) (xs:=[]) (by simp) ?_;refine WS_abs (λS'=>S'.σ 0= .p (.sl none xs)/\S'.σ 6= .ptr 1013 Gb 0/\∃ Gr,S'.h 1013=⟨Gb,some (.sbox 103 [.own 1000 Gd 0 (j+1),.own 1001 Gm 0 j,.own 1012 Gr 0 0])⟩/\S'.h 1012=⟨Gr,some (.rows 22 [])⟩/\∀ q,q≠13->q≠12->S'.h (q+1000)=H (q+1000)) ?_ ?_
 . refine ⟨by simp [s0],by simp [s6],(S.h 1012).g+1,by simp [k13],by simp,λq h1 h2=>?_⟩;simp [h1,h2,hH q h1]
 clear S s0 s6 k13 hH k12;rintro S ⟨s0,s6,Gr,k13,k12,hH⟩;refine WS_seq ?_;refine red_copy hL (by omega) hwid hn hw hx (HN.of hn λq hq=>hH q (by omega) (by omega)) k13 k12 (by rw [show (1010:Nat)=10+1000 from rfl,hH 10 (by omega) (by omega)]; exact f10 10 (by omega) (by omega)) (λa ha=>by rw [hH (a+100) (by omega) (by omega),hout (a+100) (by omega)]) s0 s6 ?_;intro S1 Gr1 ρ HB1 t0 t6;have HBB:BasB S1.h Gb Gd Gm Gr1 j w (bOf L) (vsOf xs):=by
  refine ⟨⟨γ,ρ,HB1⟩,λa ha=>?_⟩;obtain ⟨vs,hvs,pv⟩:=hL.row a (by omega);rw [vsOf_eq (by omega) hvs];have e:rl (bOf L) w a=L.getD a []:=by
   refine List.ext_getElem (by rw [rl_length,hwid a ha]) λi h1 h2=>?_;simp only [rl,List.getElem_map,List.getElem_range,bOf];rw [cf_lt h2]
  rw [e]; exact pv.mono (by omega)
 show WS Tryz.prog 111 _ _ S1;refine WS_seq ?_;refine red_main HR h0 HBB hn hw hx t0 t6 ?_;intro S2 v i b R hI hni HB2 u6;obtain ⟨γ2,ρ2,HB3⟩:=HB2.ex;show WS Tryz.prog 111 _ _ S2;refine WS_seq ?_;refine red_norm HB3 hn hw HB2.row u6 ?_;intro S3 HB4 x6;have eb:=HB4.box;have et:=HB4.top;show WS Tryz.prog 111 _ _ S3;refine Wr ?_; simp [x6,eb,et];refine WS_frzAll 1012 2 j (T:=22) (G:=Gr1) (nm:=λa=>a+100+1000) (γ:=ρ2) (F:=λa=>rowZ w (b a)) (λi hi=>by omega) (λi k hi hk e=>by omega) j 0 _ (by omega) (by simp) ?_ (λa _ ha=>HB4.row a ha) ?_
 . show S3.h 1012=_;rw [et];simp [frR,rowsR]
 intro S4 y2 yo;have y3:S4.σ 3= .p (.i .i64 0):=by rw [yo 3 (by omega)]; simp
 refine WS_ret ?_; simp [y2,y3];exact ⟨v,i,b,hI,hni,λa ha=>rfl⟩
theorem basis_iff {L:List (List Int)} (ho:okL L):((∀ t,t<L.length->brM (gW L (L.getD 0 []).length) t t t≠0)↔detZ L.length (gm L)≠0)/\((∀ t,t<L.length->brM (gW L (L.getD 0 []).length) t t t≠0)->brD (gW L (L.getD 0 []).length) L.length=detZ L.length (gm L)):=by
 obtain ⟨w,hw⟩:∃ w,w=(L.getD 0 []).length:=⟨_,rfl⟩;rw [<- hw];have hd:detZ L.length (gW L w)=detZ L.length (gm L):=by
  have:((detZ L.length (gW L w):Int):Rat)=((detZ L.length (gm L):Int):Rat):=by
   rw [<- det_cast,<-det_cast];exact det_congr λr c hr hc=>by unfold gW; rw [if_pos ⟨hr,hc⟩,gm,(ho.2 r hr).2,hw]
  exact_mod_cast this
 have hG:∀ i j,i<L.length->j<L.length->((gW L w i j:Int):Rat)=dq (λc=>((cf (L.getD i []) c:Int):Rat)) (λc=>((cf (L.getD j []) c:Int):Rat)) w:=λi j hi hj=>by
  unfold gW; rw [if_pos ⟨hi,hj⟩,dtZ_cast]
 refine ⟨⟨λh=>?_,λh t ht h0=>?_⟩,λh=>?_⟩
 . rw [<- hd,Go.Dt.gram_end h];have:=brI_pos (brM_inv (n:=L.length) (Nat.le_refl _) h);exact this
 . obtain ⟨u,hu,hl⟩:=least_of (p:=λt=>t<L.length/\brM (gW L w) t t t=0) t ⟨ht,h0⟩;refine h ?_;rw [<- hd];exact gram_zero (w:=w) (k:=u) _ hG hu.1 (λs hs h1=>hl s hs ⟨by omega,h1⟩) hu.2
 . rw [<- hd,Go.Dt.gram_end h]
def redP (b:Nat->Nat->Int) (n w:Nat):Prop:=∀ i,i<n->(∀ j,j<i->farB b w i j=false)/\(0<i->fallB b w i=false)
set_option maxHeartbeats 4000000 in
theorem lgramE {k:Nat} {xs:List V} {L:List (List Int)} (hL:IsL k xs L) (hk:k<=2^12) (hn:xs.length<=2^40) (hw:∀ i,i<xs.length->(L.getD i []).length<=2^40) (r:Bool) (hr:r=true↔okL L/\detZ L.length (gm L)≠0):
 Spec Tryz.prog f_lattice_Gram [.sl none xs] (· =(if r then [.pure (Z (detZ L.length (gm L))),.pure (.i .i64 0)] else [.pure (Z 0),.pure (.i .i64 1)])):=by
 have hlen:=hL.len;have z0:zn 0=false:=rfl;have z1:uL (zl 0)=[]:=rfl;have hr':r=true↔okL L/\∀ t,t<L.length->brM (gW L (L.getD 0 []).length) t t t≠0:=by
  rw [hr]; exact ⟨λh=>⟨h.1,(basis_iff h.1).1.2 h.2⟩,λh=>⟨h.1,(basis_iff h.1).1.1 h.2⟩⟩
 have st:=λ(h:Nat->HC) (hf:∀ q,q<xs.length+20->(h (q+1000)).o=none)=>lstripped hL hk hn hw hf r hr';refine spec_at Tryz.func51 ok_lattice_Gram [] rfl (by simp) ?_;unfold sc_lattice_Gram;cases r with
 | false=>
  refine Wr ?_; simp;refine Wr ?_; simp;refine callX ?_;refine mcall _ (st _ λq _=>by simp) (by simp) ?_;rintro H g svs hhn hhf ⟨Gd,Gm,j,rfl,_⟩;have h2:H 2=_:=hhn 2 (fpS_low (by omega));simp [h2,z0,z1];refine Ws ?_; simp [h2,z0,z1];refine WS_cT (by simp [h2,z0,z1]) ?_;refine Wr ?_; simp [h2,z0,z1];refine WS_ret ?_; simp [h2,z0,z1]
 | true=>
  obtain ⟨ho,hne⟩:=hr.1 rfl;have hdet:=(basis_iff ho).2 ((hr'.1 rfl).2);obtain ⟨G,hG⟩:∃ G,G=gW L (L.getD 0 []).length:=⟨_,rfl⟩;rw [<- hG] at hdet st;obtain ⟨y,hy⟩:∃ y,y=detZ L.length (gm L):=⟨_,rfl⟩;rw [<- hy,<-hlen] at hdet;rw [<- hy];have a1:(xs.length:Int)<(xs.length:Int)+1:=by omega
  have a2:xs.length<xs.length+1:=by omega
  refine Wr ?_; simp;refine Wr ?_; simp;refine callX ?_;refine mcall _ (st _ λq _=>by simp) (by simp) ?_;rintro H g svs hhn hhf ⟨Gd,Gm,j,rfl,hyes⟩;obtain ⟨hj,hd,γ,hm,hfr,hrow⟩:=hyes rfl;subst hj;have h2:H 2=_:=hhn 2 (fpS_low (by omega));have hd':H 1000=_:=(hhf _ (fpS_mem (q:=0) (by omega))).trans hd;simp [h2,hd',a1,a2,hdet];refine Ws ?_; simp [h2,hd',a1,a2,hdet];refine WS_cF (by simp [h2,hd',a1,a2,hdet]) ?_;refine WS_skip ?_; simp [h2,hd',a1,a2,hdet];refine Wr ?_; simp [h2,hd',a1,a2,hdet];refine WS_ret ?_; simp [h2,hd',a1,a2,hdet]
theorem FrR_of {P:Program} {f:FuncId} {h h':Nat->HC} {fp:List Nat} {args r:List SV} (H:FrR P f h fp args r) (he:∀ q,h' (q+1000)=h (q+1000)):(∀ q∈fp,1000<=q)->FrR P f h' fp args r:=by
 intro hb h2 hh;have ef:∀ q∈fp,h' q=h q:=λq hq=>by
  obtain ⟨p,rfl⟩:∃ p,q=p+1000:=⟨q-1000,by have:=hb q hq; omega⟩;exact he p
 intro A w0 w μ vals a b c d e';refine (H h2 (λr hr=>(hh r hr).trans (ef r hr)) A w0 w μ vals a b c d e').mono ?_;rintro e w' ⟨h',svs,vs,μ',⟨δ,⟨g,e1,e2,e3⟩,e4,e5⟩,rest⟩;exact ⟨h',svs,vs,μ',⟨δ,⟨g,e1,e2,λq hq=>(e3 q hq).trans (ef q hq).symm⟩,e4,e5⟩,rest⟩
def RddO (xs:List V) (Gd Gm n:Nat) (γ:Nat->Nat) (b:Nat->Nat->Int) (w g4:Nat) (S:St):Prop:=
 ∃ i,i<=n/\NumH S.h Gd Gm n γ (bD b w) (bM b w)/\S.σ 4= .ptr 4 g4 0/\S.h 4=⟨g4,some (.sbox 98 [.own 1000 Gd 0 (n+1),.own 1001 Gm 0 n])⟩/\S.σ 16= .p (.i .i64 (n:Int))/\S.σ 17= .p (.i .i64 (i:Int))/\redP b i w
def RddI (xs:List V) (Gd Gm n:Nat) (γ:Nat->Nat) (b:Nat->Nat->Int) (w g4 i:Nat) (S:St):Prop:=
 ∃ j,j<=i/\NumH S.h Gd Gm n γ (bD b w) (bM b w)/\S.σ 4= .ptr 4 g4 0/\S.h 4=⟨g4,some (.sbox 98 [.own 1000 Gd 0 (n+1),.own 1001 Gm 0 n])⟩/\S.σ 16= .p (.i .i64 (n:Int))/\S.σ 17= .p (.i .i64 (i:Int))/\S.σ 6= .p (.i .i64 (i:Int))/\S.σ 20= .p (.i .i64 (i:Int))/\S.σ 21= .p (.i .i64 (j:Int))/\∀ u,u<j->farB b w i u=false
set_option maxHeartbeats 4000000 in
theorem lreduced {k n w:Nat} {xs:List V} {L:List (List Int)} (hL:IsL k xs L) (hk:k<=2^12) (hx:xs.length=n) (hw0:(L.getD 0 []).length=w) (hok:okL L) (hnz:∀ t,t<n->brM (gW L w) t t t≠0) (hlim:Lim (bOf L) n w) (v:Bool) (hv:v=true↔redP (bOf L) n w):
 Spec Tryz.prog f_lattice_Reduced [.sl none xs] (· =[.pure (.b v),.pure (.i .i64 0)]):=by
 have hlen:=hL.len;have hn:n<=64:=by have:=hok.1; omega
 have hwid:∀ a,a<n->(L.getD a []).length=w:=λa ha=>by rw [<- hw0]; exact (hok.2 a (by omega)).2
 have hw64:∀ i,i<n->w<=64:=λi hi=>by rw [<- hwid i hi]; exact (hok.2 i (by omega)).1
 have st:=λ(h:Nat->HC) (hf:∀ q,q<xs.length+20->(h (q+1000)).o=none)=>lstripped hL hk (by omega) (λi hi=>by rw [hwid i (by omega)]; have:=hw64 i (by omega); omega) hf true (by
  rw [hw0]; simp only [true_iff]; exact ⟨hok,λt ht=>hnz t (by omega)⟩)
 rw [hw0,hx] at st;refine spec_at Tryz.func54 ok_lattice_Reduced [] rfl (by simp) ?_;unfold sc_lattice_Reduced;refine Wr ?_; simp [hx];refine Wr ?_; simp [hx];refine callX ?_;refine mcall _ (st _ λq _=>by simp) (by simp) ?_;rintro H g svs hhn hhf ⟨Gd,Gm,j,rfl,hyes⟩;simp [hx];refine Ws ?_; simp [hx];refine WS_cF (by simp [hx]) ?_;refine WS_skip ?_; simp [hx];obtain ⟨hj,hd,γ,hm,hfr,hrow⟩:=hyes rfl;subst hj;have h4:H 4=⟨0,none⟩:=hhn 4 (fpS_low (by omega));have hin:∀ q,q<j+20->H (q+1000)=g (q+1000):=λq hq=>hhf _ (fpS_mem hq);have HN:NumH H Gd Gm j γ (bD (bOf L) w) (bM (bOf L) w):=by
  rw [gW_eq] at hd hrow;exact ⟨(hin 0 (by omega)).trans hd,(hin 1 (by omega)).trans hm,λa ha=>(hin (a+20) (by omega)).trans (hrow a ha)⟩
 obtain ⟨b,hb⟩:∃ b,b=bOf L:=⟨_,rfl⟩;rw [<- hb] at HN hlim hv;refine WS_abs (λS=>NumH S.h Gd Gm j γ (bD b w) (bM b w)/\S.σ 0= .p (.sl none xs)/\S.σ 4= .ptr 4 1 0/\S.h 4=⟨1,some (.sbox 98 [.own 1000 Gd 0 (j+1),.own 1001 Gm 0 j])⟩) ?_ ?_
 . exact ⟨HN.of hn λq _=>by simp,by simp,by simp [h4],by simp [h4]⟩
 clear hhn hhf hyes st hd hm hfr hrow h4 hin HN g H;rintro S ⟨HN,s0,s4,k4⟩;refine Ws ?_; simp [s0,hx];refine WS_block ?_;refine WS_loop (RddO xs Gd Gm j γ b w 1) (λS=>j-nM 17 S) ⟨0,by omega,HN.of hn λq _=>by simp,by simp [s4],by simp [k4],by simp,by simp,λi hi=>by omega⟩ ?_;clear HN s0 s4 k4 S;rintro S ⟨i,hi,HN,t4,k4,t16,t17,hp⟩;have d17:=nM_eq t17;have hbad:(farB b w i 0=true\/True)->True:=λ_=>trivial;by_cases hlt:i<j
 . have hltI:(i:Int)<(j:Int):=by omega
   have wi:=i64_succ i (by omega);refine Wr ?_; simp [t4,k4,t16,t17,hltI];refine WS_seq ?_;refine WS_cT (by simp [t4,k4,t16,t17,hltI]) ?_;refine WS_skip ?_; simp [t4,k4,t16,t17,hltI];refine WS_seq (WS_block (Wr ?_)); simp [t4,k4,t16,t17,hltI];refine Ws ?_; simp [t4,k4,t16,t17,hltI];refine WS_block ?_;refine WS_loop (RddI xs Gd Gm j γ b w 1 i) (λS=>i-nM 21 S) ⟨0,by omega,HN.of hn λq _=>by simp,by simp [t4],by simp [k4],by simp [t16],by simp [t17],by simp,by simp,by simp,λu hu=>by omega⟩ ?_;clear HN t4 k4 t16 t17;rintro S1 ⟨c,hc,HN,t4,k4,t16,t17,t6,t20,t21,hfar⟩;have d21:=nM_eq t21;by_cases hci:c<i
   . have cI:(c:Int)<(i:Int):=by omega
     have wc:=i64_succ c (by omega);have fr:=lfar HN hlt (show c<=i by omega) hn (Nat.le_trans (hlim.m i c hlt (by omega)) (by omega)) (Nat.le_trans (hlim.d (c+1) (by omega)) (by omega));rw [show decide (bD b w (c+1)<((bM b w i c+bM b w i c).natAbs:Int))=farB b w i c from rfl] at fr;cases hf:farB b w i c with
     | true=>
      rw [hf] at fr;have hv0:v=false:=by
       cases v with
       | false=>rfl
       | true=>have:=(hv.1 rfl i hlt).1 c hci; rw [hf] at this; cases this
      refine Wr ?_; simp [t4,k4,t16,t17,t6,t20,t21,cI,hv0];refine WS_seq ?_;refine WS_cT (by simp [t4,k4,t16,t17,t6,t20,t21,cI,hv0]) ?_;refine WS_skip ?_; simp [t4,k4,t16,t17,t6,t20,t21,cI,hv0];refine WS_seq (WS_block (Wr ?_)); simp [t4,k4,t16,t17,t6,t20,t21,cI,hv0];refine Wr ?_; simp [t4,k4,t16,t17,t6,t20,t21,cI,hv0];refine mcallR (FrR_of fr (λq=>by simp) (by simp)) (by simp [numA,svref1]) ?_;simp [t4,k4,t16,t17,t6,t20,t21,cI,hv0];refine WS_cT (by simp [t4,k4,t16,t17,t6,t20,t21,cI,hv0]) ?_;refine Wr ?_; simp [t4,k4,t16,t17,t6,t20,t21,cI,hv0];refine WS_ret ?_; simp [t4,k4,t16,t17,t6,t20,t21,cI,hv0]
     | false=>
      rw [hf] at fr;refine Wr ?_; simp [t4,k4,t16,t17,t6,t20,t21,cI,wc];refine WS_seq ?_;refine WS_cT (by simp [t4,k4,t16,t17,t6,t20,t21,cI,wc]) ?_;refine WS_skip ?_; simp [t4,k4,t16,t17,t6,t20,t21,cI,wc];refine WS_seq (WS_block (Wr ?_)); simp [t4,k4,t16,t17,t6,t20,t21,cI,wc];refine Wr ?_; simp [t4,k4,t16,t17,t6,t20,t21,cI,wc];refine mcallR (FrR_of fr (λq=>by simp) (by simp)) (by simp [numA,svref1]) ?_;simp [t4,k4,t16,t17,t6,t20,t21,cI,wc];refine WS_cF (by simp [t4,k4,t16,t17,t6,t20,t21,cI,wc]) ?_;refine WS_skip ?_; simp [t4,k4,t16,t17,t6,t20,t21,cI,wc];refine WS_reg [] ?_; simp [t4,k4,t16,t17,t6,t20,t21,cI,wc];refine ⟨⟨c+1,by omega,HN.of hn λq _=>by simp,by simp [t4],by simp [k4],by simp [t16],by simp [t17],by simp [t6],by simp [t20],by simp,λu hu=>?_⟩,?_⟩
      . by_cases e:u=c
        . subst e; exact hf
        . exact hfar u (by omega)
      . rw [d21,nM_eq (i:=21) (n:=c+1) (by simp)]; omega
   . obtain rfl:c=i:=by omega
     have cI:¬ (c:Int)<(c:Int):=by omega
     by_cases hi0:0<c
     . have i0I:(0:Int)<(c:Int):=by omega
       have fl:=lfalls HN hlt hi0 hn (Nat.le_trans (hlim.m c (c-1) hlt (by omega)) (by omega)) (Nat.le_trans (hlim.d (c-1) (by omega)) (by omega)) (Nat.le_trans (hlim.d c (by omega)) (by omega)) (Nat.le_trans (hlim.d (c+1) (by omega)) (by omega));rw [show decide (4*(bD b w (c+1)*bD b w (c-1)+bM b w c (c-1)*bM b w c (c-1))<3*(bD b w c*bD b w c))=fallB b w c from rfl] at fl;cases hf:fallB b w c with
       | true=>
        rw [hf] at fl;have hv0:v=false:=by
         cases v with
         | false=>rfl
         | true=>have:=(hv.1 rfl c hlt).2 hi0; rw [hf] at this; cases this
        refine Wr ?_; simp [t4,k4,t16,t17,t6,t20,t21,cI,i0I,hi0,hv0];refine WS_seq ?_;refine WS_cF (by simp [t4,k4,t16,t17,t6,t20,t21,cI,i0I,hi0,hv0]) ?_;refine WS_exit ?_; simp [t4,k4,t16,t17,t6,t20,t21,cI,i0I,hi0,hv0];refine Wr ?_; simp [t4,k4,t16,t17,t6,t20,t21,cI,i0I,hi0,hv0];refine mcallR (FrR_of fl (λq=>by simp) (by simp)) (by simp [numA,svref1]) ?_;simp [t4,k4,t16,t17,t6,t20,t21,cI,i0I,hi0,hv0];refine WS_cT (by simp [t4,k4,t16,t17,t6,t20,t21,cI,i0I,hi0,hv0]) ?_;refine Wr ?_; simp [t4,k4,t16,t17,t6,t20,t21,cI,i0I,hi0,hv0];refine WS_ret ?_; simp [t4,k4,t16,t17,t6,t20,t21,cI,i0I,hi0,hv0]
       | false=>
        rw [hf] at fl;refine Wr ?_; simp [t4,k4,t16,t17,t6,t20,t21,cI,i0I,hi0,wi];refine WS_seq ?_;refine WS_cF (by simp [t4,k4,t16,t17,t6,t20,t21,cI,i0I,hi0,wi]) ?_;refine WS_exit ?_; simp [t4,k4,t16,t17,t6,t20,t21,cI,i0I,hi0,wi];refine Wr ?_; simp [t4,k4,t16,t17,t6,t20,t21,cI,i0I,hi0,wi];refine mcallR (FrR_of fl (λq=>by simp) (by simp)) (by simp [numA,svref1]) ?_;simp [t4,k4,t16,t17,t6,t20,t21,cI,i0I,hi0,wi];refine WS_cF (by simp [t4,k4,t16,t17,t6,t20,t21,cI,i0I,hi0,wi]) ?_;refine WS_skip ?_; simp [t4,k4,t16,t17,t6,t20,t21,cI,i0I,hi0,wi];refine WS_reg [] ?_; simp [t4,k4,t16,t17,t6,t20,t21,cI,i0I,hi0,wi];refine ⟨⟨c+1,by omega,HN.of hn λq _=>by simp,by simp [t4],by simp [k4],by simp [t16],by simp,λu hu=>?_⟩,?_⟩
        . by_cases e:u=c
          . subst e; exact ⟨hfar,λ_=>hf⟩
          . exact hp u (by omega)
        . rw [d17,nM_eq (i:=17) (n:=c+1) (by simp)]; omega
     . have hc0:c=0:=by omega
       subst hc0;have w1:IntKind.i64.wrap 1=1:=by decide
       refine Wr ?_; simp [t4,k4,t16,t17,t6,t20,t21,wi,w1];refine WS_seq ?_;refine WS_cF (by simp [t4,k4,t16,t17,t6,t20,t21,wi,w1]) ?_;refine WS_exit ?_; simp [t4,k4,t16,t17,t6,t20,t21,wi,w1];refine Wr ?_; simp [t4,k4,t16,t17,t6,t20,t21,wi,w1];refine WS_cF (by simp [t4,k4,t16,t17,t6,t20,t21,wi,w1]) ?_;refine WS_skip ?_; simp [t4,k4,t16,t17,t6,t20,t21,wi,w1];refine WS_reg [] ?_; simp [t4,k4,t16,t17,t6,t20,t21,wi,w1];refine ⟨⟨0+1,by omega,HN.of hn λq _=>by simp,by simp [t4],by simp [k4],by simp [t16],by simp [w1],λu hu=>?_⟩,?_⟩
       . obtain rfl:u=0:=by omega
         exact ⟨hfar,λh=>by omega⟩
       . rw [d17,nM_eq (i:=17) (n:=1) (by simp [w1])]; omega
 . obtain rfl:i=j:=by omega
   have hltI:¬ (i:Int)<(i:Int):=by omega
   have hv1:v=true:=hv.2 hp;refine Wr ?_; simp [t16,t17,hltI,hv1];refine WS_seq ?_;refine WS_cF (by simp [t16,t17,hltI,hv1]) ?_;refine WS_exit ?_; simp [t16,t17,hltI,hv1];refine Wr ?_; simp [t16,t17,hltI,hv1];refine WS_ret ?_; simp [t16,t17,hltI,hv1]
def smI (x:Nat->Int) (b:Nat->Nat->Int) (c:Nat):Nat->Int
 | 0=>0
 | n+1=>smI x b c n+x n*b n c
def InLat (b:Nat->Nat->Int) (n w:Nat) (v:Nat->Int):Prop:=∃ x:Nat->Int,∀ c,c<w->v c=smI x b c n
theorem smI_add (x y:Nat->Int) (q:Int) (b:Nat->Nat->Int) (c:Nat):∀ n,smI (λu=>x u-q*y u) b c n=smI x b c n-q*smI y b c n
 | 0=>by simp [smI]
 | n+1=>by rw [smI,smI,smI,smI_add x y q b c n]; grind
theorem smI_zero (b:Nat->Nat->Int) (c:Nat):∀ n,smI (λ_=>0) b c n=0
 | 0=>rfl
 | n+1=>by rw [smI,smI_zero b c n]; simp
theorem smI_one (b:Nat->Nat->Int) (c a:Nat):∀ n,smI (λu=>if u=a then 1 else 0) b c n=if a<n then b a c else 0
 | 0=>by simp [smI]
 | n+1=>by
  rw [smI,smI_one b c a n];by_cases h:a<n
  . have h1:¬ n=a:=by omega
    rw [if_pos h,if_neg h1,if_pos (by omega)]; simp
  . by_cases h1:n=a
    . subst h1; rw [if_neg h,if_pos rfl,if_pos (by omega)]; simp
    . rw [if_neg h,if_neg h1,if_neg (by omega)]; simp
theorem InLat.lin {b:Nat->Nat->Int} {n w:Nat} {u v:Nat->Int} (hu:InLat b n w u) (hv:InLat b n w v) (q:Int):InLat b n w (λc=>u c-q*v c):=by
 obtain ⟨x,hx⟩:=hu;obtain ⟨y,hy⟩:=hv;exact ⟨λk=>x k-q*y k,λc hc=>by show u c-q*v c=_; rw [smI_add,hx c hc,hy c hc]⟩
theorem InLat.zero (b:Nat->Nat->Int) (n w:Nat):InLat b n w (λ_=>0):=⟨λ_=>0,λc _=>(smI_zero b c n).symm⟩
theorem InLat.row {b:Nat->Nat->Int} {n w a:Nat} (h:a<n):InLat b n w (b a):=⟨λu=>if u=a then 1 else 0,λc _=>by rw [smI_one,if_pos h]⟩
theorem InLat.congr {b:Nat->Nat->Int} {n w:Nat} {u v:Nat->Int} (hu:InLat b n w u) (h:∀ c,c<w->v c=u c):InLat b n w v:=by
 obtain ⟨x,hx⟩:=hu;exact ⟨x,λc hc=>by rw [h c hc,hx c hc]⟩
theorem InLat.trans {b b':Nat->Nat->Int} {n w:Nat} {v:Nat->Int} (hv:InLat b n w v) (h:∀ a,a<n->InLat b' n w (b a)):InLat b' n w v:=by
 obtain ⟨x,hx⟩:=hv;have key:∀ m,m<=n->InLat b' n w (λc=>smI x b c m):=by
  intro m;induction m with
  | zero=>intro _; exact (InLat.zero b' n w).congr λc _=>rfl
  | succ m ih=>
   intro hm;exact ((ih (by omega)).lin (h m (by omega)) (-(x m))).congr λc _=>by rw [smI]; grind
 exact (key n (Nat.le_refl _)).congr hx
def Lat (b0 b:Nat->Nat->Int) (n w:Nat):Prop:=(∀ a,a<n->InLat b0 n w (b a))/\∀ a,a<n->InLat b n w (b0 a)
theorem Lat.refl (b:Nat->Nat->Int) (n w:Nat):Lat b b n w:=⟨λ_ h=>InLat.row h,λ_ h=>InLat.row h⟩
theorem Lat.step {b0 b b':Nat->Nat->Int} {n w:Nat} (H:Lat b0 b n w) (h1:∀ a,a<n->InLat b n w (b' a)) (h2:∀ a,a<n->InLat b' n w (b a)):Lat b0 b' n w:=
 ⟨λa ha=>(h1 a ha).trans H.1,λa ha=>(H.2 a ha).trans h2⟩
theorem Lat.near {b0 b:Nat->Nat->Int} {n w i j:Nat} (H:Lat b0 b n w) (hi:i<n) (hj:j<i) (q:Int):Lat b0 (nearB b i j q) n w:=by
 have hji:¬ j=i:=by omega
 have r:∀ a,a≠i->nearB b i j q a=b a:=λa ha=>by funext c; rw [nearB,if_neg ha]
 refine H.step (λa ha=>?_) λa ha=>?_
 . by_cases e:a=i
   . subst e; exact ((InLat.row hi).lin (InLat.row (a:=j) (by omega)) q).congr λc _=>by rw [nearB,if_pos rfl]
   . rw [r a e]; exact InLat.row ha
 . by_cases e:a=i
   . subst e;refine ((InLat.row (b:=nearB b a j q) hi).lin (InLat.row (b:=nearB b a j q) (a:=j) (by omega)) (-q)).congr λc _=>?_;rw [r j hji,nearB,if_pos rfl]; grind
   . exact (InLat.row (b:=nearB b i j q) ha).congr λc _=>by rw [r a e]
theorem Lat.swap {b0 b:Nat->Nat->Int} {n w e:Nat} (H:Lat b0 b n w) (he:e+1<n):Lat b0 (swapB b e) n w:=by
 have ht:∀ a,a<n->tr2 e (e+1) a<n:=λa ha=>by unfold tr2; (repeat' split)<;>omega
 have hh:∀ a,tr2 e (e+1) (tr2 e (e+1) a)=a:=λa=>by unfold tr2; (repeat' split)<;>omega
 refine H.step (λa ha=>InLat.row (ht a ha)) λa ha=>?_;have:=InLat.row (b:=swapB b e) (w:=w) (ht a ha);rw [show swapB b e (tr2 e (e+1) a)=b a by rw [swapB,hh]] at this;exact this
theorem farB_congr {b b':Nat->Nat->Int} {w a t:Nat} (h1:bM b' w a t=bM b w a t) (h2:bD b' w (t+1)=bD b w (t+1)):farB b' w a t=farB b w a t:=by rw [farB,farB,h1,h2]
theorem fallB_congr {b b':Nat->Nat->Int} {w a:Nat} (h1:bM b' w a (a-1)=bM b w a (a-1)) (h2:bD b' w (a+1)=bD b w (a+1)) (h3:bD b' w (a-1)=bD b w (a-1)) (h4:bD b' w a=bD b w a):fallB b' w a=fallB b w a:=by rw [fallB,fallB,h1,h2,h3,h4]
theorem one_le_mul {x y:Int} (hx:1<=x) (hy:1<=y):1<=x*y:=by
 have:=Int.mul_le_mul hx hy (by omega) (by omega);omega
theorem sq_le_of_abs {x y:Int} (h1:x<=y) (h2: -y<=x):x*x<=y*y:=by
 have h3:0<=(y-x)*(y+x):=Int.mul_nonneg (by omega) (by omega);have:(y-x)*(y+x)=y*y-x*x:=by grind
 omega
theorem nq_abs {M d:Int} (hd:0<d):((M+M+d) / (d+d))*((M+M+d) / (d+d))<=M*M/\(M-(M+M+d) / (d+d)*d+(M-(M+M+d) / (d+d)*d)).natAbs<=d:=by
 obtain ⟨q,hq⟩:∃ q,q=(M+M+d) / (d+d):=⟨_,rfl⟩;rw [<- hq];have h1:q*(d+d)<=M+M+d:=by rw [hq]; exact Int.ediv_mul_le _ (by omega)
 have h2:M+M+d<(q+1)*(d+d):=by rw [hq]; exact Int.lt_mul_of_ediv_lt (by omega) (by omega)
 obtain ⟨A,hA⟩:∃ A:Int,A=(M.natAbs:Int):=⟨_,rfl⟩;have hA0:0<=A:=by omega
 have hAM:M<=A/\-A<=M:=by omega
 have e1:q*(d+d)=2*q*d:=by grind
 have e2:(q+1)*(d+d)=(2*q+2)*d:=by grind
 have hAd:A<=A*d:=by
  have:=Int.mul_le_mul_of_nonneg_left (show (1:Int)<=d by omega) hA0;omega
 have u1:2*q<=2*A+1:=by
  refine Int.le_of_mul_le_mul_right (a:=d) ?_ hd;have:(2*A+1)*d=2*(A*d)+d:=by grind
  omega
 have u2: -(2*A)+1<=2*q+2:=by
  refine Int.le_of_mul_le_mul_right (a:=d) ?_ hd;have:(-(2*A)+1)*d= -(2*(A*d))+d:=by grind
  omega
 refine ⟨?_,?_⟩
 . have:=sq_le_of_abs (x:=q) (y:=A) (by omega) (by omega);have e:A*A=M*M:=by
    rcases Int.natAbs_eq M with h | h
    . rw [hA,<-h]
    . have:A= -M:=by omega
      rw [this]; grind
   omega
 . have e3:M-q*d+(M-q*d)=M+M-2*q*d:=by grind
   have e4:(2*q+2)*d=2*q*d+2*d:=by grind
   rw [e3]; omega
section
variable {n w:Nat}
structure Par (n:Nat) (Δ N F:Int) (K:Nat):Prop where
 hd:1<=Δ
 hn:(n+1)*Δ<=N
 f:F=2+2*N*(Δ*Δ)
 k:Δ*Δ*(N*F^n)<18446744073709551616^K
 k18:K<=2^18
theorem Par.n1 {Δ N F:Int} {K:Nat} (P:Par n Δ N F K):1<=N:=by
 have h1:=P.hd;have h2:=P.hn;have:1*Δ<=((n:Int)+1)*Δ:=Int.mul_le_mul_of_nonneg_right (by omega) (by omega);omega
theorem Par.f1 {Δ N F:Int} {K:Nat} (P:Par n Δ N F K):2<=F:=by
 have h1:=P.f;have h2:=P.n1;have h3:=P.hd;have:0<=2*N*(Δ*Δ):=Int.mul_nonneg (by omega) (Int.mul_nonneg (by omega) (by omega));omega
theorem Par.pow {Δ N F:Int} {K:Nat} (P:Par n Δ N F K) (k:Nat):1<=N*F^k:=by
 have h1:=P.n1;have h2:1<=F^k:=by
  induction k with
  | zero=>simp
  | succ k ih=>
   have:=P.f1;rw [Int.pow_succ];exact one_le_mul ih (by omega)
 exact one_le_mul h1 h2
theorem Par.mono {Δ N F:Int} {K:Nat} (P:Par n Δ N F K) {k m:Nat} (h:k<=m):N*F^k<=N*F^m:=by
 obtain ⟨c,rfl⟩:∃ c,m=k+c:=⟨m-k,by omega⟩;induction c with
 | zero=>exact Int.le_refl _
 | succ c ih=>
  have h1:=ih (by omega);have h2:=P.pow (k+c);have h3:=P.f1;have:N*F^(k+(c+1))=N*F^(k+c)*F:=by rw [<- Nat.add_assoc,Int.pow_succ]; grind
  rw [this];have:=Int.mul_le_mul_of_nonneg_left (show (1:Int)<=F by omega) (show 0<=N*F^(k+c) by omega);omega
theorem zlen_sq {z:Int} {K:Nat} (h:z*z<18446744073709551616^K):zlen z<=K:=by
 refine zlen_lt ?_;have h1:z.natAbs*z.natAbs<18446744073709551616^K:=by
  have:((z.natAbs*z.natAbs:Nat):Int)=z*z:=by rw [Int.natCast_mul]; exact Int.natAbs_mul_self' z
  have h2:((z.natAbs*z.natAbs:Nat):Int)<((18446744073709551616^K:Nat):Int):=by rw [this,Int.natCast_pow]; exact h
  exact Int.ofNat_lt.1 h2
 rcases Nat.eq_zero_or_pos z.natAbs with h0 | h0
 . rw [h0]; exact Nat.pow_pos (by omega)
 . exact Nat.lt_of_le_of_lt (Nat.le_mul_of_pos_left _ h0) h1
theorem lim_of {b:Nat->Nat->Int} {Δ N F:Int} {K:Nat} (P:Par n Δ N F K) (H:Ind b n w) (hd:∀ t,t<=n->bD b w t<=Δ) (hn:∀ a,a<n->nb b w a<=N*F^n):Lim b n w:=by
 have hk:=P.k;have hp:=P.pow n;have h1:=P.hd;have hΔ2:1<=Δ*Δ:=one_le_mul h1 h1;have b1:N*F^n<=Δ*Δ*(N*F^n):=by
  have:=Int.mul_le_mul_of_nonneg_right hΔ2 (show 0<=N*F^n by omega);omega
 have b2:Δ*Δ<=Δ*Δ*(N*F^n):=by
  have:=Int.mul_le_mul_of_nonneg_left hp (show 0<=Δ*Δ by omega);omega
 refine ⟨λa t ha ht=>Nat.le_trans (zlen_sq (K:=K) ?_) P.k18,λt ht=>Nat.le_trans (zlen_sq (K:=K) ?_) P.k18,λa c ha hc=>Nat.le_trans (zlen_sq (K:=K) ?_) P.k18⟩
 . have m:=m_sq H ht ha;have p1:=H.pos (t:=t) (by omega);have p2:=H.pos (t:=t+1) (by omega);have q1:=Int.mul_le_mul (hd t (by omega)) (hd (t+1) (by omega)) (by omega) (by omega);have q2:=Int.mul_le_mul q1 (hn a ha) (dz_nonneg _ _) (by omega);exact Int.lt_of_le_of_lt (Int.le_trans m q2) hk
 . have p1:=H.pos ht;have q1:=Int.mul_le_mul (hd t ht) (hd t ht) (by omega) (by omega);exact Int.lt_of_le_of_lt (Int.le_trans q1 b2) hk
 . exact Int.lt_of_le_of_lt (Int.le_trans (dz_le (b a) hc) (Int.le_trans (hn a ha) b1)) hk
end
def sumD (b:Nat->Nat->Int) (w:Nat):Nat->Nat
 | 0=>0
 | k+1=>sumD b w k+(bD b w k).toNat
def meas (n w i:Nat) (b:Nat->Nat->Int):Nat:=sumD b w (n+1)*(n+2)+(n+1-i)
theorem sumD_congr {b b':Nat->Nat->Int} {w:Nat}:∀ {k:Nat},(∀ t,t<k->bD b' w t=bD b w t)->sumD b' w k=sumD b w k
 | 0,_=>rfl
 | k+1,h=>by rw [sumD,sumD,sumD_congr λt ht=>h t (by omega),h k (by omega)]
theorem sumD_lt {b b':Nat->Nat->Int} {w e:Nat}:∀ {k:Nat},e<k->(∀ t,t<k->t≠e->bD b' w t=bD b w t)->(bD b' w e).toNat<(bD b w e).toNat->sumD b' w k<sumD b w k
 | 0,h,_,_=>by omega
 | k+1,h,h1,h2=>by
  rw [sumD,sumD];by_cases he:e=k
  . subst he;rw [sumD_congr λt ht=>h1 t (by omega) (by omega)]; omega
  . have:=sumD_lt (k:=k) (by omega) (λt ht hne=>h1 t (by omega) hne) h2;rw [h1 k (by omega) (by omega)]; omega
section
variable {n w:Nat} {b0:Nat->Nat->Int} {Δ N F:Int} {K:Nat}
structure LC (b0:Nat->Nat->Int) (n w:Nat) (Δ N P:Int) (v i:Nat) (b:Nat->Nat->Int):Prop where
 ind:Ind b n w
 d:∀ t,t<=n->bD b w t<=Δ
 det:bD b w n=bD b0 w n
 lat:Lat b0 b n w
 red:redP b i w
 oth:∀ a,a<n->a≠i->nb b w a<=N
 own:i<n->nb b w i<=P
 ms:meas n w i b<=v
theorem LC.lim {P:Int} {v i:Nat} {b:Nat->Nat->Int} (H:LC b0 n w Δ N P v i b) (hp:Par n Δ N F K) (hP:P<=N*F^n):Lim b n w:=
 lim_of hp H.ind H.d λa ha=>by
  by_cases e:a=i
  . subst e; exact Int.le_trans (H.own ha) hP
  . have h1:=H.oth a ha e;have h2:=hp.mono (Nat.zero_le n);rw [Int.pow_zero] at h2; omega
theorem LC.near {P:Int} {v i j:Nat} {b:Nat->Nat->Int} (H:LC b0 n w Δ N P v i b) (hp:Par n Δ N F K) (hP:1<=P) (hi:i<n) (hj:j<i):
 LC b0 n w Δ N (P*F) v i (nearS b w i j)/\(∀ t,j<=t->t<i->(t=j\/farB b w i t=false)->farB (nearS b w i j) w i t=false)/\(j<i-1->fallB (nearS b w i j) w i=fallB b w i):=by
 have hF:=hp.f1;have hPF:P<=P*F:=by
  have:=Int.mul_le_mul_of_nonneg_left (show (1:Int)<=F by omega) (show 0<=P by omega);omega
 unfold nearS;cases hf:farB b w i j with
 | false=>
  simp only [Bool.false_eq_true,if_false];refine ⟨⟨H.ind,H.d,H.det,H.lat,H.red,H.oth,λh=>Int.le_trans (H.own h) hPF,H.ms⟩,λt h1 h2 h3=>?_,λ_=>trivial⟩;rcases h3 with rfl | h3
  . exact hf
  . exact h3
 | true=>
  simp only [if_true];obtain ⟨q,hq⟩:∃ q,q=nq b w i j:=⟨_,rfl⟩;rw [<- hq];have hI:=H.ind;have hd0:=hI.pos (t:=j+1) (by omega);obtain ⟨q1,q2⟩:=nq_abs (M:=bM b w i j) hd0;rw [show (bM b w i j+bM b w i j+bD b w (j+1)) / (bD b w (j+1)+bD b w (j+1))=q from hq.symm] at q1 q2;have hD:∀ t,t<=n->bD (nearB b i j q) w t=bD b w t:=λt ht=>near_D hI hj hi q ht;have hMo:∀ a t,a<n->t<=a->a≠i->bM (nearB b i j q) w a t=bM b w a t:=λa t ha ht hne=>by rw [near_M hI hj hi q ht ha,if_neg λh=>hne h.1]
  have hMi:∀ t,t<=i->j<t->bM (nearB b i j q) w i t=bM b w i t:=λt ht h=>by rw [near_M hI hj hi q ht hi,if_neg λh'=>by omega]
  refine ⟨⟨near_ind hI hj hi q,λt ht=>by rw [hD t ht]; exact H.d t ht,by rw [hD n (Nat.le_refl _)]; exact H.det,H.lat.near hi hj q,λa ha=>?_,λa ha hne=>?_,λ_=>?_,?_⟩,λt h1 h2 h3=>?_,λhj1=>?_⟩
  . obtain ⟨r1,r2⟩:=H.red a ha;refine ⟨λt ht=>?_,λh0=>?_⟩
    . rw [farB_congr (hMo a t (by omega) (by omega) (by omega)) (hD _ (by omega))]; exact r1 t ht
    . rw [fallB_congr (hMo a (a-1) (by omega) (by omega) (by omega)) (hD _ (by omega)) (hD _ (by omega)) (hD _ (by omega))]; exact r2 h0
  . have:nb (nearB b i j q) w a=nb b w a:=by
     unfold nb;have:nearB b i j q a=b a:=by funext c; rw [nearB,if_neg hne]
     rw [this]
    rw [this]; exact H.oth a ha hne
  . have e:nearB b i j q i=λc=>b i c-q*b j c:=by funext c; rw [nearB,if_pos rfl]
    have h1:=dz_sub (b i) (b j) q w;have h2:=H.own hi;have h3:=H.oth j (by omega) (by omega);have h4:=m_sq hI (a:=i) (t:=j) (by omega) hi;have p1:=hI.pos (t:=j) (by omega);have g1:=Int.mul_le_mul (H.d j (by omega)) (H.d (j+1) (by omega)) (by omega) (by have:=hp.hd; omega);have hΔ2:0<=Δ*Δ:=by have:=one_le_mul hp.hd hp.hd; omega
    have g2:=Int.mul_le_mul g1 h2 (dz_nonneg _ _) hΔ2;have g3:q*q<=Δ*Δ*P:=Int.le_trans q1 (Int.le_trans h4 g2);have hq0:0<=q*q:=by
     rcases Int.le_total 0 q with h | h
     . exact Int.mul_nonneg h h
     . exact Int.mul_nonneg_of_nonpos_of_nonpos h h
    have g4:=Int.mul_le_mul g3 h3 (dz_nonneg _ _) (Int.mul_nonneg hΔ2 (by omega));show dz (nearB b i j q i) (nearB b i j q i) w<=_;rw [e];have g5:2*(q*q)*dz (b j) (b j) w=2*(q*q*nb b w j):=by unfold nb; grind
    have g6:P*F=2*P+2*(Δ*Δ*P*N):=by rw [hp.f]; grind
    rw [g5] at h1;rw [g6];have h2':dz (b i) (b i) w<=P:=h2;omega
  . have:meas n w i (nearB b i j q)=meas n w i b:=by
     unfold meas;rw [sumD_congr λt ht=>hD t (by omega)]
    rw [this]; exact H.ms
  . by_cases e:t=j
    . subst e;rw [farB,hD _ (by omega)];have m:=near_M hI hj hi q (a:=i) (t:=t) (by omega) hi;rw [if_pos ⟨rfl,Nat.le_refl _⟩,bM_diag] at m;rw [m];refine decide_eq_false ?_;omega
    . rcases h3 with h3 | h3
      . exact absurd h3 e
      . rw [farB_congr (hMi t (by omega) (by omega)) (hD _ (by omega))]; exact h3
  . rw [fallB_congr (hMi (i-1) (by omega) (by omega)) (hD _ (by omega)) (hD _ (by omega)) (hD _ (by omega))]
def LI (b0:Nat->Nat->Int) (n w:Nat) (Δ N F:Int) (v i:Nat) (b:Nat->Nat->Int):Prop:=1<=i/\(i<=n\/i=1)/\LC b0 n w Δ N (N*F^(n-i)) v i b
def LA (b0:Nat->Nat->Int) (n w:Nat) (Δ N F:Int) (v i:Nat) (b:Nat->Nat->Int):Prop:=1<=i/\i<n/\LC b0 n w Δ N (N*F^(n-(i-1))) v i b/\farB b w i (i-1)=false
def LB (b0:Nat->Nat->Int) (n w:Nat) (Δ N F:Int) (v i j:Nat) (b:Nat->Nat->Int):Prop:=1<=i/\i<n/\j<i/\LC b0 n w Δ N (N*F^(n-j)) v i b/\(∀ t,j<=t->t<i->farB b w i t=false)/\fallB b w i=false
theorem pow_next {k m:Nat} (h:m=k+1):N*F^k*F=N*F^m:=by rw [h,Int.pow_succ]; grind
theorem nb_of_near {b:Nat->Nat->Int} (hp:Par n Δ N F K) (H:Ind b n w) (hd:∀ t,t<=n->bD b w t<=Δ) {a:Nat} (ha:a<n) (hf:∀ t,t<a->farB b w a t=false):nb b w a<=N:=by
 have h1:=near_sq H ha hd λt ht=>by
  have:=of_decide_eq_false (hf t ht);omega
 have h2:=hp.hn;have h3:((a:Int)+1)*Δ<=((n:Int)+1)*Δ:=Int.mul_le_mul_of_nonneg_right (by omega) (by have:=hp.hd; omega);omega
theorem lll_run (hp:Par n Δ N F K):Run n w (LI b0 n w Δ N F) (LA b0 n w Δ N F) (LB b0 n w Δ N F) where
 indI v i b h:=⟨h.2.2.ind,h.2.2.lim hp (hp.mono (by omega)),h.1,h.2.1⟩
 indA v i b h:=⟨h.2.2.1.ind,h.2.2.1.lim hp (hp.mono (by omega))⟩
 indB v i j b h:=⟨h.2.2.2.1.ind,h.2.2.2.1.lim hp (hp.mono (by omega))⟩
 near0 v i b h hi:=by
  obtain ⟨h1,h2,h3⟩:=h;obtain ⟨n1,n2,_⟩:=h3.near hp (hp.pow _) hi (show i-1<i by omega);rw [pow_next (k:=n-i) (m:=n-(i-1)) (by omega)] at n1;exact ⟨h1,hi,n1,n2 (i-1) (Nat.le_refl _) (by omega) (.inl rfl)⟩
 stay v e b h he hf:=by
  obtain ⟨h1,h2,h3,h4⟩:=h;rw [Nat.add_sub_cancel] at h3 h4;refine ⟨h1,he,by omega,h3,λt ht1 ht2=>?_,hf⟩;obtain rfl:t=e:=by omega
  exact h4
 near1 v i j b h hi hj:=by
  obtain ⟨h1,h2,h3,h4,h5,h6⟩:=h;obtain ⟨n1,n2,n3⟩:=h4.near hp (hp.pow _) hi (show j<i by omega);rw [pow_next (k:=n-(j+1)) (m:=n-j) (by omega)] at n1;refine ⟨h1,hi,by omega,n1,λt ht1 ht2=>n2 t ht1 ht2 ?_,by rw [n3 (by omega)]; exact h6⟩;by_cases e:t=j
  . exact .inl e
  . exact .inr (h5 t (by omega) ht2)
 done v i b h hi:=by
  obtain ⟨h1,h2,h3,h4,h5,h6⟩:=h;have hm:=h4.ms;have hown:=nb_of_near hp h4.ind h4.d hi λt ht=>h5 t (Nat.zero_le _) ht;refine ⟨meas n w (i+1) b,?_,by omega,.inl (by omega),h4.ind,h4.d,h4.det,h4.lat,λa ha=>?_,λa ha hne=>?_,λhi1=>?_,Nat.le_refl _⟩
  . unfold meas at hm ⊢; omega
  . by_cases e:a=i
    . subst e; exact ⟨λt ht=>h5 t (Nat.zero_le _) ht,λ_=>h6⟩
    . exact h4.red a (by omega)
  . by_cases e:a=i
    . subst e; exact hown
    . exact h4.oth a ha e
  . have g1:=h4.oth (i+1) hi1 (by omega);have g2:=hp.mono (Nat.zero_le (n-(i+1)));rw [Int.pow_zero] at g2; omega
 fall v e b h he hf:=by
  obtain ⟨h1,h2,h3,h4⟩:=h;rw [Nat.add_sub_cancel] at h3 h4;have hI:=h3.ind;have sI:=swap_ind hI he;have hown:=swap_own hI he;have d0:=hI.pos (t:=e+1) (by omega);have hlt:bD (swapB b e) w (e+1)<bD b w (e+1):=by
   have hf':=of_decide_eq_true hf;rw [Nat.add_sub_cancel] at hf';have e1:bD b w (e+1+1)*bD b w e+bM b w (e+1) e*bM b w (e+1) e=bD (swapB b e) w (e+1)*bD b w (e+1):=by rw [<- hown]; grind
   rw [e1] at hf';have e2:4*(bD (swapB b e) w (e+1)*bD b w (e+1))=(4*bD (swapB b e) w (e+1))*bD b w (e+1):=by grind
   have e3:3*(bD b w (e+1)*bD b w (e+1))=(3*bD b w (e+1))*bD b w (e+1):=by grind
   rw [e2,e3] at hf';have:=Int.lt_of_mul_lt_mul_right hf' (by omega);omega
  have hD:∀ t,t<=n->t≠e+1->bD (swapB b e) w t=bD b w t:=λt ht hne=>swap_D hI he ht hne;have hdle:∀ t,t<=n->bD (swapB b e) w t<=Δ:=λt ht=>by
   by_cases et:t=e+1
   . subst et; have:=h3.d (e+1) ht; omega
   . rw [hD t ht et]; exact h3.d t ht
  have hnb:∀ a,nb (swapB b e) w a=nb b w (tr2 e (e+1) a):=λa=>rfl;have hM:∀ a t,a<e->t<=a->bM (swapB b e) w a t=bM b w a t:=λa t ha ht=>by rw [swap_lo hI he (by omega) ht (by omega),tr2_o (by omega) (by omega)]
  have ms:=h3.ms;have s0:=sI.pos (t:=e+1) (by omega);have hsum:=sumD_lt (b:=b) (b':=swapB b e) (w:=w) (e:=e+1) (k:=n+1) (by omega) (λt ht hne=>hD t (by omega) hne) (by omega);have g0:=hp.mono (Nat.zero_le n);rw [Int.pow_zero] at g0;refine ⟨lim_of hp sI hdle λa ha=>?_,meas n w (max e 1) (swapB b e),?_,by omega,by omega,sI,hdle,by rw [hD n (Nat.le_refl _) (by omega)]; exact h3.det,h3.lat.swap he,λa ha=>?_,λa ha hne=>?_,λhi1=>?_,Nat.le_refl _⟩
  . rw [hnb];by_cases e1:tr2 e (e+1) a=e+1
    . rw [e1]; exact Int.le_trans (h3.own he) (hp.mono (by omega))
    . have:=h3.oth (tr2 e (e+1) a) (by unfold tr2; (repeat' split)<;>omega) e1;omega
  . unfold meas at ms ⊢;have:(sumD (swapB b e) w (n+1)+1)*(n+2)<=sumD b w (n+1)*(n+2):=Nat.mul_le_mul_right _ hsum;rw [Nat.add_mul] at this;omega
  . have hae:a<e\/(a=0/\e=0):=by omega
    rcases hae with hae | ⟨rfl,rfl⟩
    . obtain ⟨r1,r2⟩:=h3.red a (by omega);refine ⟨λt ht=>?_,λh0=>?_⟩
      . rw [farB_congr (hM a t hae (by omega)) (hD _ (by omega) (by omega))]; exact r1 t ht
      . rw [fallB_congr (hM a (a-1) hae (by omega)) (hD _ (by omega) (by omega)) (hD _ (by omega) (by omega)) (hD _ (by omega) (by omega))]; exact r2 h0
    . exact ⟨λt ht=>by omega,λh0=>by omega⟩
  . rw [hnb];by_cases e0:e=0
    . subst e0;by_cases a0:a=0
      . subst a0;have:=nb_of_near hp sI hdle (a:=0) ha λt ht=>by omega
        rw [hnb] at this; exact this
      . have ha2:a≠1:=λh=>hne (by omega);rw [tr2_o a0 ha2]; exact h3.oth a ha ha2
    . have hne':a≠e:=by omega
      by_cases a1:a=e+1
      . rw [a1,tr2_r]; exact h3.oth e (by omega) (by omega)
      . rw [tr2_o hne' a1]; exact h3.oth a ha a1
  . by_cases e0:e=0
    . subst e0;rw [hnb,show max 0 1=0+1 from rfl,tr2_r];have:=h3.oth 0 (by omega) (by omega);have g:=hp.mono (Nat.zero_le (n-(0+1)));rw [Int.pow_zero] at g; omega
    . rw [hnb,show max e 1=e by omega,tr2_l];exact h3.own he
end
theorem par_few {n:Nat} {B:Int} (hB:8<=B) (hn:n<=5) (hBK:B=18446744073709551616):Par n (B^31) (B^32) (2+2*B^32*(B^31*B^31)) 600:=by
 have pp:∀ k:Nat,1<=B^k:=λk=>by
  induction k with
  | zero=>simp
  | succ k ih=>rw [Int.pow_succ]; exact one_le_mul ih (by omega)
 have step:∀ k:Nat,B^(k+1)=B^k*B:=λk=>Int.pow_succ B k;have add:∀ k m:Nat,B^(k+m)=B^k*B^m:=λk m=>by
  induction m with
  | zero=>simp
  | succ m ih=>rw [<- Nat.add_assoc,step,step,ih]; grind
 have mono:∀ k m:Nat,k<=m->B^k<=B^m:=λk m h=>by
  obtain ⟨c,rfl⟩:∃ c,m=k+c:=⟨m-k,by omega⟩;rw [add];have:=Int.mul_le_mul_of_nonneg_left (pp c) (show 0<=B^k by have:=pp k; omega);omega
 have hF:2+2*B^32*(B^31*B^31)<=B^95:=by
  have e:2*B^32*(B^31*B^31)=2*B^94:=by rw [show 94=32+(31+31) from rfl,add 32,add 31]; grind
  rw [e,show 95=94+1 from rfl,step 94];have h1:=pp 94;have h2:=Int.mul_le_mul_of_nonneg_left (show (4:Int)<=B by omega) (show 0<=B^94 by omega);omega
 refine ⟨pp 31,?_,rfl,?_,by omega⟩
 . rw [show 32=31+1 from rfl,step 31];have h1:=pp 31;have h2:=Int.mul_le_mul_of_nonneg_left (show ((n:Int)+1)<=B by omega) (show 0<=B^31 by omega);have h3:((n:Int)+1)*B^31=B^31*((n:Int)+1):=Int.mul_comm _ _;omega
 . obtain ⟨F,hF'⟩:∃ F,F=2+2*B^32*(B^31*B^31):=⟨_,rfl⟩;rw [<- hF'] at hF ⊢;have hF1:1<=F:=by
    have h1:0<=2*B^32*(B^31*B^31):=Int.mul_nonneg (by have:=pp 32; omega) (Int.mul_nonneg (by have:=pp 31; omega) (by have:=pp 31; omega));omega
   have hp:∀ m:Nat,1<=F^m/\F^m<=B^(95*m):=λm=>by
    induction m with
    | zero=>simp
    | succ m ih=>
     refine ⟨by rw [Int.pow_succ]; exact one_le_mul ih.1 hF1,?_⟩;rw [Int.pow_succ,show 95*(m+1)=95*m+95 by omega,add];exact Int.mul_le_mul ih.2 hF (by omega) (by have:=pp (95*m); omega)
   have h1:=(hp n).2;have h2:=mono (95*n) 475 (by omega);have h3:B^31*B^31*(B^32*F^n)<=B^31*B^31*(B^32*B^475):=by
    refine Int.mul_le_mul_of_nonneg_left (Int.mul_le_mul_of_nonneg_left (by omega) (by have:=pp 32; omega)) (Int.mul_nonneg (by have:=pp 31; omega) (by have:=pp 31; omega))
   have e:B^31*B^31*(B^32*B^475)=B^569:=by rw [show 569=(31+31)+(32+475) from rfl,add,add 31,add 32]
   have h4:=mono 570 600 (by omega);have hz:∀ z:Int,1<=z->z<z*B:=λz h1=>by
    have h2:=Int.mul_le_mul_of_nonneg_left (show (2:Int)<=B by omega) (show 0<=z by omega);omega
   have h5:B^569<B^570:=by
    have h6:=hz _ (pp 569);rw [<- step 569] at h6;exact h6
   rw [<- hBK];exact Int.lt_of_le_of_lt h3 (by rw [e]; exact Int.lt_of_lt_of_le h5 h4)
theorem gz_few {k w:Nat} {xs:List V} {L:List (List Int)} (hL:IsL k xs L) (hk:k<=2) (hw:w<=7) (i j:Nat):(gz (bOf L) w i j).natAbs<=18446744073709551616^5:=by
 have hc:∀ a c,(bOf L a c).natAbs<18446744073709551616^2:=λa c=>by
  by_cases h:a<L.length
  . obtain ⟨vs,_,pv⟩:=hL.row a (by rw [hL.len]; exact h);exact lt_zlen' (Nat.le_trans (pv.pl c) hk)
  . rw [bOf_out h]; simp
 have key:∀ m:Nat,(dz (bOf L i) (bOf L j) m).natAbs<=m*(18446744073709551616^2*18446744073709551616^2):=λm=>by
  induction m with
  | zero=>simp [dz]
  | succ m ih=>
   rw [dz];have h1:=Int.natAbs_add_le (dz (bOf L i) (bOf L j) m) (bOf L i m*bOf L j m);rw [Int.natAbs_mul] at h1;have h2:=Nat.mul_le_mul (Nat.le_of_lt (hc i m)) (Nat.le_of_lt (hc j m));rw [Nat.add_mul]; omega
 have h1:=key w;have h2:=Nat.mul_le_mul_right (18446744073709551616^2*18446744073709551616^2) hw;show (dz _ _ w).natAbs<=_;have h3:7*(18446744073709551616^2*18446744073709551616^2)<=18446744073709551616^5:=by decide
 omega
theorem bD_few {k n w:Nat} {xs:List V} {L:List (List Int)} (hL:IsL k xs L) (hk:k<=2) (hw:w<=7) (hn:n<=5) (H:Ind (bOf L) n w) {t:Nat} (ht:t<=n):bD (bOf L) w t<=(18446744073709551616:Int)^31:=by
 have h1:=(brI_last (brM_inv (n:=n) (G:=gz (bOf L) w) ht λs hs=>H s (by omega)) (gz_few hL hk hw));have h2:=det_lim2 (n:=5) (j:=5) (by omega) (k:=t) (by omega) h1.1;have h3:=lt_zlen' (z:=bD (bOf L) w t) (k:=31) (by show zlen (brD _ t)<=31; omega);have h4:=H.pos ht;have h5:((bD (bOf L) w t).natAbs:Int)<((18446744073709551616^31:Nat):Int):=Int.ofNat_lt.2 h3;rw [Int.natCast_pow] at h5;have h6:((bD (bOf L) w t).natAbs:Int)=bD (bOf L) w t:=by omega
 rw [h6] at h5;exact Int.le_of_lt h5
theorem nb_few {k w:Nat} {xs:List V} {L:List (List Int)} (hL:IsL k xs L) (hk:k<=2) (hw:w<=7) (a:Nat):nb (bOf L) w a<=(18446744073709551616:Int)^32:=by
 have h1:=gz_few hL hk hw a a;have h0:0<=gz (bOf L) w a a:=dz_nonneg _ _;have h2:((gz (bOf L) w a a).natAbs:Int)<=((18446744073709551616^5:Nat):Int):=Int.ofNat_le.2 h1;have h3:((18446744073709551616^5:Nat):Int)<=(18446744073709551616:Int)^32:=by decide
 have h4:((gz (bOf L) w a a).natAbs:Int)=gz (bOf L) w a a:=by omega
 rw [h4] at h2;exact Int.le_trans h2 h3
structure RedOk (L:List (List Int)) (n w:Nat) (b:Nat->Nat->Int):Prop where
 ind:Ind b n w
 det:bD b w n=bD (bOf L) w n
 lat:Lat (bOf L) b n w
 red:redP b n w
 lim:∀ a c,a<n->c<w->zlen (b a c)<=33
 big:Lim b n w
theorem lreduce_few {k n w:Nat} {xs:List V} {L:List (List Int)} (hL:IsL k xs L) (hk:k<=2) (hx:xs.length=n) (hn:n<=5) (hw0:(L.getD 0 []).length=w) (hw:w<=7) (hok:okL L) (hnz:∀ t,t<n->brM (gW L w) t t t≠0):
 Spec Tryz.prog f_lattice_Reduce [.sl none xs] (λrvs=>∃ b,RedOk L n w b/\rvs=[.pure (.sl none ((List.range n).map λa=>.sl (some 2) (rowZ w (b a)))),.pure (.i .i64 0)]):=by
 have hI:Ind (bOf L) n w:=by rw [gW_eq] at hnz; exact hnz
 obtain ⟨B,hB⟩:∃ B:Int,B=18446744073709551616:=⟨_,rfl⟩;have hp:=par_few (n:=n) (B:=B) (by omega) hn hB;have hd:∀ t,t<=n->bD (bOf L) w t<=B^31:=λt ht=>by rw [hB]; exact bD_few hL hk hw hn hI ht
 have hnb:∀ a,nb (bOf L) w a<=B^32:=λa=>by rw [hB]; exact nb_few hL hk hw a
 obtain ⟨Δ,hΔ⟩:∃ Δ,Δ=B^31:=⟨_,rfl⟩;obtain ⟨N,hN⟩:∃ N,N=B^32:=⟨_,rfl⟩;rw [<- hΔ,<-hN] at hp;simp only [<- hΔ] at hd;simp only [<- hN] at hnb;obtain ⟨F,hF⟩:∃ F,F=2+2*N*(Δ*Δ):=⟨_,rfl⟩;rw [<- hF] at hp;have h0:LI (bOf L) n w Δ N F (meas n w 1 (bOf L)) 1 (bOf L):=by
  refine ⟨by omega,.inr rfl,hI,hd,rfl,Lat.refl _ _ _,λa ha=>?_,λa _ _=>hnb a,λ_=>?_,Nat.le_refl _⟩
  . obtain rfl:a=0:=by omega
    exact ⟨λt ht=>by omega,λh=>by omega⟩
  . have h1:=hp.mono (Nat.zero_le (n-1));rw [Int.pow_zero] at h1;have:=hnb 1; omega
 refine (lreduce hL (by omega) hx hw0 hok hnz (lll_run hp) h0 (by omega)).mono ?_;rintro rvs ⟨v,i,b,⟨h1,h2,h3⟩,hni,rfl⟩;have hlim:=h3.lim hp (hp.mono (by omega));refine ⟨b,⟨h3.ind,h3.det,h3.lat,λa ha=>h3.red a (by omega),λa c ha hc=>?_,hlim⟩,rfl⟩;have g1:=h3.oth a ha (by omega);have g2:=dz_le (b a) hc;refine zlen_sq ?_;have g3:b a c*b a c<=N:=Int.le_trans g2 g1;rw [<- hB];have g4:N<B^33:=by
  rw [hN,Int.pow_succ B 32];have h1:1<=B^32:=by rw [<- hN]; exact hp.n1
  generalize B^32=z at h1 ⊢;have h2:=Int.mul_le_mul_of_nonneg_left (show (2:Int)<=B by omega) (show 0<=z by omega);omega
 exact Int.lt_of_le_of_lt g3 g4
def qmL (m J:Nat) (f:Nat->Rat) (vs:List V):List V:=(List.range m).map λt=>if J<=t then Q (f t) else vs.getD t default
theorem qmL_length (m J:Nat) (f:Nat->Rat) (vs:List V):(qmL m J f vs).length=m:=by simp [qmL]
theorem qmL_all {m:Nat} {f:Nat->Rat} {vs:List V} (h:vs.length=m):qmL m m f vs=vs:=by
 refine List.ext_getElem (by simp [qmL,h]) λi h1 h2=>?_;have h3:¬ m<=i:=by omega
 simp [qmL,h3,h2]
theorem qmL_lo {m J t:Nat} {f:Nat->Rat} {vs:List V} (ht:t<J) (hm:t<m) (h:vs.length=m):(qmL m J f vs)[t]? =vs[t]? :=by
 have h1:t<vs.length:=by omega
 have h3:¬ J<=t:=by omega
 simp [qmL,hm,h1,h3]
theorem qmL_set {m J:Nat} {f:Nat->Rat} {vs:List V} (hJ:J<m):(qmL m (J+1) f vs).set J (Q (f J))=qmL m J f vs:=by
 refine List.ext_getElem (by simp [qmL]) λi h1 h2=>?_;rw [List.getElem_set];by_cases e:J=i
 . subst e; simp [qmL]
 . rw [if_neg e];simp only [qmL,List.getElem_map,List.getElem_range];by_cases h4:J<=i
   . rw [if_pos h4,if_pos (by omega)]
   . rw [if_neg h4,if_neg (by omega)]
structure IsR (k:Nat) (vs:List V) (m:Nat) (f:Nat->Rat):Prop where
 len:vs.length=m
 get:∀ t (h:t<m),IsQ k (vs[t]'(by omega)) (f t)
theorem IsR.mono {k k' m:Nat} {vs:List V} {f:Nat->Rat} (h:IsR k vs m f) (hk:k<=k'):IsR k' vs m f:=⟨h.len,λt ht=>(h.get t ht).mono hk⟩
theorem IsR.congr {k m:Nat} {vs:List V} {f g:Nat->Rat} (h:IsR k vs m f) (e:∀ t,t<m->g t=f t):IsR k vs m g:=⟨h.len,λt ht=>by rw [e t ht]; exact h.get t ht⟩
theorem isR_qmL {k k' m J:Nat} {vs:List V} {f g:Nat->Rat} (h:IsR k vs m g) (hk:k<=k') (hlo:∀ t,t<J->t<m->f t=g t) (hhi:∀ t,t<m->QL k' (f t)):IsR k' (qmL m J f vs) m f:=by
 refine ⟨qmL_length _ _ _ _,λt ht=>?_⟩;have h1:t<vs.length:=by rw [h.len]; exact ht
 by_cases hj:J<=t
 . have:(qmL m J f vs)[t]'(by rw [qmL_length]; exact ht)=Q (f t):=by simp [qmL,hj]
   rw [this]; exact isQ_Q (hhi t ht)
 . have:(qmL m J f vs)[t]'(by rw [qmL_length]; exact ht)=vs[t]:=by simp [qmL,hj,h1]
   rw [this,hlo t (by omega) ht]; exact (h.get t ht).mono hk
theorem IsQ.form {k:Nat} {v:V} {q:Rat} (h:IsQ k v q):∃ n l d,v= .agg [.b n,.sl none (uL l),.sl none (uL d)]:=by
 obtain ⟨n,l,d,e,_⟩:=h; exact ⟨n,l,d,e⟩
def rowsQ (W m:Nat) (γ:Nat->Nat):List SV:=(List.range W).map λi=>.own (i+301+1000) (γ i) 0 m
theorem rowsQ_length (W m:Nat) (γ:Nat->Nat):(rowsQ W m γ).length=W:=by simp [rowsQ]
theorem rowsQ_at {W m:Nat} {γ:Nat->Nat} {i:Nat} (h:i<(rowsQ W m γ).length):(rowsQ W m γ)[i]= .own (i+301+1000) (γ i) 0 m:=by simp [rowsQ]
attribute [local simp] Q_eq rv rowsQ_length rowsQ_at qmL_length
def SlK (S:St) (γ:Nat->Nat) (i n c a b:Nat) (f:Nat->Rat) (vs:List V) (S':St):Prop:=
 ∃ J,c<=J/\J<=n+1/\S'.h (i+301+1000)=⟨γ i,some (.arr 114 (some 3) (qmL (n+1) J f vs))⟩/\(∀ p,p≠i+301->S'.h (p+1000)=S.h (p+1000))/\S'.σ b= .p (.i .i64 ((J:Int)-1))/\∀ t,t<=5\/t=7\/t=9\/t=10\/t=70\/t=71->S'.σ t=S.σ t
set_option maxHeartbeats 4000000 in
theorem slv_2 {Q':Exit->St->Prop} {S:St} {G W n c k:Nat} {γ:Nat->Nat} {vs:List V} {f:Nat->Rat} (ht:S.h 1300=⟨G,some (.rows 109 (rowsQ W (n+1) γ))⟩) (hc:c<W) (hcn:c<n) (hn:n<=64) (hr:S.h (c+301+1000)=⟨γ c,some (.arr 114 (some 3) vs)⟩) (hv:IsR k vs (n+1) f) (hk:k<=2^24) (h0:f c≠0)
 (s0:S.σ 0= .own 1300 G 0 W) (s1:S.σ 1= .p (.i .i64 (n:Int))) (s4:S.σ 4= .p (.i .i64 (c:Int)))
 (hQ:∀ S':St,S'.h (c+301+1000)=⟨γ c,some (.arr 114 (some 3) (qmL (n+1) c (λt=>f t / f c) vs))⟩->(∀ p,p≠c+301->S'.h (p+1000)=S.h (p+1000))->(∀ t,t<=5\/t=7\/t=9\/t=10\/t=70\/t=71->S'.σ t=S.σ t)->Q' .normal S'):
 WS Tryz.prog 114 sc_lattice_solved.snd.fst.fst.snd.snd.fst.fst.snd.snd.snd.snd.fst Q' S:=by
 have cI:(c:Int)<(n:Int):=by omega
 unfold sc_lattice_solved;simp only [SC.snd,SC.fst];refine Wr ?_; simp [s1];refine WS_block ?_;refine WS_loop (SlK S γ c n c 0 6 (λt=>f t / f c) vs) (λS=>iMJ 6 S) ⟨n+1,by omega,by omega,by rw [qmL_all hv.len]; simpa using hr,λp _=>by simp,by simp,λt ht=>?_⟩ ?_
 . simp only [upd_apply];repeat rw [if_neg (by omega)]
 rintro S1 ⟨J,hJ1,hJ2,k1,hoth,t6,hs⟩;have dJ:=iMJ_eq t6;have t0:=(hs 0 (by omega)).trans s0;have t4:=(hs 4 (by omega)).trans s4;have kt:S1.h 1300=_:=(hoth 300 (by omega)).trans ht;by_cases hlt:c<J
 . obtain ⟨j,rfl⟩:∃ j,J=j+1:=⟨J-1,by omega⟩;have hcj:(c:Int)<=(j:Int):=by omega
   have hj1:j<n+1:=by omega
   have hj1I:(j:Int)<(n:Int)+1:=by omega
   have hc1:c<n+1:=by omega
   have hc1I:(c:Int)<(n:Int)+1:=by omega
   have cWI:(c:Int)<(W:Int):=by omega
   have wj:IntKind.i64.wrap ((j:Int)-1)=(j:Int)-1:=i64_int _ (by omega) (by omega);have dv:=qdiv (hv.get j hj1) (hv.get c hc1) (show k<=2^26 by omega);rw [divR,if_neg h0] at dv;obtain ⟨n1,l1,d1,e1⟩:=(hv.get j hj1).form;obtain ⟨n2,l2,d2,e2⟩:=(hv.get c hc1).form;rw [e1,e2] at dv;have a1:=qmL_lo (f:=λt=>f t / f c) (J:=j+1) (t:=j) (by omega) hj1 hv.len;have a2:=qmL_lo (f:=λt=>f t / f c) (J:=j+1) (t:=c) (by omega) hc1 hv.len;have g1:vs[j]? =some (.agg [.b n1,.sl none (uL l1),.sl none (uL d1)]):=by rw [<- e1]; exact List.getElem?_eq_getElem (by rw [hv.len]; exact hj1)
   have g2:vs[c]? =some (.agg [.b n2,.sl none (uL l2),.sl none (uL d2)]):=by rw [<- e2]; exact List.getElem?_eq_getElem (by rw [hv.len]; exact hc1)
   rw [g1] at a1;rw [g2] at a2;have hset:=qmL_set (f:=λt=>f t / f c) (vs:=vs) hj1;have lN:=qmL_length (n+1) (j+1) (λt=>f t / f c) vs;obtain ⟨y,hy⟩:∃ y,y=f j / f c:=⟨_,rfl⟩;rw [<- hy] at dv hset;obtain ⟨N,hN⟩:∃ N,N=qmL (n+1) (j+1) (λt=>f t / f c) vs:=⟨_,rfl⟩;rw [<- hN] at k1 a1 a2 hset lN;rw [Q_eq] at hset;have jN:j<N.length:=by omega
   have cN:c<N.length:=by omega
   have b1:N[j]= .agg [.b n1,.sl none (uL l1),.sl none (uL d1)]:=by rw [List.getElem?_eq_getElem jN] at a1; exact Option.some.inj a1
   have b2:N[c]= .agg [.b n2,.sl none (uL l2),.sl none (uL d2)]:=by rw [List.getElem?_eq_getElem cN] at a2; exact Option.some.inj a2
   refine Ws ?_; simp [t0,t4,t6,kt,k1,hcj,hj1,hj1I,hc1,hc1I,hc,cWI,wj,a1,a2,b1,b2,jN,cN,lN,hset];refine WS_cT (by simp [t0,t4,t6,kt,k1,hcj,hj1,hj1I,hc1,hc1I,hc,cWI,wj,a1,a2,b1,b2,jN,cN,lN,hset]) ?_;refine WS_skip ?_; simp [t0,t4,t6,kt,k1,hcj,hj1,hj1I,hc1,hc1I,hc,cWI,wj,a1,a2,b1,b2,jN,cN,lN,hset];refine WS_seq (WS_block (WS_regD [] ?_)); simp [t0,t4,t6,kt,k1,hcj,hj1,hj1I,hc1,hc1I,hc,cWI,wj,a1,a2,b1,b2,jN,cN,lN,hset];refine callD dv rfl ?_; simp [t0,t4,t6,kt,k1,hcj,hj1,hj1I,hc1,hc1I,hc,cWI,wj,a1,a2,b1,b2,jN,cN,lN,hset];refine ⟨by kernel_rfl,?_⟩;refine WS_reg [] ?_; simp [t0,t4,t6,kt,k1,hcj,hj1,hj1I,hc1,hc1I,hc,cWI,wj,a1,a2,b1,b2,jN,cN,lN,hset];refine ⟨⟨j,by omega,by omega,by simp,λp hp=>?_,by simp,λt ht=>?_⟩,?_⟩
   . have n1:¬ p+1000=c+301+1000:=by omega
     simp only [upd_apply,n1,if_false];exact hoth p hp
   . simp only [upd_apply];repeat rw [if_neg (by omega)]
     exact hs t ht
   . rw [dJ,iMJ_eq (i:=6) (j:=j) (k:=.i64) (by simp)]; omega
 . obtain rfl:J=c:=by omega
   have hcj:¬ ((J:Int)<=(J:Int)-1):=by omega
   refine Ws ?_; simp [t4,t6,hcj];refine WS_cF (by simp [t4,t6,hcj]) ?_;refine WS_exit ?_; simp [t4,t6,hcj];refine hQ _ k1 hoth λt ht=>?_;simp only [upd_apply];repeat rw [if_neg (by omega)]
   exact hs t ht
set_option maxHeartbeats 4000000 in
theorem slv_3 {Q':Exit->St->Prop} {S:St} {G W n c i k k2:Nat} {γ:Nat->Nat} {vs us:List V} {f g:Nat->Rat} (ht:S.h 1300=⟨G,some (.rows 109 (rowsQ W (n+1) γ))⟩) (hc:c<W) (hi:i<W) (hic:i≠c) (hcn:c<n) (hn:n<=64) (hr:S.h (i+301+1000)=⟨γ i,some (.arr 114 (some 3) vs)⟩) (hv:IsR k vs (n+1) f)
 (hr2:S.h (c+301+1000)=⟨γ c,some (.arr 114 (some 3) us)⟩) (hu:IsR k2 us (n+1) g) (hk:k<=k2) (hk2:k2<=2^20)
 (s0:S.σ 0= .own 1300 G 0 W) (s1:S.σ 1= .p (.i .i64 (n:Int))) (s4:S.σ 4= .p (.i .i64 (c:Int))) (s7:S.σ 7= .p (.i .i64 (i:Int)))
 (hQ:∀ S':St,S'.h (i+301+1000)=⟨γ i,some (.arr 114 (some 3) (qmL (n+1) c (λt=>f t-f c*g t) vs))⟩->(∀ p,p≠i+301->S'.h (p+1000)=S.h (p+1000))->(∀ t,t<=5\/t=7\/t=9\/t=10\/t=70\/t=71->S'.σ t=S.σ t)->Q' .normal S'):
 WS Tryz.prog 114 sc_lattice_solved.snd.fst.fst.snd.snd.fst.fst.snd.snd.snd.snd.snd.snd.fst.fst.snd.snd.fst.fst.snd.snd Q' S:=by
 have cI:(c:Int)<(n:Int):=by omega
 unfold sc_lattice_solved;simp only [SC.snd,SC.fst];refine Wr ?_; simp [s1];refine WS_block ?_;refine WS_loop (SlK S γ i n c 0 8 (λt=>f t-f c*g t) vs) (λS=>iMJ 8 S) ⟨n+1,by omega,by omega,by rw [qmL_all hv.len]; simpa using hr,λp _=>by simp,by simp,λt ht=>?_⟩ ?_
 . simp only [upd_apply];repeat rw [if_neg (by omega)]
 rintro S1 ⟨J,hJ1,hJ2,k1,hoth,t8,hs⟩;have dJ:=iMJ_eq t8;have t0:=(hs 0 (by omega)).trans s0;have t4:=(hs 4 (by omega)).trans s4;have t7:=(hs 7 (by omega)).trans s7;have kt:S1.h 1300=_:=(hoth 300 (by omega)).trans ht;have kr:S1.h (c+301+1000)=_:=(hoth (c+301) (by omega)).trans hr2;by_cases hlt:c<J
 . obtain ⟨j,rfl⟩:∃ j,J=j+1:=⟨J-1,by omega⟩;have hcj:(c:Int)<=(j:Int):=by omega
   have hj1:j<n+1:=by omega
   have hj1I:(j:Int)<(n:Int)+1:=by omega
   have hc1:c<n+1:=by omega
   have hc1I:(c:Int)<(n:Int)+1:=by omega
   have cWI:(c:Int)<(W:Int):=by omega
   have iWI:(i:Int)<(W:Int):=by omega
   have wj:IntKind.i64.wrap ((j:Int)-1)=(j:Int)-1:=i64_int _ (by omega) (by omega);have mu:=qmul ((hv.get c hc1).mono hk) (hu.get j hj1) (show k2<=2^26 by omega);have q1:=((hv.get c hc1).mono hk).ql;have q2:=(hu.get j hj1).ql;have q3:=ql_mul q1 q2;have sb:=qsub ((hv.get j hj1).mono (show k<=2^22 by omega)) (isQ_Q (q3.mono (show 2*(k2+1)+1<=2^22 by omega))) (by omega);obtain ⟨n1,l1,d1,e1⟩:=(hv.get j hj1).form;obtain ⟨n2,l2,d2,e2⟩:=(hv.get c hc1).form;obtain ⟨n3,l3,d3,e3⟩:=(hu.get j hj1).form;rw [e2,e3] at mu;rw [e1] at sb;have a1:=qmL_lo (f:=λt=>f t-f c*g t) (J:=j+1) (t:=j) (by omega) hj1 hv.len;have a2:=qmL_lo (f:=λt=>f t-f c*g t) (J:=j+1) (t:=c) (by omega) hc1 hv.len;have g1:vs[j]? =some (.agg [.b n1,.sl none (uL l1),.sl none (uL d1)]):=by rw [<- e1]; exact List.getElem?_eq_getElem (by rw [hv.len]; exact hj1)
   have g2:vs[c]? =some (.agg [.b n2,.sl none (uL l2),.sl none (uL d2)]):=by rw [<- e2]; exact List.getElem?_eq_getElem (by rw [hv.len]; exact hc1)
   rw [g1] at a1;rw [g2] at a2;have hset:=qmL_set (f:=λt=>f t-f c*g t) (vs:=vs) hj1;have lN:=qmL_length (n+1) (j+1) (λt=>f t-f c*g t) vs;obtain ⟨z,hz⟩:∃ z,z=f c*g j:=⟨_,rfl⟩;rw [<- hz] at mu sb hset;obtain ⟨y,hy⟩:∃ y,y=f j-z:=⟨_,rfl⟩;rw [<- hy] at sb hset;obtain ⟨N,hN⟩:∃ N,N=qmL (n+1) (j+1) (λt=>f t-f c*g t) vs:=⟨_,rfl⟩;rw [<- hN] at k1 a1 a2 hset lN;rw [Q_eq] at hset;have jN:j<N.length:=by omega
   have cN:c<N.length:=by omega
   have jU:j<us.length:=by rw [hu.len]; exact hj1
   have b1:N[j]= .agg [.b n1,.sl none (uL l1),.sl none (uL d1)]:=by rw [List.getElem?_eq_getElem jN] at a1; exact Option.some.inj a1
   have b2:N[c]= .agg [.b n2,.sl none (uL l2),.sl none (uL d2)]:=by rw [List.getElem?_eq_getElem cN] at a2; exact Option.some.inj a2
   refine Ws ?_; simp [t0,t4,t7,t8,kt,k1,kr,hcj,hj1,hj1I,hc1,hc1I,hc,hi,cWI,iWI,wj,a1,a2,b1,b2,jN,cN,lN,hset,e3,jU];refine WS_cT (by simp [t0,t4,t7,t8,kt,k1,kr,hcj,hj1,hj1I,hc1,hc1I,hc,hi,cWI,iWI,wj,a1,a2,b1,b2,jN,cN,lN,hset,e3,jU]) ?_;refine WS_skip ?_; simp [t0,t4,t7,t8,kt,k1,kr,hcj,hj1,hj1I,hc1,hc1I,hc,hi,cWI,iWI,wj,a1,a2,b1,b2,jN,cN,lN,hset,e3,jU];refine WS_seq (WS_block (WS_regD [] ?_)); simp [t0,t4,t7,t8,kt,k1,kr,hcj,hj1,hj1I,hc1,hc1I,hc,hi,cWI,iWI,wj,a1,a2,b1,b2,jN,cN,lN,hset,e3,jU];refine callD mu rfl ?_; simp [t0,t4,t7,t8,kt,k1,kr,hcj,hj1,hj1I,hc1,hc1I,hc,hi,cWI,iWI,wj,a1,a2,b1,b2,jN,cN,lN,hset,e3,jU];refine callD sb rfl ?_; simp [t0,t4,t7,t8,kt,k1,kr,hcj,hj1,hj1I,hc1,hc1I,hc,hi,cWI,iWI,wj,a1,a2,b1,b2,jN,cN,lN,hset,e3,jU];refine ⟨by kernel_rfl,?_⟩;refine WS_reg [] ?_; simp [t0,t4,t7,t8,kt,k1,kr,hcj,hj1,hj1I,hc1,hc1I,hc,hi,cWI,iWI,wj,a1,a2,b1,b2,jN,cN,lN,hset,e3,jU];refine ⟨⟨j,by omega,by omega,by simp,λp hp=>?_,by simp,λt ht=>?_⟩,?_⟩
   . have n1:¬ p+1000=i+301+1000:=by omega
     simp only [upd_apply,n1,if_false];exact hoth p hp
   . simp only [upd_apply];repeat rw [if_neg (by omega)]
     exact hs t ht
   . rw [dJ,iMJ_eq (i:=8) (j:=j) (k:=.i64) (by simp)]; omega
 . obtain rfl:J=c:=by omega
   have hcj:¬ ((J:Int)<=(J:Int)-1):=by omega
   refine Ws ?_; simp [t4,t8,hcj];refine WS_cF (by simp [t4,t8,hcj]) ?_;refine WS_exit ?_; simp [t4,t8,hcj];refine hQ _ k1 hoth λt ht=>?_;simp only [upd_apply];repeat rw [if_neg (by omega)]
   exact hs t ht
def LinS (M:Nat->Nat->Rat) (W n:Nat) (y:Nat->Rat):Prop:=∀ r,r<W->dq (M r) y (n+1)=0
def UnitC (M:Nat->Nat->Rat) (W c:Nat):Prop:=∀ t,t<c->∀ r,r<W->M r t=if r=t then 1 else 0
def nrmM (M:Nat->Nat->Rat) (c r t:Nat):Rat:=if r=c then M c t / M c c else M r t
def elmM (M:Nat->Nat->Rat) (c k r t:Nat):Rat:=if r<k/\r≠c then M r t-M r c*M c t else M r t
theorem lin_swap {M:Nat->Nat->Rat} {W n c p:Nat} (hc:c<W) (hp:p<W) (y:Nat->Rat):LinS (λr=>M (tr2 c p r)) W n y↔LinS M W n y:=by
 have ht:∀ r,r<W->tr2 c p r<W:=λr hr=>by unfold tr2; (repeat' split)<;>omega
 have hh:∀ r,tr2 c p (tr2 c p r)=r:=λr=>by unfold tr2; (repeat' split)<;>omega
 refine ⟨λh r hr=>?_,λh r hr=>h _ (ht r hr)⟩;have h1:dq (M (tr2 c p (tr2 c p r))) y (n+1)=0:=h (tr2 c p r) (ht r hr);rw [hh] at h1; exact h1
theorem dq_scale (x:Rat) (u y:Nat->Rat):∀ w,dq (λt=>u t / x) y w=dq u y w / x
 | 0=>by simp [dq,Rat.div_def]
 | w+1=>by rw [dq,dq,dq_scale x u y w,Rat.div_def,Rat.div_def,Rat.div_def]; grind
theorem lin_nrm {M:Nat->Nat->Rat} {W n c:Nat} (hc:c<W) (h0:M c c≠0) (y:Nat->Rat):LinS (nrmM M c) W n y↔LinS M W n y:=by
 have e:dq (nrmM M c c) y (n+1)=dq (M c) y (n+1) / M c c:=by
  rw [<- dq_scale]; exact dq_eq (λt=>by rw [nrmM,if_pos rfl]) λ_=>rfl
 have o:∀ r,r≠c->dq (nrmM M c r) y (n+1)=dq (M r) y (n+1):=λr hr=>dq_eq (λt=>by rw [nrmM,if_neg hr]) λ_=>rfl;refine ⟨λh r hr=>?_,λh r hr=>?_⟩
 . by_cases e1:r=c
   . subst e1;have h1:=h r hr;rw [e] at h1;have:dq (M r) y (n+1)=dq (M r) y (n+1) / M r r*M r r:=by grind
     rw [this,h1]; grind
   . rw [<- o r e1]; exact h r hr
 . by_cases e1:r=c
   . subst e1; rw [e,h r hr,Rat.div_def]; grind
   . rw [o r e1]; exact h r hr
theorem lin_elm {M:Nat->Nat->Rat} {W n c k:Nat} (hc:c<W) (y:Nat->Rat):LinS (elmM M c k) W n y↔LinS M W n y:=by
 have ec:dq (elmM M c k c) y (n+1)=dq (M c) y (n+1):=dq_eq (λt=>by rw [elmM,if_neg λh=>h.2 rfl]) λ_=>rfl;have e:∀ r,(r<k/\r≠c)->dq (elmM M c k r) y (n+1)=dq (M r) y (n+1)-M r c*dq (M c) y (n+1):=λr hr=>by
  rw [<- dq_lin]; exact dq_eq (λt=>by rw [elmM,if_pos hr]) λ_=>rfl
 have o:∀ r,¬ (r<k/\r≠c)->dq (elmM M c k r) y (n+1)=dq (M r) y (n+1):=λr hr=>dq_eq (λt=>by rw [elmM,if_neg hr]) λ_=>rfl;refine ⟨λh r hr=>?_,λh r hr=>?_⟩
 . have h1:=h r hr;have h2:=h c hc;rw [ec] at h2;by_cases e1:r<k/\r≠c
   . rw [e r e1,h2] at h1; grind
   . rw [o r e1] at h1; exact h1
 . have h1:=h r hr;have h2:=h c hc;by_cases e1:r<k/\r≠c
   . rw [e r e1,h2,h1]; grind
   . rw [o r e1]; exact h1
theorem unit_swap {M:Nat->Nat->Rat} {W c p:Nat} (H:UnitC M W c) (hc:c<W) (hcp:c<=p) (hp:p<W):UnitC (λr=>M (tr2 c p r)) W c:=λt ht r hr=>by
 have h1:tr2 c p r<W:=by unfold tr2; (repeat' split)<;>omega
 show M (tr2 c p r) t=_;rw [H t ht _ h1];have:(tr2 c p r=t)↔(r=t):=by unfold tr2; (repeat' split)<;>omega
 by_cases h:r=t
 . rw [if_pos h,if_pos (this.2 h)]
 . rw [if_neg h,if_neg λe=>h (this.1 e)]
theorem unit_stage {M:Nat->Nat->Rat} {W c:Nat} (H:UnitC M W c) (hc:c<W) (h0:M c c≠0):UnitC (elmM (nrmM M c) c W) W (c+1):=λt ht r hr=>by
 have hcc:nrmM M c c c=1:=by rw [nrmM,if_pos rfl]; grind
 by_cases e:t=c
 . subst e;by_cases er:r=t
   . subst er;rw [elmM,if_neg λh=>h.2 rfl,hcc,if_pos rfl]
   . rw [elmM,if_pos ⟨hr,er⟩,hcc,if_neg er]; grind
 . have hct:nrmM M c c t=0:=by
    rw [nrmM,if_pos rfl,H t (by omega) c hc,if_neg (by omega),Rat.div_def]; grind
   have hrt:nrmM M c r t=if r=t then 1 else 0:=by
    by_cases er:r=c
    . rw [er,hct,if_neg (by omega)]
    . rw [nrmM,if_neg er]; exact H t (by omega) r hr
   by_cases er:r=c
   . rw [elmM,if_neg λh=>h.2 er]; exact hrt
   . rw [elmM,if_pos ⟨hr,er⟩,hct,hrt]; grind
theorem pivot_ex {M:Nat->Nat->Rat} {W n c:Nat} (H:UnitC M W c) (hc:c<n) (hker:∀ y:Nat->Rat,y n=0->LinS M W n y->∀ t,t<n->y t=0):∃ r,c<=r/\r<W/\M r c≠0:=by
 refine Classical.byContradiction λhno=>?_;have hz:∀ r,c<=r->r<W->M r c=0:=λr h1 h2=>Classical.byContradiction λh=>hno ⟨r,h1,h2,h⟩;obtain ⟨y,y1,y2,y3⟩:∃ y:Nat->Rat,(∀ t,t<c->y t= -(M t c))/\y c=1/\∀ t,c<t->y t=0:=by
  refine ⟨λt=>if t<c then -(M t c) else if t=c then 1 else 0,λt ht=>if_pos ht,?_,λt ht=>?_⟩
  . simp only [Nat.lt_irrefl,if_false,if_true]
  . have h1:¬ t<c:=by omega
    have h2:¬ t=c:=by omega
    simp only [h1,h2,if_false]
 have key:∀ r,r<W->∀ m,(m<=c->dq (M r) y m=if r<m then -(M r c) else 0)/\(c<m->dq (M r) y m=(if r<c then -(M r c) else 0)+M r c):=by
  intro r hr m;induction m with
  | zero=>exact ⟨λ_=>by rw [if_neg (by omega)]; rfl,λh=>by omega⟩
  | succ m ih=>
   obtain ⟨i1,i2⟩:=ih;refine ⟨λh=>?_,λh=>?_⟩
   . rw [dq,i1 (by omega),H m (by omega) r hr,y1 m (by omega)];by_cases e:r=m
     . subst e;have a1:¬ r<r:=by omega
       have a2:r<r+1:=by omega
       simp only [a1,a2,if_false,if_true]; grind
     . by_cases e2:r<m
       . have a2:r<m+1:=by omega
         simp only [e,e2,a2,if_false,if_true]; grind
       . have a2:¬ r<m+1:=by omega
         simp only [e,e2,a2,if_false]; grind
   . rw [dq];by_cases e:m=c
     . subst e; rw [i1 (Nat.le_refl _),y2]; grind
     . rw [i2 (by omega),y3 m (by omega)]; grind
 have h1:=hker y (y3 n hc) (λr hr=>by
  rw [(key r hr (n+1)).2 (by omega)];by_cases e:r<c
  . rw [if_pos e]; grind
  . rw [if_neg e,hz r (by omega) hr]; grind) c hc
 rw [y2] at h1;exact absurd h1 (by decide)
structure MatQ (h:Nat->HC) (G W n:Nat) (γ:Nat->Nat) (R:Nat->List V) (κ:Nat->Nat) (M:Nat->Nat->Rat):Prop where
 top:h 1300=⟨G,some (.rows 109 (rowsQ W (n+1) γ))⟩
 row:∀ r,r<W->h (r+301+1000)=⟨γ r,some (.arr 114 (some 3) (R r))⟩
 rel:∀ r,r<W->IsR (κ r) (R r) (n+1) (M r)
 free:(h 1299).o=none
theorem MatQ.of {h h':Nat->HC} {G W n:Nat} {γ κ:Nat->Nat} {R:Nat->List V} {M:Nat->Nat->Rat} (H:MatQ h G W n γ R κ M) (he:∀ q,299<=q->q<W+301->h' (q+1000)=h (q+1000)):MatQ h' G W n γ R κ M:=
 ⟨(he 300 (by omega) (by omega)).trans H.top,λr hr=>(he (r+301) (by omega) (by omega)).trans (H.row r hr),H.rel,by rw [show (1299:Nat)=299+1000 from rfl,he 299 (by omega) (by omega)]; exact H.free⟩
theorem MatQ.set {h h':Nat->HC} {G W n i:Nat} {γ κ κ':Nat->Nat} {R:Nat->List V} {M M':Nat->Nat->Rat} {vs:List V} (H:MatQ h G W n γ R κ M) (hi:i<W) (h1:h' (i+301+1000)=⟨γ i,some (.arr 114 (some 3) vs)⟩) (h2:∀ p,p≠i+301->h' (p+1000)=h (p+1000))
 (h3:IsR (κ' i) vs (n+1) (M' i)) (h4:∀ r,r<W->r≠i->κ r<=κ' r/\∀ t,t<n+1->M' r t=M r t):MatQ h' G W n γ (λr=>if r=i then vs else R r) κ' M':=by
 refine ⟨(h2 300 (by omega)).trans H.top,λr hr=>?_,λr hr=>?_,by rw [show (1299:Nat)=299+1000 from rfl,h2 299 (by omega)]; exact H.free⟩
 . by_cases e:r=i
   . subst e; rw [h1,if_pos rfl]
   . rw [h2 _ (by omega),H.row r hr,if_neg e]
 . by_cases e:r=i
   . subst e; rw [if_pos rfl]; exact h3
   . rw [if_neg e];obtain ⟨k1,k2⟩:=h4 r hr e;exact ((H.rel r hr).mono k1).congr k2
theorem rowsQ_turn {W m a b G1 G2 G3:Nat} {γ:Nat->Nat} (hab:a≠b):
 (((((rowsQ W m γ).set a (.own (b+301+1000) (γ b) 0 m)).set b (.own (a+301+1000) (γ a) 0 m)).map (ren0 (a+301+1000) (γ a) 1299 G1)).map (ren0 (b+301+1000) (γ b) (a+301+1000) G2)).map (ren0 1299 G1 (b+301+1000) G3)=rowsQ W m (upd (upd γ a G2) b G3):=by
 refine List.ext_getElem (by simp [rowsQ]) λk h1 h2=>?_;rw [List.getElem_map,List.getElem_map,List.getElem_map,List.getElem_set,List.getElem_set];by_cases e1:b=k
 . subst e1;simp [rowsQ,ren0]
 . by_cases e2:a=k
   . subst e2;have n1:¬ b+301+1000=a+301+1000:=by omega
     have n2:¬ a+301+1000=1299:=by omega
     have n3:¬ b=a:=by omega
     simp [rowsQ,ren0,n1,n2,n3,hab,upd]
   . have n1:¬ k+301+1000=a+301+1000:=by omega
     have n2:¬ k+301+1000=b+301+1000:=by omega
     have n3:¬ k+301+1000=1299:=by omega
     have n4:¬ k=a:=by omega
     have n5:¬ k=b:=by omega
     rw [if_neg e1,if_neg e2];simp only [rowsQ,List.getElem_map,List.getElem_range,ren0,n1,n2,n3,false_and,if_false];rw [upd_ne _ _ n5,upd_ne _ _ n4]
theorem elm_skip {M:Nat->Nat->Rat} {c:Nat}:elmM M c (c+1)=elmM M c c:=by
 funext r t;by_cases h:r<c/\r≠c
 . rw [elmM,elmM,if_pos h,if_pos ⟨by omega,h.2⟩]
 . rw [elmM,elmM,if_neg h,if_neg λe=>h ⟨by omega,e.2⟩]
theorem elm_zero (M:Nat->Nat->Rat) (c:Nat):elmM M c 0=M:=by
 funext r t; rw [elmM,if_neg λh=>by omega]
def kEl (K K2 K3 c k r:Nat):Nat:=if r<k/\r≠c then K3 else if r=c then K2 else K
def SlE (S:St) (G W n c K K2 K3:Nat) (γ:Nat->Nat) (M:Nat->Nat->Rat) (S':St):Prop:=
 ∃ k R,k<=W/\MatQ S'.h G W n γ R (kEl K K2 K3 c k) (elmM M c k)/\S'.σ 70= .p (.i .i64 (W:Int))/\S'.σ 71= .p (.i .i64 (k:Int))/\(∀ t,t<=4\/t=9\/t=10->S'.σ t=S.σ t)/\∀ p,p<299\/W+301<=p->S'.h (p+1000)=S.h (p+1000)
set_option maxHeartbeats 4000000 in
theorem slv_4 {Q':Exit->St->Prop} {S:St} {G W n c K:Nat} {γ:Nat->Nat} {R:Nat->List V} {M:Nat->Nat->Rat} (H:MatQ S.h G W n γ R (kEl K (2*K+3) (8*K+20) c 0) M) (hc:c<W) (hcn:c<n) (hn:n<=64) (hW:W<=2^40) (hK:K<=2^18) (hz:∀ t,t<c->M c t=0)
 (s0:S.σ 0= .own 1300 G 0 W) (s1:S.σ 1= .p (.i .i64 (n:Int))) (s4:S.σ 4= .p (.i .i64 (c:Int)))
 (hQ:∀ (S':St) R',MatQ S'.h G W n γ R' (λ_=>8*K+20) (elmM M c W)->(∀ t,t<=4\/t=9\/t=10->S'.σ t=S.σ t)->(∀ p,p<299\/W+301<=p->S'.h (p+1000)=S.h (p+1000))->Q' .normal S'):
 WS Tryz.prog 114 sc_lattice_solved.snd.fst.fst.snd.snd.fst.fst.snd.snd.snd.snd.snd Q' S:=by
 have htop:=H.top;unfold sc_lattice_solved;simp only [SC.snd,SC.fst];refine Wr ?_; simp [s0,htop];refine WS_block ?_;refine WS_loop (SlE S G W n c K (2*K+3) (8*K+20) γ M) (λS=>W-nM 71 S) ⟨0,R,by omega,by rw [elm_zero]; exact H.of λq _ _=>by simp,by simp,by simp,λt ht=>?_,λp _=>by simp⟩ ?_
 . simp only [upd_apply];repeat rw [if_neg (by omega)]
 rintro S1 ⟨k,R1,hk,HM,t70,t71,hs,hf⟩;have d71:=nM_eq t71;have t0:=(hs 0 (by omega)).trans s0;have t1:=(hs 1 (by omega)).trans s1;have t4:=(hs 4 (by omega)).trans s4;by_cases hlt:k<W
 . have hltI:(k:Int)<(W:Int):=by omega
   have wk:=i64_succ k (by omega);by_cases hkc:k=c
   . subst hkc;refine Wr ?_; simp [t4,t70,t71,hltI,wk];refine WS_seq ?_;refine WS_cT (by simp [t4,t70,t71,hltI,wk]) ?_;refine WS_skip ?_; simp [t4,t70,t71,hltI,wk];refine WS_seq (WS_block (Wr ?_)); simp [t4,t70,t71,hltI,wk];refine Ws ?_; simp [t4,t70,t71,hltI,wk];refine WS_cT (by simp [t4,t70,t71,hltI,wk]) ?_;refine WS_exit ?_; simp [t4,t70,t71,hltI,wk];refine WS_reg [] ?_; simp [t4,t70,t71,hltI,wk];refine ⟨⟨k+1,R1,by omega,?_,by simp [t70],by simp,λt ht=>?_,λp hp=>by simpa using hf p hp⟩,?_⟩
     . rw [elm_skip];have e:kEl K (2*K+3) (8*K+20) k (k+1)=kEl K (2*K+3) (8*K+20) k k:=by
        funext r; unfold kEl;by_cases h:r<k/\r≠k
        . rw [if_pos h,if_pos ⟨by omega,h.2⟩]
        . rw [if_neg h,if_neg λe=>h ⟨by omega,e.2⟩]
       rw [e]; exact HM.of λq _ _=>by simp
     . simp only [upd_apply];repeat rw [if_neg (by omega)]
       exact hs t ht
     . rw [d71,nM_eq (i:=71) (n:=k+1) (by simp)]; omega
   . have hkcI:¬ ((k:Int)=(c:Int)):=by omega
     have rk:=HM.rel k hlt;have rc:=HM.rel c hc;have ek:elmM M c k k=M k:=by funext t; rw [elmM,if_neg λh=>by omega]
     have ec:elmM M c k c=M c:=by funext t; rw [elmM,if_neg λh=>h.2 rfl]
     rw [ek,show kEl K (2*K+3) (8*K+20) c k k=K by unfold kEl; rw [if_neg (by omega),if_neg hkc]] at rk;rw [ec,show kEl K (2*K+3) (8*K+20) c k c=2*K+3 by unfold kEl; rw [if_neg (by omega),if_pos rfl]] at rc;refine Wr ?_; simp [t4,t70,t71,hltI,wk,hkc,hkcI];refine WS_seq ?_;refine WS_cT (by simp [t4,t70,t71,hltI,wk,hkc,hkcI]) ?_;refine WS_skip ?_; simp [t4,t70,t71,hltI,wk,hkc,hkcI];refine WS_seq (WS_block (Wr ?_)); simp [t4,t70,t71,hltI,wk,hkc,hkcI];refine Ws ?_; simp [t4,t70,t71,hltI,wk,hkc,hkcI];refine WS_cF (by simp [t4,t70,t71,hltI,wk,hkc,hkcI]) ?_;refine WS_skip ?_; simp [t4,t70,t71,hltI,wk,hkc,hkcI];refine slv_3 (c:=c) (i:=k) (by simpa using HM.top) hc hlt hkc hcn hn (by simpa using HM.row k hlt) rk (by simpa using HM.row c hc) rc (by omega) (by omega) (by simp [t0]) (by simp [t1]) (by simp [t4]) (by simp) ?_;intro S2 h1 hoth2 hs2;have u71:=(hs2 71 (by omega)).trans (show _=SV.p (.i .i64 (k:Int)) by simp [t71]);refine WS_reg [] ?_; simp [u71,wk];have q1:∀ t,t<n+1->QL (8*K+20) (M k t-M k c*M c t):=λt ht=>by
      have g1:=(rk.get c (by omega)).ql;have g2:=(rc.get t ht).ql;have g3:=ql_mul (g1.mono (show K+1<=2*K+3+1 by omega)) g2;have g4:=ql_sub (((rk.get t ht).ql).mono (show K+1<=2*(2*K+3+1)+1 by omega)) g3;exact g4.mono (by omega)
     refine ⟨⟨k+1,_,by omega,HM.set (κ':=kEl K (2*K+3) (8*K+20) c (k+1)) (M':=elmM M c (k+1)) (vs:=qmL (n+1) c (λt=>M k t-M k c*M c t) (R1 k)) hlt (by simpa using h1) (λp hp=>?_) ?_ (λr hr hrk=>⟨?_,λt _=>?_⟩),?_,by simp,λt ht=>?_,λp hp=>?_⟩,?_⟩
     . have:=hoth2 p hp
       simpa using this
     . have e1:kEl K (2*K+3) (8*K+20) c (k+1) k=8*K+20:=by unfold kEl; rw [if_pos ⟨by omega,hkc⟩]
       rw [e1];have e2:elmM M c (k+1) k=λt=>M k t-M k c*M c t:=by funext t; rw [elmM,if_pos ⟨by omega,hkc⟩]
       rw [e2];exact isR_qmL rk (by omega) (λt h1 h2=>by rw [hz t h1]; grind) q1
     . have e:kEl K (2*K+3) (8*K+20) c (k+1) r=kEl K (2*K+3) (8*K+20) c k r:=by
        unfold kEl;by_cases h:r<k/\r≠c
        . have h':r<k+1/\r≠c:=⟨by omega,h.2⟩;rw [if_pos h,if_pos h']
        . have h':¬ (r<k+1/\r≠c):=λe=>h ⟨by omega,e.2⟩;rw [if_neg h,if_neg h']
       rw [e]; exact Nat.le_refl _
     . by_cases h:r<k/\r≠c
       . rw [elmM,elmM,if_pos h,if_pos ⟨by omega,h.2⟩]
       . rw [elmM,elmM,if_neg h,if_neg λe=>h ⟨by omega,e.2⟩]
     . have:=(hs2 70 (by omega)).trans (show _=SV.p (.i .i64 (W:Int)) by simp [t70])
       simpa using this
     . simp only [upd_apply];repeat rw [if_neg (by omega)]
       rw [hs2 t (by omega)];simp only [upd_apply];repeat rw [if_neg (by omega)]
       exact hs t ht
     . have e1:=hoth2 p (by omega);have e2:=hf p hp;simp at e1;exact e1.trans e2
     . rw [d71,nM_eq (i:=71) (n:=k+1) (by simp)]; omega
 . obtain rfl:k=W:=by omega
   have hltI:¬ ((k:Int)<(k:Int)):=by omega
   refine Wr ?_; simp [t70,t71,hltI];refine WS_seq ?_;refine WS_cF (by simp [t70,t71,hltI]) ?_;refine WS_exit ?_; simp [t70,t71,hltI];refine hQ _ R1 ⟨by simpa using HM.top,λr hr=>by simpa using HM.row r hr,λr hr=>(HM.rel r hr).mono ?_,by simpa using HM.free⟩ (λt ht=>?_) λp hp=>by simpa using hf p hp
   . unfold kEl; split
     . exact Nat.le_refl _
     . split<;>omega
   . simp only [upd_apply];repeat rw [if_neg (by omega)]
     exact hs t ht
def kk (K:Nat):Nat->Nat
 | 0=>K
 | c+1=>8*kk K c+20
def fpQ (W:Nat):List Nat:=(List.range (W+2)).map (· +1299)
theorem fpQ_big {W:Nat}:∀ q∈fpQ W,1000<=q:=by
 intro q hq;simp only [fpQ,List.mem_map] at hq;obtain ⟨i,_,rfl⟩:=hq;omega
theorem fpQ_mem {W q:Nat} (h1:299<=q) (h2:q<W+301):q+1000∈fpQ W:=by
 simp only [fpQ,List.mem_map,List.mem_range]; exact ⟨q-299,by omega,by omega⟩
theorem fpQ_not {W q:Nat} (h:q+1000 ∉ fpQ W):q<299\/W+301<=q:=by
 refine Classical.byContradiction λhno=>h (fpQ_mem (by omega) (by omega))
theorem num_sign {q:Rat}:q.num.sign=0↔q=0:=by
 rw [Int.sign_eq_zero_iff_zero]; exact Rat.num_eq_zero
def SlP (S:St) (W c:Nat) (M:Nat->Nat->Rat) (S':St):Prop:=
 ∃ p,c<=p/\p<W/\(∀ r,c<=r->r<p->M r c=0)/\S'.σ 5= .p (.i .i64 (p:Int))/\S'.σ 4= .p (.i .i64 (c:Int))/\(∀ t,t<=3\/t=9\/t=10->S'.σ t=S.σ t)/\∀ q,S'.h (q+1000)=S.h (q+1000)
def SlO (h2:Nat->HC) (G W n K:Nat) (M0:Nat->Nat->Rat) (S:St):Prop:=
 ∃ c γ R M,c<=n/\MatQ S.h G W n γ R (λ_=>kk K c) M/\UnitC M W c/\(∀ y,LinS M W n y↔LinS M0 W n y)/\S.σ 0= .own 1300 G 0 W/\S.σ 1= .p (.i .i64 (n:Int))/\S.σ 9= .p (.i .i64 (n:Int))/\S.σ 10= .p (.i .i64 (c:Int))/\∀ p,p<299\/W+301<=p->S.h (p+1000)=h2 (p+1000)
set_option maxHeartbeats 4000000 in
theorem slv_swap {Q':Exit->St->Prop} {S:St} {G W n c p:Nat} {γ κ:Nat->Nat} {R:Nat->List V} {M:Nat->Nat->Rat} (H:MatQ S.h G W n γ R κ M) (hc:c<W) (hp:p<W) (hcp:c<=p) (hW:W<=2^40)
 (s0:S.σ 0= .own 1300 G 0 W) (s4:S.σ 4= .p (.i .i64 (c:Int))) (s5:S.σ 5= .p (.i .i64 (p:Int)))
 (hQ:∀ (S':St) γ',MatQ S'.h G W n γ' (λr=>R (tr2 c p r)) (λr=>κ (tr2 c p r)) (λr=>M (tr2 c p r))->S'.σ 0= .own 1300 G 0 W->S'.σ 4= .p (.i .i64 (c:Int))->(∀ t,t=1\/t=9\/t=10->∀ k,S.σ t= .p (.i .i64 k)->S'.σ t= .p (.i .i64 k))->(∀ p,p<299\/W+301<=p->S'.h (p+1000)=S.h (p+1000))->WS Tryz.prog 114 sc_lattice_solved.snd.fst.fst.snd.snd.fst.fst.snd.snd.snd.snd Q' S'):
 WS Tryz.prog 114 sc_lattice_solved.snd.fst.fst.snd.snd.fst.fst.snd.snd.snd Q' S:=by
 have ht:=H.top;have cI:(c:Int)<(W:Int):=by omega
 have pI:(p:Int)<(W:Int):=by omega
 unfold sc_lattice_solved;simp only [SC.snd,SC.fst];refine WS_seq (WS_regD [] ?_); simp [s0,s4,s5,ht,hc,hp,cI,pI];refine ⟨by kernel_rfl,?_⟩;by_cases hpc:p=c
 . subst hpc;have htr:∀ r,tr2 p p r=r:=λr=>by unfold tr2; (repeat' split)<;>omega
   have e:((rowsQ W (n+1) γ).set p (.own (p+301+1000) (γ p) 0 (n+1)))=rowsQ W (n+1) γ:=by
    refine List.ext_getElem (by simp) λi h1 h2=>?_;rw [List.getElem_set];by_cases e:p=i
    . subst e; simp [rowsQ]
    . rw [if_neg e]
   refine hQ _ γ ?_ (by simp [s0]) (by simp [s4]) (λt ht k hk=>?_) λq hq=>?_
   . simp only [htr];refine ⟨by simp [e],λr hr=>?_,H.rel,by simpa using H.free⟩;have n1:¬ r+301+1000=1300:=by omega
     simpa [n1] using H.row r hr
   . rcases ht with rfl | rfl | rfl<;>simpa using hk
   . have n1:¬ q+1000=1300:=by omega
     simp [n1]
 . refine WS_abs (λS'=>S'.σ 0= .own 1300 G 0 W/\S'.σ 4= .p (.i .i64 (c:Int))/\(∀ t,t=1\/t=9\/t=10->S'.σ t=S.σ t)/\S'.h 1300=⟨G,some (.rows 109 (((rowsQ W (n+1) γ).set c (.own (p+301+1000) (γ p) 0 (n+1))).set p (.own (c+301+1000) (γ c) 0 (n+1))))⟩/\∀ q,q≠300->S'.h (q+1000)=S.h (q+1000)) ?_ ?_
   . refine ⟨by simp [s0],by simp [s4],λt ht=>?_,by simp,λq hq=>?_⟩
     . rcases ht with rfl | rfl | rfl<;>simp
     . have n1:¬ q+1000=1300:=by omega
       simp [n1]
   rintro S1 ⟨t0,t4,tt,h13,hoth⟩;have ra:=(hoth (c+301) (by omega)).trans (H.row c hc);have rb:=(hoth (p+301) (by omega)).trans (H.row p hp);have r99:(S1.h 1299).o=none:=by rw [show (1299:Nat)=299+1000 from rfl,hoth 299 (by omega)]; exact H.free
   refine WS_turn 1300 (c+301+1000) (p+301+1000) 1299 (by rw [ra]) (by rw [rb]) r99 (by omega) (by omega) (by omega) (by omega) (by omega) (by omega) (by omega) (by omega) (by omega) (by simp [HObj.refs]) (by simp [HObj.refs]) ?_;intro S2 G1 G2 G3 hσ ha hb hq hc1 hp1;rw [ra,rb] at hσ hc1;rw [h13] at hc1;simp only [Option.map_some,HObj.ren,rowsQ_turn (Ne.symm hpc)] at hσ hc1;have gp:∀ q,q≠c+301->q≠p+301->q≠299->q≠300->S2.h (q+1000)=S.h (q+1000):=λq h1 h2 h3 h4=>by rw [hp1 _ (by omega) (by omega) (by omega) (by omega),hoth q h4]
   refine hQ S2 (upd (upd γ c G2) p G3) ⟨hc1,λr hr=>?_,λr hr=>H.rel _ (by unfold tr2; (repeat' split)<;>omega),hq⟩ ?_ ?_ (λt ht k hk=>?_) λq hq=>gp q (by omega) (by omega) (by omega) (by omega)
   . by_cases e1:r=p
     . subst e1;rw [hb,upd_same];have:tr2 c r r=c:=by unfold tr2; (repeat' split)<;>omega
       rw [this]
     . by_cases e2:r=c
       . subst e2;rw [ha,upd_ne _ _ e1,upd_same];have:tr2 r p r=p:=by unfold tr2; (repeat' split)<;>omega
         rw [this]
       . rw [gp (r+301) (by omega) (by omega) (by omega) (by omega),H.row r hr,upd_ne _ _ e1,upd_ne _ _ e2];have:tr2 c p r=r:=by unfold tr2; (repeat' split)<;>omega
         rw [this]
   . rw [hσ,t0];have n1:¬ 1300=c+301+1000:=by omega
     have n2:¬ 1300=p+301+1000:=by omega
     simp [ren2,ren1,ren0,n1,n2]
   . rw [hσ,t4]; rfl
   . rw [hσ,tt t ht,hk]; rfl
set_option maxHeartbeats 4000000 in
theorem lsolved {h:Nat->HC} {G W n K:Nat} {γ:Nat->Nat} {R:Nat->List V} {M0:Nat->Nat->Rat} (H:MatQ h G W n γ R (λ_=>K) M0) (hn:n<=64) (hW:W<=2^40) (hK:∀ c,c<n->kk K c<=2^18) (hker:∀ y:Nat->Rat,y n=0->LinS M0 W n y->∀ t,t<n->y t=0):
 FrM Tryz.prog f_lattice_solved h (fpQ W) [.own 1300 G 0 W,.p (.i .i64 (n:Int))] (λg svs=>svs=[]/\∃ γ' R' M,MatQ g G W n γ' R' (λ_=>kk K n) M/\UnitC M W n/\∀ y,LinS M W n y↔LinS M0 W n y):=by
 refine frM_at Tryz.func111 ok_lattice_solved (by simp) (by simp) fpQ_big λh2 hh=>?_;have H2:MatQ h2 G W n γ R (λ_=>K) M0:=H.of λq h1 h3=>hh _ (fpQ_mem h1 h3);unfold sc_lattice_solved;refine Wr ?_; simp;refine WS_block ?_;refine WS_loop (SlO h2 G W n K M0) (λS=>n-nM 10 S) ⟨0,γ,R,M0,by omega,H2.of λq _ _=>by simp,λt ht=>by omega,λy=>Iff.rfl,by simp,by simp,by simp,by simp,λp _=>by simp⟩ ?_;rintro S ⟨c,γ1,R1,M,hc,HM,HU,HL,s0,s1,s9,s10,hf⟩;have d10:=nM_eq s10;by_cases hlt:c<n
 . have hltI:(c:Int)<(n:Int):=by omega
   have wc:=i64_succ c (by omega);have kc:=hK c hlt;obtain ⟨r0,hr1,hr2,hr3⟩:=pivot_ex HU hlt λy h1 h2=>hker y h1 ((HL y).1 h2);refine Wr ?_; simp [s0,s9,s10,hltI];refine WS_seq ?_;refine WS_cT (by simp [s0,s9,s10,hltI]) ?_;refine WS_skip ?_; simp [s0,s9,s10,hltI];refine WS_seq (WS_block (Wr ?_)); simp [s0,s9,s10,hltI];refine Wr ?_; simp [s0,s9,s10,hltI];refine WS_seq (WS_block ?_);refine WS_loop (SlP S W c M) (λS=>W-nM 5 S) ⟨c,Nat.le_refl _,by omega,λr h1 h2=>by omega,by simp,by simp,λt ht=>?_,λq=>by simp⟩ ?_
   . simp only [upd_apply];repeat rw [if_neg (by omega)]
   rintro S1 ⟨p,hp1,hp2,hp3,t5,t4,hs,hq⟩;have d5:=nM_eq t5;have t0:=(hs 0 (by omega)).trans s0;have t1:=(hs 1 (by omega)).trans s1;have t9:=(hs 9 (by omega)).trans s9;have t10:=(hs 10 (by omega)).trans s10;have HM1:MatQ S1.h G W n γ1 R1 (λ_=>kk K c) M:=HM.of λq _ _=>hq q;have kt:=HM1.top;have kr:=HM1.row p hp2;have rp:=HM1.rel p hp2;have pI:(p:Int)<(W:Int):=by omega
   have cn1:c<n+1:=by omega
   have cn1I:(c:Int)<(n:Int)+1:=by omega
   have cl:c<(R1 p).length:=by rw [rp.len]; exact cn1
   have sg:=qsign (rp.get c cn1) (show kk K c<=2^33 by omega);obtain ⟨n1,l1,d1,e1⟩:=(rp.get c cn1).form;rw [e1] at sg;have lR:=rp.len;by_cases h0:M p c=0
   . have hs0:(M p c).num.sign=0:=num_sign.2 h0;rw [hs0] at sg;have wp:=i64_succ p (by omega);refine Ws ?_; simp [t0,t4,t5,kt,kr,hp2,pI,cn1,cn1I,cl,lR,e1,wp];refine callP sg rfl ?_;simp [t0,t4,t5,kt,kr,hp2,pI,cn1,cn1I,cl,lR,e1,wp];refine WS_cT (by simp [t0,t4,t5,kt,kr,hp2,pI,cn1,cn1I,cl,lR,e1,wp]) ?_;refine WS_skip ?_; simp [t0,t4,t5,kt,kr,hp2,pI,cn1,cn1I,cl,lR,e1,wp];refine WS_block (WS_reg [] ?_); simp [t0,t4,t5,kt,kr,hp2,pI,cn1,cn1I,cl,lR,e1,wp];refine ⟨⟨p+1,by omega,?_,λr h1 h2=>?_,by simp,by simp [t4],λt ht=>?_,λq=>by simpa using hq q⟩,?_⟩
     . have hle:p<=r0:=Nat.le_of_not_lt λh=>hr3 (hp3 r0 hr1 h);have hne:p≠r0:=λe=>hr3 (by rw [<- e]; exact h0);omega
     . by_cases e:r=p
       . subst e; exact h0
       . exact hp3 r h1 (by omega)
     . simp only [upd_apply];repeat rw [if_neg (by omega)]
       exact hs t ht
     . rw [d5,nM_eq (i:=5) (n:=p+1) (by simp)]; omega
   . have hs0:¬ (M p c).num.sign=0:=λh=>h0 (num_sign.1 h);refine Ws ?_; simp [t0,t4,t5,kt,kr,hp2,pI,cn1,cn1I,cl,lR,e1,hs0];refine callP sg rfl ?_;simp [t0,t4,t5,kt,kr,hp2,pI,cn1,cn1I,cl,lR,e1,hs0];refine WS_cF (by simp [t0,t4,t5,kt,kr,hp2,pI,cn1,cn1I,cl,lR,e1,hs0]) ?_;refine WS_exit ?_; simp [t0,t4,t5,kt,kr,hp2,pI,cn1,cn1I,cl,lR,e1,hs0];refine slv_swap (c:=c) (p:=p) (HM1.of λq _ _=>by simp) (by omega) hp2 hp1 hW (by simp [t0]) (by simp [t4]) (by simp [t5]) ?_;intro S2 γ2 HM2 u0 u4 uu hf2;have u1:=uu 1 (by omega) (n:Int) (by simp [t1]);have u9:=uu 9 (by omega) (n:Int) (by simp [t9]);have u10:=uu 10 (by omega) (c:Int) (by simp [t10]);have hcW:c<W:=by omega
     have HU2:=unit_swap HU hcW hp1 hp2;have hcc:M (tr2 c p c) c≠0:=by
      have:tr2 c p c=p:=by unfold tr2; (repeat' split)<;>omega
      rw [this]; exact h0
     obtain ⟨M2,hM2⟩:∃ m,m=λr=>M (tr2 c p r):=⟨_,rfl⟩;have HL2:∀ y,LinS M2 W n y↔LinS M0 W n y:=λy=>by rw [hM2]; exact (lin_swap hcW hp2 y).trans (HL y)
     rw [<- hM2] at HM2 HU2;have hcc2:M2 c c≠0:=by rw [hM2]; exact hcc
     have rc:=HM2.rel c hcW;show WS Tryz.prog 114 _ _ S2;refine WS_seq ?_;refine slv_2 HM2.top hcW hlt hn (HM2.row c hcW) rc (by omega) hcc2 u0 u1 u4 ?_;intro S3 k3 hoth3 hs3;have v0:=(hs3 0 (by omega)).trans u0;have v1:=(hs3 1 (by omega)).trans u1;have v4:=(hs3 4 (by omega)).trans u4;have v9:=(hs3 9 (by omega)).trans u9;have v10:=(hs3 10 (by omega)).trans u10;have hz2:∀ t,t<c->M2 c t=0:=λt ht=>by rw [HU2 t ht c hcW,if_neg (by omega)]
     have HM3:=HM2.set (κ':=kEl (kk K c) (2*kk K c+3) (8*kk K c+20) c 0) (M':=nrmM M2 c) hcW k3 hoth3 (by
      have e1:kEl (kk K c) (2*kk K c+3) (8*kk K c+20) c 0 c=2*kk K c+3:=by unfold kEl; rw [if_neg (by omega),if_pos rfl]
      have e2:nrmM M2 c c=λt=>M2 c t / M2 c c:=by funext t; rw [nrmM,if_pos rfl]
      rw [e1,e2];refine isR_qmL rc (by omega) (λt h1 h2=>by rw [hz2 t h1,Rat.div_def]; grind) λt ht=>?_;exact (ql_div (rc.get t ht).ql (rc.get c cn1).ql).mono (by omega)) (λr hr hrc=>⟨by unfold kEl; rw [if_neg (by omega),if_neg hrc]; exact Nat.le_refl _,λt _=>by rw [nrmM,if_neg hrc]⟩)
     have HU3:=unit_stage HU2 hcW hcc2;have hz3:∀ t,t<c->nrmM M2 c c t=0:=λt ht=>by rw [nrmM,if_pos rfl,hz2 t ht,Rat.div_def]; grind
     show WS Tryz.prog 114 _ _ S3;refine slv_4 HM3 hcW hlt hn hW kc hz3 v0 v1 v4 ?_;intro S4 R4 HM4 hs4 hf4;have w10:=(hs4 10 (by omega)).trans v10;refine WS_reg [] ?_; simp [w10,wc];refine ⟨⟨c+1,γ2,R4,elmM (nrmM M2 c) c W,by omega,HM4.of λq _ _=>by simp,HU3,λy=>((lin_elm hcW y).trans (lin_nrm hcW hcc2 y)).trans (HL2 y),?_,?_,?_,by simp,λq hq'=>?_⟩,?_⟩
     . have:=(hs4 0 (by omega)).trans v0
       simpa using this
     . have:=(hs4 1 (by omega)).trans v1
       simpa using this
     . have:=(hs4 9 (by omega)).trans v9
       simpa using this
     . have e1:=hf4 q hq';have e2:=hoth3 q (by omega);have e3:=hf2 q hq';have e4:=hq q;have e5:=hf q hq';simp at e3;show S4.h (q+1000)=_;rw [e1,e2,e3,e4,e5]
     . rw [d10,nM_eq (i:=10) (n:=c+1) (by simp)]; omega
 . obtain rfl:c=n:=by omega
   have hltI:¬ (c:Int)<(c:Int):=by omega
   refine Wr ?_; simp [s9,s10,hltI];refine WS_seq ?_;refine WS_cF (by simp [s9,s10,hltI]) ?_;refine WS_exit ?_; simp [s9,s10,hltI];exact ⟨λq hq=>by simpa using hf q (fpQ_not hq),γ1,R1,M,HM.of λq _ _=>by simp,HU,HL⟩
def inM (L:List (List Int)) (v:List Int) (n r t:Nat):Rat:=if t<n then ((bOf L t r:Int):Rat) else ((cf v r:Int):Rat)
theorem inM_dq {L:List (List Int)} {v:List Int} {n r:Nat} {y:Nat->Rat}:∀ m,m<=n->dq (inM L v n r) y m=smQ y (bOf L) r m
 | 0,_=>rfl
 | m+1,h=>by rw [dq,smQ,inM_dq m (by omega),inM,if_pos (by omega)]; grind
theorem inM_lin {L:List (List Int)} {v:List Int} {n W:Nat} {y:Nat->Rat}:LinS (inM L v n) W n y↔∀ r,r<W->smQ y (bOf L) r n+((cf v r:Int):Rat)*y n=0:=by
 refine ⟨λh r hr=>?_,λh r hr=>?_⟩
 . have h1:=h r hr;rw [dq,inM_dq n (Nat.le_refl _),inM,if_neg (by omega)] at h1; exact h1
 . rw [dq,inM_dq n (Nat.le_refl _),inM,if_neg (by omega)]; exact h r hr
theorem unit_dq {M:Nat->Nat->Rat} {W n r:Nat} {y:Nat->Rat} (H:UnitC M W n) (hr:r<W):∀ m,m<=n->dq (M r) y m=if r<m then y r else 0
 | 0,_=>rfl
 | m+1,h=>by
  rw [dq,unit_dq H hr m (by omega),H m (by omega) r hr];by_cases e:r=m
  . subst e;have a1:¬ r<r:=by omega
    have a2:r<r+1:=by omega
    simp only [a1,a2,if_false,if_true]; grind
  . by_cases e2:r<m
    . have a2:r<m+1:=by omega
      simp only [e,e2,a2,if_false,if_true]; grind
    . have a2:¬ r<m+1:=by omega
      simp only [e,e2,a2,if_false]; grind
theorem unit_lin {M:Nat->Nat->Rat} {W n:Nat} {y:Nat->Rat} (H:UnitC M W n):LinS M W n y↔∀ r,r<W->(if r<n then y r else 0)+M r n*y n=0:=by
 refine ⟨λh r hr=>?_,λh r hr=>?_⟩
 . have h1:=h r hr;rw [dq,unit_dq H hr n (Nat.le_refl _)] at h1; exact h1
 . rw [dq,unit_dq H hr n (Nat.le_refl _)]; exact h r hr
theorem in_ker {L:List (List Int)} {v:List Int} {n W:Nat} (H:Ind (bOf L) n W) (y:Nat->Rat) (h0:y n=0) (h:LinS (inM L v n) W n y):∀ t,t<n->y t=0:=
 ind_ker H y λc hc=>by
  have:=inM_lin.1 h c hc;rw [h0] at this; grind
def InOk (M:Nat->Nat->Rat) (W n:Nat):Prop:=(∀ r,r<n->(M r n).den=1)/\∀ r,n<=r->r<W->M r n=0
theorem smQ_int (x:Nat->Int) (b:Nat->Nat->Int) (c:Nat):∀ n,smQ (λt=>(x t:Rat)) b c n=((smI x b c n:Int):Rat)
 | 0=>rfl
 | n+1=>by rw [smQ,smI,smQ_int x b c n]; push_cast; rfl
theorem in_found {L:List (List Int)} {v:List Int} {n W:Nat} {M:Nat->Nat->Rat} (hnW:n<=W) (HU:UnitC M W n) (HL:∀ y,LinS M W n y↔LinS (inM L v n) W n y) {x:Nat->Int} (hx:∀ c,c<W->cf v c=smI x (bOf L) c n):InOk M W n/\∀ r,r<n->(M r n).num=x r:=by
 have h1:=(unit_lin HU).1 ((HL (λt=>if t<n then (x t:Rat) else -1)).2 (inM_lin.2 λr hr=>by
  have e:smQ (λt=>if t<n then (x t:Rat) else -1) (bOf L) r n=smQ (λt=>(x t:Rat)) (bOf L) r n:=by
   have key:∀ m,m<=n->smQ (λt=>if t<n then (x t:Rat) else -1) (bOf L) r m=smQ (λt=>(x t:Rat)) (bOf L) r m:=by
    intro m;induction m with
    | zero=>intro _; rfl
    | succ m ih=>intro hm; rw [smQ,smQ,ih (by omega),if_pos (show m<n by omega)]
   exact key n (Nat.le_refl _)
  rw [e,smQ_int,<-hx r hr];simp only [Nat.lt_irrefl,if_false]; grind))
 have h2:∀ r,r<n->M r n=(x r:Rat):=λr hr=>by
  have h3:=h1 r (by omega);simp only [hr,if_true,Nat.lt_irrefl,if_false] at h3;grind
 refine ⟨⟨λr hr=>by rw [h2 r hr]; rfl,λr hr hrW=>?_⟩,λr hr=>by rw [h2 r hr]; rfl⟩;have h3:=h1 r hrW;have a1:¬ r<n:=by omega
 simp only [a1,Nat.lt_irrefl,if_false] at h3;grind
theorem in_made {L:List (List Int)} {v:List Int} {n W:Nat} {M:Nat->Nat->Rat} (HU:UnitC M W n) (HL:∀ y,LinS M W n y↔LinS (inM L v n) W n y) (hok:InOk M W n):∀ c,c<W->cf v c=smI (λr=>(M r n).num) (bOf L) c n:=by
 have e:∀ r,r<n->M r n=(((M r n).num:Int):Rat):=λr hr=>Rat.ext rfl (hok.1 r hr);have h1:=inM_lin.1 ((HL (λt=>if t<n then M t n else -1)).1 ((unit_lin HU).2 λr hr=>by
  by_cases h:r<n
  . simp only [h,if_true,Nat.lt_irrefl,if_false]; grind
  . simp only [h,Nat.lt_irrefl,if_false,hok.2 r (by omega) hr]; grind))
 intro c hc;have h2:=h1 c hc;have e2:smQ (λt=>if t<n then M t n else -1) (bOf L) c n=smQ (λt=>(((M t n).num:Int):Rat)) (bOf L) c n:=by
  have key:∀ m,m<=n->smQ (λt=>if t<n then M t n else -1) (bOf L) c m=smQ (λt=>(((M t n).num:Int):Rat)) (bOf L) c m:=by
   intro m;induction m with
   | zero=>intro _; rfl
   | succ m ih=>intro hm; rw [smQ,smQ,ih (by omega),if_pos (show m<n by omega),<-e m (by omega)]
  exact key n (Nat.le_refl _)
 rw [e2,smQ_int] at h2;simp only [Nat.lt_irrefl,if_false] at h2;have h3:((cf v c:Int):Rat)=((smI (λr=>(M r n).num) (bOf L) c n:Int):Rat):=by grind
 exact_mod_cast h3
theorem in_le {M:Nat->Nat->Rat} {W n:Nat} (HU:UnitC M W n) (hker:∀ y:Nat->Rat,y n=0->LinS M W n y->∀ t,t<n->y t=0):n<=W:=by
 refine Classical.byContradiction λh=>?_;obtain ⟨r,h1,h2,_⟩:=pivot_ex (c:=W) (n:=n) (λt ht r hr=>HU t (by omega) r hr) (by omega) hker;omega
def inV (xs:List V) (r i:Nat):List V:=(List.range i).map λt=>match (vsOf xs t)[r]? with | some (.agg [a,b])=>.agg [a,b,.sl none [.i .u64 1]] | _=>default
theorem inV_length (xs:List V) (r i:Nat):(inV xs r i).length=i:=by simp [inV]
theorem inV_snoc {xs:List V} {r i:Nat} {a b:V} (h:(vsOf xs i)[r]? =some (.agg [a,b])):inV xs r i++[.agg [a,b,.sl none [.i .u64 1]]]=inV xs r (i+1):=by
 rw [inV,inV,List.range_succ,List.map_append];simp [h]
theorem one_val:Nm.val 18446744073709551616 [1]=1:=by decide
theorem isQ_int {k:Nat} {b:Bool} {l:List Nat} {x:Int} (h:ZW k l) (hx:zi b l=x) (hk:1<=k):IsQ k (.agg [.b b,.sl none (uL l),.sl none [.i .u64 1]]) ((x:Int):Rat):=by
 refine ⟨b,l,[1],rfl,h,⟨λd hd=>?_,by simpa using hk⟩,?_⟩
 . simp only [List.mem_singleton] at hd; subst hd; omega
 . rw [rq,hx,one_val];exact Rat.mkRat_one x
attribute [local simp] inV_length
def InI (S:St) (xs:List V) (n r:Nat) (S':St):Prop:=
 ∃ i g,i<=n/\S'.h 11=⟨g,some (.arr 114 (some 3) (inV xs r i))⟩/\S'.σ 11= .own 11 g 0 i/\S'.σ 48= .p (.sl none xs)/\S'.σ 49= .p (.i .i64 (n:Int))/\S'.σ 50= .p (.i .i64 (i:Int))/\(∀ t,t<=10\/t=41\/t=42\/t=43->S'.σ t=S.σ t)/\∀ q,q≠11->q≠61->S'.h q=S.h q
set_option maxHeartbeats 4000000 in
theorem in_row {Q':Exit->St->Prop} {S:St} {k n W r g:Nat} {xs:List V} {L:List (List Int)} (hL:IsL k xs L) (hx:xs.length=n) (hwid:∀ a,a<n->(L.getD a []).length=W) (hr:r<W) (hn:n<=64) (hW:W<=2^40) (s0:S.σ 0= .p (.sl none xs)) (s9:S.σ 9= .p (.i .i64 (r:Int))) (s11:S.σ 11= .own 11 g 0 0) (h11:S.h 11=⟨g,some (.arr 114 (some 3) [])⟩)
 (hQ:∀ (S':St) g',S'.h 11=⟨g',some (.arr 114 (some 3) (inV xs r n))⟩->S'.σ 11= .own 11 g' 0 n->(∀ t,t<=10\/t=41\/t=42\/t=43->S'.σ t=S.σ t)->(∀ q,q≠11->q≠61->S'.h q=S.h q)->Q' .normal S'):
 WS Tryz.prog 123 sc_lattice_In.snd.snd.snd.fst.snd.fst.fst.snd.snd.fst.fst.snd.snd.fst Q' S:=by
 unfold sc_lattice_In;simp only [SC.snd,SC.fst];refine Wr ?_; simp [s0,hx];refine WS_block ?_;refine WS_loop (InI S xs n r) (λS=>n-nM 50 S) ⟨0,g,by omega,by simp [h11,inV],by simp [s11],by simp,by simp,by simp,λt ht=>?_,λq _ _=>by simp⟩ ?_
 . simp only [upd_apply];repeat rw [if_neg (by omega)]
 rintro S1 ⟨i,g1,hi,k11,t11,t48,t49,t50,hs,hh⟩;have d50:=nM_eq t50;have t9:=(hs 9 (by omega)).trans s9;by_cases hlt:i<n
 . have hltI:(i:Int)<(n:Int):=by omega
   have hix:i<xs.length:=by omega
   have hixI:(i:Int)<(xs.length:Int):=by omega
   have wi:=i64_succ i (by omega);obtain ⟨vs,hvs,pv⟩:=hL.row i hix;have lv:=pv.len;rw [hwid i hlt] at lv;have rv':r<vs.length:=by omega
   have rI:(r:Int)<(vs.length:Int):=by omega
   have rI':(r:Int)<(W:Int):=by omega
   obtain ⟨b1,l1,e1,hz1,hzi1⟩:=pv.cell r rv';have hsn:=inV_snoc (xs:=xs) (r:=r) (i:=i) (a:=.b b1) (b:=.sl none (uL l1)) (by rw [vsOf_eq hix hvs,List.getElem?_eq_getElem rv',e1]);have htk:(inV xs r i).take i=inV xs r i:=List.take_of_length_le (by simp);have b1':(i+1)*56<=140737488355328:=by
    have:=Nat.mul_le_mul_right 56 (show i+1<=65 by omega);omega
   have b2':i<=140737488355327:=by omega
   refine Wr ?_; simp [t9,t11,t48,t49,t50,k11,hltI,hix,hixI,hvs,rv',rI,rI',hr,lv,e1,htk,b1',b2',wi];refine WS_seq ?_;refine WS_cT (by simp [t9,t11,t48,t49,t50,k11,hltI,hix,hixI,hvs,rv',rI,rI',hr,lv,e1,htk,b1',b2',wi]) ?_;refine WS_skip ?_; simp [t9,t11,t48,t49,t50,k11,hltI,hix,hixI,hvs,rv',rI,rI',hr,lv,e1,htk,b1',b2',wi];refine WS_seq (WS_block (Wr ?_)); simp [t9,t11,t48,t49,t50,k11,hltI,hix,hixI,hvs,rv',rI,rI',hr,lv,e1,htk,b1',b2',wi];refine WS_reg [] ?_; simp [t9,t11,t48,t49,t50,k11,hltI,hix,hixI,hvs,rv',rI,rI',hr,lv,e1,htk,b1',b2',wi];refine WS_reg [] ?_; simp [t9,t11,t48,t49,t50,k11,hltI,hix,hixI,hvs,rv',rI,rI',hr,lv,e1,htk,b1',b2',wi];refine ⟨⟨i+1,g1+1,by omega,by simp [hsn],by simp,by simp [t48],by simp [t49],by simp,λt ht=>?_,λq h1 h2=>?_⟩,?_⟩
   . simp only [upd_apply];repeat rw [if_neg (by omega)]
     exact hs t ht
   . simp [h1,hh q h1 h2]
   . rw [d50,nM_eq (i:=50) (n:=i+1) (by simp)]; omega
 . obtain rfl:i=n:=by omega
   have hltI:¬ (i:Int)<(i:Int):=by omega
   refine Wr ?_; simp [t49,t50,hltI];refine WS_seq ?_;refine WS_cF (by simp [t49,t50,hltI]) ?_;refine WS_exit ?_; simp [t49,t50,hltI];refine hQ _ g1 (by simp [k11]) (by simp [t11]) (λt ht=>?_) λq h1 h2=>by simpa using hh q h1 h2
   simp only [upd_apply];repeat rw [if_neg (by omega)]
   exact hs t ht
def inR (xs vs:List V) (n r:Nat):List V:=inV xs r n++[match vs[r]? with | some (.agg [a,b])=>.agg [a,b,.sl none [.i .u64 1]] | _=>default]
theorem inR_length (xs vs:List V) (n r:Nat):(inR xs vs n r).length=n+1:=by simp [inR,inV]
theorem inR_isR {k n W r:Nat} {xs vs:List V} {L:List (List Int)} {v:List Int} (hL:IsL k xs L) (hv:IsP k vs v) (hx:xs.length=n) (hwid:∀ a,a<n->(L.getD a []).length=W) (hW:vs.length=W) (hr:r<W) (hk:1<=k):IsR k (inR xs vs n r) (n+1) (inM L v n r):=by
 refine ⟨inR_length _ _ _ _,λt ht=>?_⟩;by_cases h:t<n
 . obtain ⟨us,hus,pu⟩:=hL.row t (by omega);have lu:=pu.len;rw [hwid t h] at lu;have ru:r<us.length:=by omega
   obtain ⟨b1,l1,e1,hz1,hzi1⟩:=pu.cell r ru;have e:(inR xs vs n r)[t]'(by rw [inR_length]; exact ht)= .agg [.b b1,.sl none (uL l1),.sl none [.i .u64 1]]:=by
    have h2:t<(inV xs r n).length:=by rw [inV_length]; exact h
    simp only [inR,List.getElem_append_left h2];simp only [inV,List.getElem_map,List.getElem_range,vsOf_eq (show t<xs.length by omega) hus,List.getElem?_eq_getElem ru,e1]
   rw [e,inM,if_pos h];exact isQ_int hz1 hzi1 hk
 . obtain rfl:t=n:=by omega
   have rv':r<vs.length:=by omega
   obtain ⟨b1,l1,e1,hz1,hzi1⟩:=hv.cell r rv';have e:(inR xs vs t r)[t]'(by rw [inR_length]; exact ht)= .agg [.b b1,.sl none (uL l1),.sl none [.i .u64 1]]:=by
    have h2:(inV xs r t).length<=t:=by rw [inV_length]; exact Nat.le_refl _
    simp only [inR,List.getElem_append_right h2,inV_length,Nat.sub_self,List.getElem_singleton,List.getElem?_eq_getElem rv',e1]
   rw [e,inM,if_neg h];exact isQ_int hz1 hzi1 hk
theorem rowsQ_snoc {i m G:Nat} {γ:Nat->Nat}:rowsQ i m γ++[.own (i+301+1000) G 0 m]=rowsQ (i+1) m (upd γ i G):=by
 rw [rowsQ,rowsQ,List.range_succ,List.map_append];congr 1
 . refine List.map_congr_left λk hk=>?_;have:k≠i:=by have:=List.mem_range.1 hk; omega
   rw [upd_ne _ _ this]
 . simp
theorem rowsQ_ren {n m r g r' g':Nat} {γ:Nat->Nat} (hr:r<1000):(rowsQ n m γ).map (ren0 r g r' g')=rowsQ n m γ:=by
 rw [rowsQ,List.map_map];refine List.map_congr_left λi _=>?_;have e3:¬ i+301+1000=r:=by omega
 simp only [Function.comp,ren0,e3,false_and,if_false]
def InO (xs vs:List V) (n W:Nat) (S:St):Prop:=
 ∃ r γ G,r<=W/\S.h 8=⟨G,some (.rows 109 (rowsQ r (n+1) γ))⟩/\S.σ 8= .own 8 G 0 r/\(∀ a,a<r->S.h (a+301+1000)=⟨γ a,some (.arr 114 (some 3) (inR xs vs n a))⟩)/\(∀ q,q=299\/q=300\/r+301<=q->(S.h (q+1000)).o=none)/\
  S.σ 0= .p (.sl none xs)/\S.σ 41= .p (.sl (some 2) vs)/\S.σ 42= .p (.i .i64 (W:Int))/\S.σ 43= .p (.i .i64 (r:Int))
set_option maxHeartbeats 4000000 in
theorem in_rows {Q':Exit->St->Prop} {S:St} {k n W G:Nat} {xs vs:List V} {L:List (List Int)} {v:List Int} (hL:IsL k xs L) (hv:IsP k vs v) (hx:xs.length=n) (hwid:∀ a,a<n->(L.getD a []).length=W) (hW:vs.length=W) (hn:n<=64) (hW40:W<=2^40)
 (s0:S.σ 0= .p (.sl none xs)) (s1:S.σ 1= .p (.sl (some 2) vs)) (s8:S.σ 8= .own 8 G 0 0) (h8:S.h 8=⟨G,some (.rows 109 [])⟩) (hfr:∀ q,299<=q->(S.h (q+1000)).o=none)
 (hQ:∀ S':St,InO xs vs n W S'->S'.σ 43= .p (.i .i64 (W:Int))->Q' .normal S'):
 WS Tryz.prog 123 sc_lattice_In.snd.snd.snd.fst Q' S:=by
 unfold sc_lattice_In;simp only [SC.snd,SC.fst];refine Wr ?_; simp [s1,hW];refine WS_block ?_;refine WS_loop (InO xs vs n W) (λS=>W-nM 43 S) ⟨0,λ_=>0,G,by omega,by simp [h8,rowsQ],by simp [s8],λa ha=>by omega,λq hq=>by simpa using hfr q (by omega),by simp [s0],by simp,by simp,by simp⟩ ?_;clear s0 s1 s8 h8 hfr S;rintro S ⟨r,γ,G1,hr,k8,t8,hrow,hfr,t0,t41,t42,t43⟩;have d43:=nM_eq t43;by_cases hlt:r<W
 . have hltI:(r:Int)<(W:Int):=by omega
   have wr:=i64_succ r (by omega);have rv':r<vs.length:=by omega
   have rI:(r:Int)<(vs.length:Int):=by omega
   obtain ⟨b1,l1,e1,hz1,hzi1⟩:=hv.cell r rv';refine Wr ?_; simp [t0,t8,t41,t42,t43,hltI,hlt,rv',rI,hW,e1];refine WS_seq ?_;refine WS_cT (by simp [t0,t8,t41,t42,t43,hltI,hlt,rv',rI,hW,e1]) ?_;refine WS_skip ?_; simp [t0,t8,t41,t42,t43,hltI,hlt,rv',rI,hW,e1];refine WS_seq (WS_block (Wr ?_)); simp [t0,t8,t41,t42,t43,hltI,hlt,rv',rI,hW,e1];refine WS_seq (WS_reg [11] ?_); simp [t0,t8,t41,t42,t43,hltI,hlt,rv',rI,hW,e1];refine WS_abs (λS'=>S'.σ 0= .p (.sl none xs)/\S'.σ 8= .own 8 G1 0 r/\S'.σ 9= .p (.i .i64 (r:Int))/\S'.σ 10= .ptr 10 ((S.h 10).g+1) 0/\S'.σ 11= .own 11 ((S.h 11).g+1) 0 0/\S'.σ 41= .p (.sl (some 2) vs)/\S'.σ 42= .p (.i .i64 (W:Int))/\S'.σ 43= .p (.i .i64 (r:Int))/\
    S'.h 10=⟨(S.h 10).g+1,some (.box 28 [.b b1,.sl none (uL l1)])⟩/\S'.h 11=⟨(S.h 11).g+1,some (.arr 114 (some 3) [])⟩/\S'.h 8=S.h 8/\∀ q,S'.h (q+1000)=S.h (q+1000)) ?_ ?_
   . simp [t0,t8,t41,t42,t43]
   obtain ⟨g10,hg10⟩:∃ g,g=(S.h 10).g+1:=⟨_,rfl⟩;obtain ⟨g11,hg11⟩:∃ g,g=(S.h 11).g+1:=⟨_,rfl⟩;rw [<- hg10,<-hg11];rintro S1 ⟨u0,u8,u9,u10,u11,u41,u42,u43,j10,j11,j8,jq⟩;refine WS_seq ?_;refine in_row hL hx hwid hlt hn hW40 u0 u9 u11 j11 ?_;intro S2 g2 k11 x11 hs2 hh2;have x0:=(hs2 0 (by omega)).trans u0;have x8:=(hs2 8 (by omega)).trans u8;have x10:=(hs2 10 (by omega)).trans u10;have x41:=(hs2 41 (by omega)).trans u41;have x42:=(hs2 42 (by omega)).trans u42;have x43:=(hs2 43 (by omega)).trans u43;have y10:=(hh2 10 (by omega) (by omega)).trans j10;have y8:S2.h 8=_:=(hh2 8 (by omega) (by omega)).trans (j8.trans k8);have yq:∀ q,S2.h (q+1000)=S.h (q+1000):=λq=>(hh2 _ (by omega) (by omega)).trans (jq q);show WS Tryz.prog 123 _ _ S2;refine WS_move 11 (r+301+1000) (by rw [k11]) (by rw [yq]; exact hfr _ (by omega)) (by decide) (by omega) (by simp [HObj.refs]) ?_;refine WS_abs (λS'=>S'.σ 0= .p (.sl none xs)/\S'.σ 8= .own 8 G1 0 r/\S'.σ 10= .ptr 10 g10 0/\S'.σ 11= .own (r+301+1000) ((S.h (r+301+1000)).g+1) 0 n/\S'.σ 41= .p (.sl (some 2) vs)/\S'.σ 42= .p (.i .i64 (W:Int))/\S'.σ 43= .p (.i .i64 (r:Int))/\
    S'.h 10=⟨g10,some (.box 28 [.b b1,.sl none (uL l1)])⟩/\S'.h (r+301+1000)=⟨(S.h (r+301+1000)).g+1,some (.arr 114 (some 3) (inV xs r n))⟩/\S'.h 8=⟨G1,some (.rows 109 (rowsQ r (n+1) γ))⟩/\∀ q,q≠r+301->S'.h (q+1000)=S.h (q+1000)) ?_ ?_
   . have n8:¬ 8=r+301+1000:=by omega
     have n10:¬ 10=r+301+1000:=by omega
     refine ⟨by simp [St.move,x0,ren2,ren1,ren0],by simp [St.move,x8,ren2,ren1,ren0],by simp [St.move,x10,ren2,ren1,ren0],by simp [St.move,x11,ren2,ren1,ren0,k11,yq],by simp [St.move,x41,ren2,ren1,ren0],by simp [St.move,x42,ren2,ren1,ren0],by simp [St.move,x43,ren2,ren1,ren0],
      by simp [St.move,y10,HObj.ren,n10],by simp [St.move,k11,yq],by simp [St.move,y8,HObj.ren,n8,rowsQ_ren],λq hq=>?_⟩
     have h1:¬ q+1000=11:=by omega
     have h2:¬ q+1000<1000:=by omega
     simp [St.move,hq,h1,h2,yq]
   obtain ⟨gr,hgr⟩:∃ g,g=(S.h (r+301+1000)).g+1:=⟨_,rfl⟩;rw [<- hgr];clear x0 x8 x10 x11 x41 x42 x43 y10 y8 yq k11 hs2 hh2 u0 u8 u9 u10 u11 u41 u42 u43 j10 j11 j8 jq S1 S2;rintro S3 ⟨u0,u8,u10,u11,u41,u42,u43,j10,jr,j8,jq⟩;have htk:(inV xs r n).take n=inV xs r n:=List.take_of_length_le (by simp);have htk2:(rowsQ r (n+1) γ).take r=rowsQ r (n+1) γ:=List.take_of_length_le (by simp);have b1':(n+1)*56<=140737488355328:=by
    have:=Nat.mul_le_mul_right 56 (show n+1<=65 by omega);omega
   have b2':n<=140737488355327:=by omega
   have b3':(r+1)*24<=140737488355328:=by
    have:=Nat.mul_le_mul_right 24 (show r+1<=2^41 by omega);omega
   have b4':r<=140737488355327:=by omega
   have hR:inV xs r n++[.agg [.b b1,.sl none (uL l1),.sl none [.i .u64 1]]]=inR xs vs n r:=by
    simp only [inR,List.getElem?_eq_getElem rv',e1]
   have hsn:=rowsQ_snoc (i:=r) (m:=n+1) (G:=gr+1) (γ:=γ);refine WS_reg [] ?_; simp [u8,u10,u11,j10,jr,j8,htk,htk2,b1',b2',b3',b4',hR,hsn];refine WS_reg [] ?_; simp [u43,wr];refine ⟨⟨r+1,upd γ r (gr+1),G1+1,by omega,by simp,by simp,λa ha=>?_,λq hq=>?_,by simp [u0],by simp [u41],by simp [u42],by simp⟩,?_⟩
   . have n1:¬ a+301+1000=8:=by omega
     have n2:¬ a+301+1000=71:=by omega
     by_cases e:a=r
     . subst e;simp only [upd_apply,n1,n2,if_false,if_true]
     . have n3:¬ a+301+1000=r+301+1000:=by omega
       rw [upd_ne _ _ e];simp only [upd_apply,n1,n2,n3,if_false];rw [jq _ (by omega)]; exact hrow a (by omega)
   . have n1:¬ q+1000=8:=by omega
     have n2:¬ q+1000=71:=by omega
     have n3:¬ q+1000=r+301+1000:=by omega
     simp only [upd_apply,n1,n2,n3,if_false];rw [jq _ (by omega)]; exact hfr q (by omega)
   . rw [d43,nM_eq (i:=43) (n:=r+1) (by simp)]; omega
 . obtain rfl:r=W:=by omega
   have hltI:¬ (r:Int)<(r:Int):=by omega
   refine Wr ?_; simp [t42,t43,hltI];refine WS_seq ?_;refine WS_cF (by simp [t42,t43,hltI]) ?_;refine WS_exit ?_; simp [t42,t43,hltI];exact hQ _ ⟨r,γ,G1,Nat.le_refl _,by simp [k8],by simp [t8],λa ha=>by simpa using hrow a ha,λq hq=>by simpa using hfr q hq,by simp [t0],by simp [t41],by simp [t42],by simp [t43]⟩ (by simp [t43])
set_option maxHeartbeats 4000000 in
theorem lin_no {k kv:Nat} {xs vs:List V} {L:List (List Int)} {v:List Int} (hL:IsL k xs L) (hv:IsP kv vs v) (hk:k<=2^12) (hn:xs.length<=2^40) (hw:∀ i,i<xs.length->(L.getD i []).length<=2^40) (hvl:vs.length<=2^40)
 (hr:¬ (okL L/\∀ t,t<L.length->brM (gW L (L.getD 0 []).length) t t t≠0)\/(0<xs.length/\(L.getD 0 []).length≠vs.length)):
 Spec Tryz.prog f_lattice_In [.sl none xs,.sl (some 2) vs] (· =[.pure (.sl (some 2) []),.pure (.i .i64 1)]):=by
 by_cases hb:okL L/\∀ t,t<L.length->brM (gW L (L.getD 0 []).length) t t t≠0
 . have st:=λ(h:Nat->HC) (hf:∀ q,q<xs.length+20->(h (q+1000)).o=none)=>lstripped hL hk hn hw hf true (by simpa using hb);obtain ⟨h0,hne⟩:0<xs.length/\(L.getD 0 []).length≠vs.length:=by
    rcases hr with h | h
    . exact absurd hb h
    . exact h
   obtain ⟨us,hus,pu⟩:=hL.row 0 h0;have lu:=pu.len;obtain ⟨w0,hw0⟩:∃ w,w=(L.getD 0 []).length:=⟨_,rfl⟩;rw [<- hw0] at lu hne st;have h0I:(0:Int)<(xs.length:Int):=by omega
   have hneI:¬ ((w0:Int)=(vs.length:Int)):=by omega
   refine spec_at Tryz.func52 ok_lattice_In [] rfl (by simp) ?_;unfold sc_lattice_In;refine Wr ?_; simp [h0,h0I,hus,lu,hneI,hne];refine Ws ?_; simp [h0,h0I,hus,lu,hneI,hne];refine callX ?_;refine mcall _ (st _ λq _=>by simp) (by simp) ?_;rintro H g svs hhn hhf ⟨Gd,Gm,j,rfl,_⟩;simp [h0,h0I,hus,lu,hneI,hne];refine Wr ?_; simp [h0,h0I,hus,lu,hneI,hne];refine WS_cT (by simp [h0,h0I,hus,lu,hneI,hne]) ?_;refine Wr ?_; simp [h0,h0I,hus,lu,hneI,hne];refine WS_ret ?_; simp [h0,h0I,hus,lu,hneI,hne]
 . have st:=λ(h:Nat->HC) (hf:∀ q,q<xs.length+20->(h (q+1000)).o=none)=>lstripped hL hk hn hw hf false (by simpa using hb);refine spec_at Tryz.func52 ok_lattice_In [] rfl (by simp) ?_;unfold sc_lattice_In;refine Wr ?_; simp;refine Ws ?_; simp;refine callX ?_;refine mcall _ (st _ λq _=>by simp) (by simp) ?_;rintro H g svs hhn hhf ⟨Gd,Gm,j,rfl,_⟩;simp;refine Wr ?_; simp;refine WS_cT (by simp) ?_;refine Wr ?_; simp;refine WS_ret ?_; simp
def InW (xs:List V) (n W G K:Nat) (γ κ:Nat->Nat) (R:Nat->List V) (M:Nat->Nat->Rat) (S:St):Prop:=
 ∃ i g,i<=n/\S.h 14=⟨g,some (.arr 28 (some 2) (rowZ i λr=>(M r n).num))⟩/\S.σ 14= .own 14 g 0 i/\MatQ S.h G W n γ R κ M/\(∀ r,r<i->(M r n).den=1)/\S.σ 0= .p (.sl none xs)/\S.σ 8= .own 1300 G 0 W/\S.σ 79= .p (.i .i64 (n:Int))/\S.σ 80= .p (.i .i64 (i:Int))
def InZ (xs:List V) (n W G:Nat) (γ κ:Nat->Nat) (R:Nat->List V) (M:Nat->Nat->Rat) (S:St):Prop:=
 ∃ j g,n+j<=W/\S.h 14=⟨g,some (.arr 28 (some 2) (rowZ n λr=>(M r n).num))⟩/\S.σ 14= .own 14 g 0 n/\MatQ S.h G W n γ R κ M/\(∀ r,n<=r->r<n+j->M r n=0)/\S.σ 0= .p (.sl none xs)/\S.σ 108= .own 1300 G n (W-n)/\S.σ 109= .p (.i .i64 ((W-n:Nat):Int))/\S.σ 110= .p (.i .i64 (j:Int))
set_option maxHeartbeats 4000000 in
theorem in_end {S:St} {n W G K:Nat} {xs:List V} {γ:Nat->Nat} {R:Nat->List V} {M:Nat->Nat->Rat} {res:List RV} (HM:MatQ S.h G W n γ R (λ_=>K) M) (hK:K<=2^24) (hnW:n<=W) (hx:xs.length=n) (hn:n<=64) (hW:W<=2^40) (s0:S.σ 0= .p (.sl none xs)) (s8:S.σ 8= .own 1300 G 0 W)
 (h1:InOk M W n->res=[.pure (.sl (some 2) (rowZ n λr=>(M r n).num)),.pure (.i .i64 0)]) (h2:¬ InOk M W n->res=[.pure (.sl (some 2) []),.pure (.i .i64 5)]):
 WS Tryz.prog 123 sc_lattice_In.snd.snd.snd.snd.snd (retQ [.tmp 4,.tmp 5] [] (· =res)) S:=by
 unfold sc_lattice_In;simp only [SC.snd];refine WS_seq (WS_reg [14] ?_); simp [s0,hx];refine Ws ?_; simp [s0,hx];refine WS_block ?_;refine WS_loop (InW xs n W G K γ (λ_=>K) R M) (λS=>n-nM 80 S) ⟨0,(S.h 14).g+1,by omega,by simp [rowZ],by simp,HM.of λq _ _=>by simp,λr hr=>by omega,by simp [s0],by simp [s8],by simp,by simp⟩ ?_;clear HM s0 s8 S;rintro S ⟨i,g,hi,k14,t14,HM,hden,t0,t8,t79,t80⟩;have d80:=nM_eq t80;have kt:=HM.top;by_cases hlt:i<n
 . have hltI:(i:Int)<(n:Int):=by omega
   have iW:i<W:=by omega
   have iWI:(i:Int)<(W:Int):=by omega
   have wi:=i64_succ i (by omega);have kr:=HM.row i iW;have ri:=HM.rel i iW;have nn:n<n+1:=by omega
   have nnI:(n:Int)<(n:Int)+1:=by omega
   have lR:=ri.len;have nl:n<(R i).length:=by omega
   have wh:=qwhole (ri.get n nn) (show K<=2^33 by omega);obtain ⟨n1,l1,d1,e1⟩:=(ri.get n nn).form;rw [e1] at wh;by_cases hd:(M i n).den=1
   . rw [wholeR,if_pos hd] at wh;have hsn:=rowZ_snoc (k:=i) (f:=λr=>(M r n).num);obtain ⟨y,hy⟩:∃ y,y=(M i n).num:=⟨_,rfl⟩;rw [<- hy] at wh;simp only [<- hy,Z_eq] at hsn;have htk:(rowZ i λr=>(M r n).num).take i=rowZ i λr=>(M r n).num:=List.take_of_length_le (by simp);obtain ⟨b1,b2,b3,b4⟩:=app_bnds (i:=i) (by omega);have b5:(i+1)*32<=140737488355328:=app_bnd _ _ _ (by omega) (by omega) (by omega);refine Wr ?_; simp [t0,t8,t14,t79,t80,k14,kt,kr,hltI,hlt,iW,iWI,nn,nnI,lR,nl,e1,hx,htk,hsn,b2,b5,wi];refine WS_seq ?_;refine WS_cT (by simp [t0,t8,t14,t79,t80,k14,kt,kr,hltI,hlt,iW,iWI,nn,nnI,lR,nl,e1,hx,htk,hsn,b2,b5,wi]) ?_;refine WS_skip ?_; simp [t0,t8,t14,t79,t80,k14,kt,kr,hltI,hlt,iW,iWI,nn,nnI,lR,nl,e1,hx,htk,hsn,b2,b5,wi];refine WS_seq (WS_block (Wr ?_)); simp [t0,t8,t14,t79,t80,k14,kt,kr,hltI,hlt,iW,iWI,nn,nnI,lR,nl,e1,hx,htk,hsn,b2,b5,wi];refine Wr ?_; simp [t0,t8,t14,t79,t80,k14,kt,kr,hltI,hlt,iW,iWI,nn,nnI,lR,nl,e1,hx,htk,hsn,b2,b5,wi];refine callP wh rfl ?_;simp [t0,t8,t14,t79,t80,k14,kt,kr,hltI,hlt,iW,iWI,nn,nnI,lR,nl,e1,hx,htk,hsn,b2,b5,wi];refine Ws ?_; simp [t0,t8,t14,t79,t80,k14,kt,kr,hltI,hlt,iW,iWI,nn,nnI,lR,nl,e1,hx,htk,hsn,b2,b5,wi];refine WS_cF (by simp [t0,t8,t14,t79,t80,k14,kt,kr,hltI,hlt,iW,iWI,nn,nnI,lR,nl,e1,hx,htk,hsn,b2,b5,wi]) ?_;refine WS_skip ?_; simp [t0,t8,t14,t79,t80,k14,kt,kr,hltI,hlt,iW,iWI,nn,nnI,lR,nl,e1,hx,htk,hsn,b2,b5,wi];refine WS_reg [] ?_; simp [t0,t8,t14,t79,t80,k14,kt,kr,hltI,hlt,iW,iWI,nn,nnI,lR,nl,e1,hx,htk,hsn,b2,b5,wi];refine WS_reg [] ?_; simp [t0,t8,t14,t79,t80,k14,kt,kr,hltI,hlt,iW,iWI,nn,nnI,lR,nl,e1,hx,htk,hsn,b2,b5,wi];refine ⟨⟨i+1,g+1,by omega,by simp,by simp,HM.of λq _ _=>by simp,λr hr=>?_,by simp [t0],by simp [t8],by simp [t79],by simp⟩,?_⟩
     . by_cases e:r=i
       . subst e; exact hd
       . exact hden r (by omega)
     . rw [d80,nM_eq (i:=80) (n:=i+1) (by simp)]; omega
   . rw [wholeR,if_neg hd] at wh;have hr2:=h2 λh=>hd (h.1 i hlt);refine Wr ?_; simp [t0,t8,t14,t79,t80,k14,kt,kr,hltI,hlt,iW,iWI,nn,nnI,lR,nl,e1,hx,hr2];refine WS_seq ?_;refine WS_cT (by simp [t0,t8,t14,t79,t80,k14,kt,kr,hltI,hlt,iW,iWI,nn,nnI,lR,nl,e1,hx,hr2]) ?_;refine WS_skip ?_; simp [t0,t8,t14,t79,t80,k14,kt,kr,hltI,hlt,iW,iWI,nn,nnI,lR,nl,e1,hx,hr2];refine WS_seq (WS_block (Wr ?_)); simp [t0,t8,t14,t79,t80,k14,kt,kr,hltI,hlt,iW,iWI,nn,nnI,lR,nl,e1,hx,hr2];refine Wr ?_; simp [t0,t8,t14,t79,t80,k14,kt,kr,hltI,hlt,iW,iWI,nn,nnI,lR,nl,e1,hx,hr2];refine callP wh rfl ?_;simp [t0,t8,t14,t79,t80,k14,kt,kr,hltI,hlt,iW,iWI,nn,nnI,lR,nl,e1,hx,hr2];refine Ws ?_; simp [t0,t8,t14,t79,t80,k14,kt,kr,hltI,hlt,iW,iWI,nn,nnI,lR,nl,e1,hx,hr2];refine WS_cT (by simp [t0,t8,t14,t79,t80,k14,kt,kr,hltI,hlt,iW,iWI,nn,nnI,lR,nl,e1,hx,hr2]) ?_;refine Wr ?_; simp [t0,t8,t14,t79,t80,k14,kt,kr,hltI,hlt,iW,iWI,nn,nnI,lR,nl,e1,hx,hr2];refine WS_ret ?_; simp [t0,t8,t14,t79,t80,k14,kt,kr,hltI,hlt,iW,iWI,nn,nnI,lR,nl,e1,hx,hr2]
 . obtain rfl:i=n:=by omega
   have hltI:¬ (i:Int)<(i:Int):=by omega
   have mn:¬ ((W:Int)<(i:Int)):=by omega
   have m0:(i:Int)<=(W:Int):=by omega
   refine Wr ?_; simp [t0,t8,t79,t80,hltI,kt,hx,mn,m0];refine WS_seq ?_;refine WS_cF (by simp [t0,t8,t79,t80,hltI,kt,hx,mn,m0]) ?_;refine WS_exit ?_; simp [t0,t8,t79,t80,hltI,kt,hx,mn,m0];refine Ws ?_; simp [t0,t8,t79,t80,hltI,kt,hx,mn,m0];refine WS_block ?_;refine WS_loop (InZ xs i W G γ (λ_=>K) R M) (λS=>W-i-nM 110 S) ⟨0,g,by omega,by simp [k14],by simp [t14],HM.of λq _ _=>by simp,λr h1 h2=>by omega,by simp [t0],by simp,by simp,by simp⟩ ?_;clear HM k14 t14 t0 t8 t79 t80 d80 kt S;rintro S ⟨j,g2,hj,k14,t14,HM,hz,t0,t108,t109,t110⟩;have d110:=nM_eq t110;have kt:=HM.top;by_cases hjw:i+j<W
   . have jI:(j:Int)<((W-i:Nat):Int):=by omega
     have jN:j<W-i:=by omega
     have wj:=i64_succ j (by omega);have kr:=HM.row (i+j) hjw;have ri:=HM.rel (i+j) hjw;have nn:i<i+1:=by omega
     have nnI:(i:Int)<(i:Int)+1:=by omega
     have lR:=ri.len;have nl:i<(R (i+j)).length:=by omega
     have sg:=qsign (ri.get i nn) (show K<=2^33 by omega);obtain ⟨n1,l1,d1,e1⟩:=(ri.get i nn).form;rw [e1] at sg;by_cases h0:M (i+j) i=0
     . have hs0:(M (i+j) i).num.sign=0:=num_sign.2 h0;rw [hs0] at sg;refine Wr ?_; simp [t0,t108,t109,t110,kt,kr,jI,jN,hjw,nn,nnI,lR,nl,e1,hx,wj];refine WS_seq ?_;refine WS_cT (by simp [t0,t108,t109,t110,kt,kr,jI,jN,hjw,nn,nnI,lR,nl,e1,hx,wj]) ?_;refine WS_skip ?_; simp [t0,t108,t109,t110,kt,kr,jI,jN,hjw,nn,nnI,lR,nl,e1,hx,wj];refine WS_seq (WS_block (Wr ?_)); simp [t0,t108,t109,t110,kt,kr,jI,jN,hjw,nn,nnI,lR,nl,e1,hx,wj];refine Wr ?_; simp [t0,t108,t109,t110,kt,kr,jI,jN,hjw,nn,nnI,lR,nl,e1,hx,wj];refine callP sg rfl ?_;simp [t0,t108,t109,t110,kt,kr,jI,jN,hjw,nn,nnI,lR,nl,e1,hx,wj];refine WS_cF (by simp [t0,t108,t109,t110,kt,kr,jI,jN,hjw,nn,nnI,lR,nl,e1,hx,wj]) ?_;refine WS_skip ?_; simp [t0,t108,t109,t110,kt,kr,jI,jN,hjw,nn,nnI,lR,nl,e1,hx,wj];refine WS_reg [] ?_; simp [t0,t108,t109,t110,kt,kr,jI,jN,hjw,nn,nnI,lR,nl,e1,hx,wj];refine ⟨⟨j+1,g2,by omega,by simp [k14],by simp [t14],HM.of λq _ _=>by simp,λr h3 h4=>?_,by simp [t0],by simp [t108],by simp [t109],by simp⟩,?_⟩
       . by_cases e:r=i+j
         . subst e; exact h0
         . exact hz r h3 (by omega)
       . rw [d110,nM_eq (i:=110) (n:=j+1) (by simp)]; omega
     . have hs0:¬ (M (i+j) i).num.sign=0:=λh=>h0 (num_sign.1 h);have hr2:=h2 λh=>h0 (h.2 (i+j) (by omega) hjw);refine Wr ?_; simp [t0,t108,t109,t110,kt,kr,jI,jN,hjw,nn,nnI,lR,nl,e1,hx,hs0,hr2];refine WS_seq ?_;refine WS_cT (by simp [t0,t108,t109,t110,kt,kr,jI,jN,hjw,nn,nnI,lR,nl,e1,hx,hs0,hr2]) ?_;refine WS_skip ?_; simp [t0,t108,t109,t110,kt,kr,jI,jN,hjw,nn,nnI,lR,nl,e1,hx,hs0,hr2];refine WS_seq (WS_block (Wr ?_)); simp [t0,t108,t109,t110,kt,kr,jI,jN,hjw,nn,nnI,lR,nl,e1,hx,hs0,hr2];refine Wr ?_; simp [t0,t108,t109,t110,kt,kr,jI,jN,hjw,nn,nnI,lR,nl,e1,hx,hs0,hr2];refine callP sg rfl ?_;simp [t0,t108,t109,t110,kt,kr,jI,jN,hjw,nn,nnI,lR,nl,e1,hx,hs0,hr2];refine WS_cT (by simp [t0,t108,t109,t110,kt,kr,jI,jN,hjw,nn,nnI,lR,nl,e1,hx,hs0,hr2]) ?_;refine Wr ?_; simp [t0,t108,t109,t110,kt,kr,jI,jN,hjw,nn,nnI,lR,nl,e1,hx,hs0,hr2];refine WS_ret ?_; simp [t0,t108,t109,t110,kt,kr,jI,jN,hjw,nn,nnI,lR,nl,e1,hx,hs0,hr2]
   . have hje:i+j=W:=by omega
     have jI:¬ (j:Int)<((W-i:Nat):Int):=by omega
     have hr1:=h1 ⟨hden,λr h3 h4=>hz r h3 (by omega)⟩;have htk:(rowZ i λr=>(M r i).num).take i=rowZ i λr=>(M r i).num:=List.take_of_length_le (by simp);refine Wr ?_; simp [t109,t110,jI,t14];refine WS_seq ?_;refine WS_cF (by simp [t109,t110,jI,t14]) ?_;refine WS_exit ?_; simp [t109,t110,jI,t14];refine Wr ?_; simp [t109,t110,jI,t14];refine WS_frz 14 4 none ?_;simp [frzQ,k14,htk];refine WS_ret ?_; simp [hr1]
set_option maxHeartbeats 4000000 in
theorem lin_yes {k n W:Nat} {xs vs:List V} {L:List (List Int)} {v:List Int} {res:List RV} (hL:IsL k xs L) (hv:IsP k vs v) (hk:k<=2^12) (hk1:1<=k) (hx:xs.length=n) (hW:vs.length=W) (hW40:W<=2^40) (hok:okL L) (hwid:∀ a,a<n->(L.getD a []).length=W) (hnz:∀ t,t<n->brM (gW L W) t t t≠0) (hK:∀ c,c<=n->kk k c<=2^18)
 (h1:∀ x:Nat->Int,(∀ c,c<W->cf v c=smI x (bOf L) c n)->res=[.pure (.sl (some 2) (rowZ n x)),.pure (.i .i64 0)]) (h2:(¬ ∃ x:Nat->Int,∀ c,c<W->cf v c=smI x (bOf L) c n)->res=[.pure (.sl (some 2) []),.pure (.i .i64 5)]):
 Spec Tryz.prog f_lattice_In [.sl none xs,.sl (some 2) vs] (· =res):=by
 have hlen:=hL.len;have hn:n<=64:=by have:=hok.1; omega
 have hI:Ind (bOf L) n W:=by rw [gW_eq] at hnz; exact hnz
 have st:=λ(h:Nat->HC) (hf:∀ q,q<xs.length+20->(h (q+1000)).o=none)=>lstripped hL hk (by omega) (λi hi=>by rw [hwid i (by omega)]; omega) hf true (by
  simp only [true_iff];refine ⟨hok,λt ht=>?_⟩;have h0:(L.getD 0 []).length=W:=hwid 0 (by omega);rw [h0]; exact hnz t (by omega))
 have main:∀ S:St,S.σ 0= .p (.sl none xs)->S.σ 1= .p (.sl (some 2) vs)->(∀ q,299<=q->(S.h (q+1000)).o=none)->WS Tryz.prog 123 sc_lattice_In.snd.snd (retQ [.tmp 4,.tmp 5] [] (· =res)) S:=by
  intro S s0 s1 hfr;unfold sc_lattice_In;simp only [SC.snd];refine WS_seq (WS_reg [8] ?_); simp;refine WS_rows 8 (T:=109) (xs:=[]) (by simp) ?_;refine WS_abs (λS'=>S'.σ 0= .p (.sl none xs)/\S'.σ 1= .p (.sl (some 2) vs)/\S'.σ 8= .own 8 ((S.h 8).g+1) 0 0/\S'.h 8=⟨(S.h 8).g+1,some (.rows 109 [])⟩/\∀ q,299<=q->(S'.h (q+1000)).o=none) ?_ ?_
  . exact ⟨by simp [s0],by simp [s1],by simp,by simp,λq hq=>by simpa using hfr q hq⟩
  obtain ⟨g8,hg8⟩:∃ g,g=(S.h 8).g+1:=⟨_,rfl⟩;rw [<- hg8];clear s0 s1 hfr hg8 S;rintro S ⟨s0,s1,s8,k8,hfr⟩;refine WS_seq ?_;refine in_rows hL hv hx hwid hW hn hW40 s0 s1 s8 k8 hfr ?_;rintro S1 ⟨r,γ,G,hr,j8,t8,hrow,hfr1,t0,t41,t42,t43⟩ t43';obtain rfl:r=W:=by
   rw [t43] at t43';injection t43' with h; injection h with _ h
   omega
  clear s0 s1 s8 k8 hfr S;show WS Tryz.prog 123 _ _ S1;refine WS_move 8 1300 (by rw [j8]) (by rw [show (1300:Nat)=300+1000 from rfl]; exact hfr1 300 (by omega)) (by decide) (by decide) (λq hq=>by
   simp only [HObj.refs,List.mem_flatMap,rowsQ,List.mem_map] at hq;obtain ⟨x,⟨i,_,rfl⟩,hx⟩:=hq;simp only [svref,List.mem_singleton] at hx;omega) ?_
  obtain ⟨G0,hG0⟩:∃ G0,G0=(S1.h 1300).g+1:=⟨_,rfl⟩;refine WS_abs (λS'=>S'.σ 0= .p (.sl none xs)/\S'.σ 8= .own 1300 G0 0 r/\MatQ S'.h G0 r n γ (inR xs vs n) (λ_=>k) (inM L v n)) ?_ ?_
  . refine ⟨by simp [St.move,t0,ren2,ren1,ren0],by simp [St.move,t8,ren2,ren1,ren0,j8,hG0],?_,λa ha=>?_,λa ha=>inR_isR hL hv hx hwid hW ha hk1,?_⟩
    . simp [St.move,j8,hG0]
    . have h1:¬ a+301+1000=1300:=by omega
      have h2:¬ a+301+1000=8:=by omega
      have h3:¬ a+301+1000<1000:=by omega
      simp only [St.move,h1,h2,h3,if_false];exact hrow a ha
    . simp only [St.move];exact hfr1 299 (by omega)
  rintro S2 ⟨u0,u8,HM⟩;have htop:=HM.top;have hker:=λy (h0:y n=0) h=>in_ker (L:=L) (v:=v) hI y h0 h;have sv:=λ(h:Nat->HC) (Hm:MatQ h G0 r n γ (inR xs vs n) (λ_=>k) (inM L v n))=>lsolved Hm hn hW40 (λc hc=>hK c (by omega)) hker;refine Wr ?_; simp [u0,u8,hx,htop];refine mcall _ (sv _ (HM.of λq _ _=>by simp)) (by simp [fpQ]) ?_;rintro H g svs hhn hhf ⟨rfl,γ',R',M,HM',HU,HL⟩;simp [u0,u8,hx,htop];have hnW:=in_le HU λy h0 h=>hker y h0 ((HL y).1 h);refine in_end (K:=kk k n) (HM'.of λq h1 h2=>?_) (by have:=hK n (Nat.le_refl n); omega) hnW hx hn hW40 (by simp [u0]) (by simp [u8]) (λho=>?_) λhno=>?_
  . exact hhf _ (fpQ_mem h1 h2)
  . exact h1 _ (in_made HU HL ho)
  . exact h2 λ⟨x,hx⟩=>hno (in_found hnW HU HL hx).1
 refine spec_at Tryz.func52 ok_lattice_In [] rfl (by simp) ?_;unfold sc_lattice_In;by_cases h0:0<n
 . have h0x:0<xs.length:=by omega
   have h0I:(0:Int)<(xs.length:Int):=by omega
   obtain ⟨us,hus,pu⟩:=hL.row 0 h0x;have lu:=pu.len;rw [hwid 0 h0] at lu;have h0n:(0:Int)<(n:Int):=by omega
   refine Wr ?_; simp [h0x,h0I,h0n,h0,hx,hus,lu,hW];refine Ws ?_; simp [h0x,h0I,h0n,h0,hx,hus,lu,hW];refine callX ?_;refine mcall _ (st _ λq _=>by simp) (by simp) ?_;rintro H g svs hhn hhf ⟨Gd,Gm,j,rfl,_⟩;simp [h0x,h0I,h0n,h0,hx,hus,lu,hW];refine Wr ?_; simp [h0x,h0I,h0n,h0,hx,hus,lu,hW];refine WS_cF (by simp [h0x,h0I,h0n,h0,hx,hus,lu,hW]) ?_;refine WS_skip ?_; simp [h0x,h0I,h0n,h0,hx,hus,lu,hW];refine main _ (by simp) (by simp) λq hq=>?_;simp [hhn (q+1000) (fpS_out (by omega))]
 . obtain rfl:n=0:=by omega
   refine Wr ?_; simp [hx];refine Ws ?_; simp [hx];refine callX ?_;refine mcall _ (st _ λq _=>by simp) (by simp) ?_;rintro H g svs hhn hhf ⟨Gd,Gm,j,rfl,_⟩;simp [hx];refine Wr ?_; simp [hx];refine WS_cF (by simp [hx]) ?_;refine WS_skip ?_; simp [hx];refine main _ (by simp) (by simp) λq hq=>?_;simp [hhn (q+1000) (fpS_out (by omega))]
theorem isL_ex {k:Nat} {L:List (List Int)} (h:∀ l∈L,PL k l):IsL k (L.map λl=>.sl (some 2) (PZ l)) L:=by
 refine ⟨by simp,λi hi=>?_⟩;have hi':i<L.length:=by simpa using hi
 refine ⟨PZ L[i],by simp,?_⟩;rw [List.getD_eq_getElem?_getD,List.getElem?_eq_getElem hi'];exact isP_PZ (h _ (List.getElem_mem _))
theorem okL_two {a b c d:Int}:okL [[a,b],[c,d]]:=⟨by simp,λi hi=>by
 have hi:i<2:=hi
 match i,hi with
 | 0,_=>exact ⟨by simp,rfl⟩
 | 1,_=>exact ⟨by simp,rfl⟩⟩
theorem pl_two {a b c d:Int} (ha:a.natAbs<10) (hb:b.natAbs<10) (hc:c.natAbs<10) (hd:d.natAbs<10):∀ l∈[[a,b],[c,d]],PL 1 l:=by
 have key:∀ a b:Int,a.natAbs<10->b.natAbs<10->PL 1 [a,b]:=λa b ha hb i=>by
  match i with
  | 0=>exact zlen_small (by show a.natAbs<_; omega)
  | 1=>exact zlen_small (by show b.natAbs<_; omega)
  | i+2=>rw [cf_ge (by simp)]; rw [zlen_zero]; omega
 intro l hl;simp only [List.mem_cons,List.not_mem_nil,or_false] at hl;rcases hl with rfl | rfl
 . exact key _ _ ha hb
 . exact key _ _ hc hd
theorem awake_red:Spec Tryz.prog f_lattice_Reduce [.sl none [.sl (some 2) (PZ [1,0]),.sl (some 2) (PZ [4,1])]] (λrvs=>∃ us,us.length=2/\rvs=[.pure (.sl none us),.pure (.i .i64 0)]):=by
 have h:=lreduce_few (k:=1) (n:=2) (w:=2) (isL_ex (pl_two (a:=1) (b:=0) (c:=4) (d:=1) (by decide) (by decide) (by decide) (by decide))) (by omega) (by simp) (by omega) (by simp) (by omega) okL_two (λt ht=>by
  match t,ht with
  | 0,_=>decide +kernel
  | 1,_=>decide +kernel)
 refine h.mono ?_;rintro rvs ⟨b,_,rfl⟩;exact ⟨_,by simp,rfl⟩
theorem awake_in:Spec Tryz.prog f_lattice_In [.sl none [.sl (some 2) (PZ [1,0]),.sl (some 2) (PZ [4,1])],.sl (some 2) (PZ [3,-2])] (· =[.pure (.sl (some 2) (PZ [11,-2])),.pure (.i .i64 0)]):=by
 have hv:IsP 1 (PZ [3,-2]) [3,-2]:=isP_PZ (pl_two (a:=3) (b:= -2) (c:=0) (d:=0) (by decide) (by decide) (by decide) (by decide) _ (by simp));have key:∀ x:Nat->Int,(∀ c,c<2->cf [3,-2] c=smI x (bOf [[1,0],[4,1]]) c 2)↔x 0=11/\x 1= -2:=by
  intro x;have e0:smI x (bOf [[1,0],[4,1]]) 0 2=0+x 0*1+x 1*4:=rfl;have e1:smI x (bOf [[1,0],[4,1]]) 1 2=0+x 0*0+x 1*1:=rfl;refine ⟨λh=>?_,λh c hc=>?_⟩
  . have h0:=h 0 (by omega);have h1:=h 1 (by omega);rw [e0] at h0;rw [e1] at h1;have c0:cf [3,-2] 0=3:=rfl;have c1:cf [3,-2] 1= -2:=rfl;omega
  . match c,hc with
    | 0,_=>rw [e0,h.1,h.2]; rfl
    | 1,_=>rw [e1,h.1,h.2]; rfl
 refine lin_yes (k:=1) (n:=2) (W:=2) (isL_ex (pl_two (a:=1) (b:=0) (c:=4) (d:=1) (by decide) (by decide) (by decide) (by decide))) hv (by omega) (by omega) (by simp) (by rw [PZ_length]; rfl) (by omega) okL_two (λa ha=>?_) (λt ht=>?_) (λc hc=>?_) (λx hx=>?_) λhno=>?_
 . match a,ha with
   | 0,_=>rfl
   | 1,_=>rfl
 . match t,ht with
   | 0,_=>decide +kernel
   | 1,_=>decide +kernel
 . match c,hc with
   | 0,_=>decide
   | 1,_=>decide
   | 2,_=>decide
 . obtain ⟨h0,h1⟩:=(key x).1 hx;have e:rowZ 2 x=PZ [11,-2]:=by
    show [Z (x 0),Z (x 1)]=[Z 11,Z (-2)];rw [h0,h1]
   rw [e]
 . exact absurd ⟨λt=>if t=0 then 11 else -2,(key _).2 ⟨rfl,rfl⟩⟩ hno
theorem awake_gram:Spec Tryz.prog f_lattice_Gram [.sl none [.sl (some 2) (PZ [1,2]),.sl (some 2) (PZ [3,4])]] (· =[.pure (Z 4),.pure (.i .i64 0)]):=by
 have hz:∀ t,t<2->brM (gW [[1,2],[3,4]] 2) t t t≠0:=λt ht=>by
  match t,ht with
  | 0,_=>decide +kernel
  | 1,_=>decide +kernel
 obtain ⟨b1,b2⟩:=basis_iff (L:=[[1,2],[3,4]]) okL_two;have h:=lgramE (k:=1) (isL_ex (pl_two (a:=1) (b:=2) (c:=3) (d:=4) (by decide) (by decide) (by decide) (by decide))) (by omega) (by simp) (λi hi=>by
  have hi:i<2:=hi
  match i,hi with
  | 0,_=>simp
  | 1,_=>simp) true (by simp only [true_iff]; exact ⟨okL_two,b1.1 hz⟩)
 rw [if_pos rfl,<-b2 hz] at h;exact h
def smL (n w:Nat) (Ms:List (List (Bool × List Nat))):Bool:=decide (Ms.length<=n) && smB (n+2) w Ms
def SlmK (n w:Nat) (Ms:List (List (Bool × List Nat))) (i:Nat) (S:St):Prop:=S.σ 0= .p (.i .i64 (n:Int))/\S.σ 1= .p (.i .i64 (w:Int))/\S.σ 2= .p (.sl none (mL Ms))/\S.σ 7= .p (.i .i64 (i:Int))/\smB (n+2) w (Ms.take i)=true
def SlmS (n w:Nat) (Ms:List (List (Bool × List Nat))) (S:St):Prop:=∃ i:Nat,i<=Ms.length/\SlmK n w Ms i S
def SlmJ (n w:Nat) (Ms:List (List (Bool × List Nat))) (i:Nat) (M:List (Bool × List Nat)) (S:St):Prop:=∃ k:Nat,k<=M.length/\S.σ 8= .p (.i .i64 (k:Int))/\smR w (M.take k)=true/\SlmK n w Ms i S
structure MW (Ms:List (List (Bool × List Nat))):Prop where
 len:Ms.length<=2^24
 each:∀ M∈Ms,PW (2^24) M
def mpL (Ms:List (List (Bool × List Nat))):List (List Int):=Ms.map piL
theorem isL_mL {k:Nat} {Ms:List (List (Bool × List Nat))} (h:∀ M∈Ms,∀ p∈M,ZW k p.2):IsL k (mL Ms) (mpL Ms):=by
 refine ⟨by simp [mL,mpL],λi hi=>?_⟩;have hi':i<Ms.length:=by simpa [mL] using hi
 refine ⟨zL Ms[i],by simp [mL],?_⟩;rw [List.getD_eq_getElem?_getD,List.getElem?_eq_getElem (by simpa [mpL] using hi')];simp only [mpL,List.getElem_map,Option.getD_some];exact isP_zL (h _ (List.getElem_mem _))
theorem mats_eq (Ms:List (List (Bool × List Nat))):((Ms.map λM=>M.map λp=>(p.1,p.2.map λx:Nat=>(x:Int))).map λL=>V.sl (some 2) (L.map λp=>V.agg [.b p.1,.sl none (p.2.map λz=>V.i .u64 z)]))=mL Ms:=by
 rw [List.map_map];exact List.map_congr_left λM _=>by simp only [Function.comp,polys_eq]
theorem MW.wid {Ms:List (List (Bool × List Nat))} (h:MW Ms):∀ M∈Ms,M.length<=2^40:=λM hM=>by have:=(h.each M hM).len; omega
theorem smL_of {n w:Nat} {Ms:List (List (Bool × List Nat))} (hm:MW Ms) (h:smL n w Ms=true):Ms.length<=n/\IsL w (mL Ms) (mpL Ms)/\∀ i,((mpL Ms).getD i []).length<=n+2:=by
 unfold smL at h;rw [Bool.and_eq_true] at h;have h1:=of_decide_eq_true h.1;have h2:∀ M∈Ms,M.length<=n+2/\smR w M=true:=λM hM=>by
  have:=List.all_eq_true.1 h.2 M hM;rw [Bool.and_eq_true] at this;exact ⟨of_decide_eq_true this.1,this.2⟩
 refine ⟨h1,isL_mL λM hM p hp=>⟨((hm.each M hM).each p hp).dl,?_⟩,λi=>?_⟩
 . exact of_decide_eq_true (List.all_eq_true.1 (h2 M hM).2 p hp)
 . by_cases hi:i<Ms.length
   . rw [List.getD_eq_getElem?_getD,List.getElem?_eq_getElem (by simpa [mpL] using hi)];simp only [mpL,List.getElem_map,Option.getD_some,piL,List.length_map];exact (h2 _ (List.getElem_mem _)).1
   . rw [List.getD_eq_getElem?_getD,List.getElem?_eq_none (by simp [mpL]; omega)]; simp
theorem mL_len (Ms:List (List (Bool × List Nat))):(mL Ms).length=Ms.length:=by simp [mL]
theorem boolP (p:Prop):∃ r:Bool,r=true↔p:=by
 by_cases h:p
 . exact ⟨true,by simp [h]⟩
 . exact ⟨false,by simp [h]⟩
def qL (f:Nat->Rat) (m:Nat):List V:=(List.range m).map λt=>Q (f t)
theorem qL_length (f:Nat->Rat) (m:Nat):(qL f m).length=m:=by simp [qL]
theorem qL_snoc (f:Nat->Rat) (m:Nat):qL f m++[Q (f m)]=qL f (m+1):=by rw [qL,qL,List.range_succ,List.map_append]; rfl
theorem qL_at {f:Nat->Rat} {m t:Nat} (h:t<m):(qL f m)[t]'(by rw [qL_length]; exact h)=Q (f t):=by simp [qL]
theorem qL_congr {f g:Nat->Rat} {m:Nat} (h:∀ t,t<m->f t=g t):qL f m=qL g m:=by
 refine List.map_congr_left λt ht=>?_;rw [h t (List.mem_range.1 ht)]
def Dn (E:Int) (b:Nat) (q:Rat):Prop:=∃ a:Int,q*(E:Rat)=(a:Rat)/\zlen a<=b
theorem Dn.ql {E:Int} {b:Nat} {q:Rat} (h:Dn E b q) (h0:E≠0) (hE:zlen E<=b):QL (b+1) q:=by
 obtain ⟨a,e,ha⟩:=h;have hE0:(E:Rat)≠0:=by exact_mod_cast h0
 have:q=Rat.divInt a E:=by
  rw [Rat.divInt_eq_div,<-e,Rat.div_def,Rat.mul_assoc,Rat.mul_inv_cancel _ hE0,Rat.mul_one]
 rw [this]; exact divInt_len ha hE
theorem qne {x y:Rat} (hx:x≠0) (hy:y≠0):x*y≠0:=λe=>by
 rcases Rat.mul_eq_zero.1 e with h | h
 . exact hx h
 . exact hy h
theorem Dn.mono {E:Int} {b c:Nat} {q:Rat} (h:Dn E b q) (hbc:b<=c):Dn E c q:=by
 obtain ⟨a,e,ha⟩:=h; exact ⟨a,e,by omega⟩
theorem Dn.mul {E F:Int} {b c:Nat} {q r:Rat} (h1:Dn E b q) (h2:Dn F c r):Dn (E*F) (b+c) (q*r):=by
 obtain ⟨x,e,hx⟩:=h1; obtain ⟨y,f,hy⟩:=h2;refine ⟨x*y,?_,?_⟩
 . push_cast; rw [<- e,<-f]; grind
 . have:=zlen_mul x y; omega
theorem Dn.add {E:Int} {b:Nat} {q r:Rat} (h1:Dn E b q) (h2:Dn E b r):Dn E (b+1) (q+r):=by
 obtain ⟨x,e,hx⟩:=h1; obtain ⟨y,f,hy⟩:=h2;refine ⟨x+y,?_,?_⟩
 . push_cast; rw [<- e,<-f]; grind
 . have:=zlen_add x y; omega
theorem dq_Dn {E F:Int} {p q w:Nat} {u v:Nat->Rat} (hu:∀ c,c<w->Dn E p (u c)) (hv:∀ c,c<w->Dn F q (v c)):∀ i,i<=w->Dn (E*F) (p+q+i) (dq u v i)
 | 0,_=>⟨0,by rw [dq]; push_cast; grind,by rw [zlen_zero]; omega⟩
 | i+1,h=>(dq_Dn hu hv i (by omega)).add (((hu i (by omega)).mul (hv i (by omega))).mono (by omega))
theorem pv_Dn {b:Nat->Nat->Int} {n w k:Nat} (H:Ind b n w) (hb:∀ a c,a<n->c<w->zlen (b a c)<=k):∀ t,t<=n->∃ E:Int,E≠0/\zlen E<=4^t*(k+w+1)/\∀ a c,a<n->c<w->Dn E (4^t*(k+w+1)) (pv b w t a c)
 | 0,_=>⟨1,by decide,by have:=zlen_small (x:=1) (by decide); omega,λa c ha hc=>⟨b a c,by show ((b a c:Int):Rat)*_=_; grind,by have:=hb a c ha hc; omega⟩⟩
 | t+1,ht=>by
  obtain ⟨E,h0,hE,h⟩:=pv_Dn H hb t (by omega);obtain ⟨N,hN⟩:∃ N,N=4^t*(k+w+1):=⟨_,rfl⟩;have hN1:4^(t+1)*(k+w+1)=4*N:=by rw [hN,Nat.pow_succ]; grind
  have hNw:w+1<=N:=by
   have h1:1*(k+w+1)<=4^t*(k+w+1):=Nat.mul_le_mul_right _ (Nat.one_le_pow _ _ (by decide));omega
  rw [hN1];rw [<- hN] at hE h;clear hN hN1;obtain ⟨T,hT,lT⟩:=dq_Dn (λc hc=>h t c (by omega) hc) (λc hc=>h t c (by omega) hc) w (Nat.le_refl _);have hs:=H.sq (t:=t) (by omega);have hT:ss b w t*((E*E:Int):Rat)=(T:Rat):=hT;have hE0:(E:Rat)≠0:=by exact_mod_cast h0
  have hT0:T≠0:=λe=>by
   rw [e] at hT; rw [Rat.intCast_mul,Rat.intCast_zero] at hT;have hs0:ss b w t≠0:=by grind
   exact qne hs0 (qne hE0 hE0) hT
  refine ⟨E*T,Int.mul_ne_zero h0 hT0,by have:=zlen_mul E T; omega,λa c ha hc=>?_⟩;obtain ⟨x,ex,lx⟩:=h a c ha hc;obtain ⟨y,ey,ly⟩:=h t c (by omega) hc;obtain ⟨A,eA,lA⟩:=dq_Dn (λc hc=>h a c ha hc) (λc hc=>h t c (by omega) hc) w (Nat.le_refl _);refine ⟨x*T-A*y,?_,?_⟩
  . rw [pv_succ];push_cast at hT eA ⊢;rw [<- ex,<-ey,<-eA,<-hT];generalize pv b w t a c=p;generalize pv b w t t c=p';generalize dq (pv b w t a) (pv b w t t) w=D;have hs0:ss b w t≠0:=by grind
    generalize ss b w t=s at hs0;have e:D / s*s=D:=by rw [Rat.div_def,Rat.mul_assoc,Rat.inv_mul_cancel _ hs0,Rat.mul_one]
    generalize D / s=z at e ⊢;rw [<- e]; grind
  . have h1:=zlen_sub (x*T) (A*y);have h2:=zlen_mul x T;have h3:=zlen_mul A y;omega
def muQ (b:Nat->Nat->Int) (w a j:Nat):Rat:=dq (λc=>((b a c:Int):Rat)) (pv b w j j) w / ss b w j
structure GsB (b:Nat->Nat->Int) (n w K:Nat):Prop where
 row:∀ a c,a<n->c<w->QL K ((b a c:Int):Rat)
 pv:∀ t a c,t<=a->a<n->c<w->QL K (pv b w t a c)
 sum:∀ j a i,j<a->a<n->i<=w->QL K (dq (λc=>((b a c:Int):Rat)) (Go.Dt.pv b w j j) i)
 sq:∀ a i,a<n->i<=w->QL K (dq (Go.Dt.pv b w a a) (Go.Dt.pv b w a a) i)
 x:∀ j a,j<a->a<n->QL K (muQ b w a j)
theorem gsB {b:Nat->Nat->Int} {n w k:Nat} (H:Ind b n w) (hb:∀ a c,a<n->c<w->zlen (b a c)<=k) (hn:n<=5) (hw:w<=7) (hk:k<=40):GsB b n w 32768:=by
 have hN:∀ t,t<n->∃ E:Int,E≠0/\zlen E<=12288/\∀ a c,a<n->c<w->Dn E 12288 (pv b w t a c):=λt ht=>by
  obtain ⟨E,h1,h2,h3⟩:=pv_Dn H hb t (by omega);have h4:4^t*(k+w+1)<=4^4*48:=Nat.mul_le_mul (Nat.pow_le_pow_right (by decide) (by omega)) (by omega);have h5:4^4*48=12288:=by decide
  rw [h5] at h4;exact ⟨E,h1,by omega,λa c ha hc=>(h3 a c ha hc).mono h4⟩
 have hz1:zlen 1<=1:=zlen_small (by decide);have hr:∀ a c,a<n->c<w->Dn 1 40 ((b a c:Int):Rat):=λa c ha hc=>⟨b a c,by grind,by have:=hb a c ha hc; omega⟩;refine ⟨λa c ha hc=>((hr a c ha hc).ql (by decide) (by omega)).mono (by omega),λt a c h1 h2 hc=>?_,λj a i hj ha hi=>?_,λa i ha hi=>?_,λj a hj ha=>?_⟩
 . obtain ⟨E,e0,e1,e2⟩:=hN t (by omega);exact ((e2 a c h2 hc).ql e0 e1).mono (by omega)
 . obtain ⟨E,e0,e1,e2⟩:=hN j (by omega);have h1:=zlen_mul 1 E;exact ((dq_Dn (λc hc=>hr a c ha hc) (λc hc=>e2 j c (by omega) hc) i hi).ql (by rw [Int.one_mul]; exact e0) (by omega)).mono (by omega)
 . obtain ⟨E,e0,e1,e2⟩:=hN a ha;have h1:=zlen_mul E E;exact ((dq_Dn (λc hc=>e2 a c ha hc) (λc hc=>e2 a c ha hc) i hi).ql (Int.mul_ne_zero e0 e0) (by omega)).mono (by omega)
 . obtain ⟨E,e0,e1,e2⟩:=hN j (by omega);obtain ⟨A,eA,lA⟩:=dq_Dn (λc hc=>hr a c ha hc) (λc hc=>e2 j c (by omega) hc) w (Nat.le_refl _);obtain ⟨T,hT,lT⟩:=dq_Dn (λc hc=>e2 j c (by omega) hc) (λc hc=>e2 j c (by omega) hc) w (Nat.le_refl _);have hT:ss b w j*((E*E:Int):Rat)=(T:Rat):=hT;have hE0:(E:Rat)≠0:=by exact_mod_cast e0
   have hs:=H.sq (t:=j) (by omega);have hs0:ss b w j≠0:=by grind
   have hT0:T≠0:=λe=>by
    rw [e] at hT; rw [Rat.intCast_mul,Rat.intCast_zero] at hT;exact qne hs0 (qne hE0 hE0) hT
   have:Dn T 25000 (muQ b w a j):=by
    refine ⟨A*E,?_,by have:=zlen_mul A E; omega⟩;unfold muQ;push_cast at hT eA ⊢;rw [<- hT,<-eA];generalize dq (λc=>((b a c:Int):Rat)) (pv b w j j) w=D;generalize ss b w j=s at hs0;have e:D / s*s=D:=by rw [Rat.div_def,Rat.mul_assoc,Rat.inv_mul_cancel _ hs0,Rat.mul_one]
    generalize D / s=z at e ⊢;rw [<- e]; grind
   exact (this.ql hT0 (by omega)).mono (by omega)
theorem muQ_M {b:Nat->Nat->Int} {n w:Nat} (H:Ind b n w) {a j:Nat} (hj:j<a) (ha:a<n):muQ b w a j*(bD b w (j+1):Rat)=((bM b w a j:Int):Rat):=by
 have h1:=H.m (a:=a) (t:=j) (by omega) ha;have h2:=H.d (t:=j) (by omega);have h3:=pv_adj H (t:=j) (by omega) j a (s:=j) (Nat.le_refl _);have hs:=H.sq (t:=j) (by omega);have hs0:ss b w j≠0:=by grind
 have h4:dq (pv b w 0 a) (pv b w j j) w=dq (λc=>((b a c:Int):Rat)) (pv b w j j) w:=rfl;rw [h1,h2,h3,h4];unfold muQ;generalize dq (λc=>((b a c:Int):Rat)) (pv b w j j) w=D;generalize ss b w j=s at hs0;have e:D / s*s=D:=by rw [Rat.div_def,Rat.mul_assoc,Rat.inv_mul_cancel _ hs0,Rat.mul_one]
 generalize D / s=z at e ⊢;rw [<- e]; grind
theorem app_bnd56 (i:Nat) (h:i<=2^20):(i+1)*56<=140737488355328/\i<=140737488355327:=⟨Nat.le_trans (Nat.mul_le_mul_right 56 (show i+1<=2^20+1 by omega)) (by decide),Nat.le_trans h (by decide)⟩
def RtS (vs:List V) (l:List Int) (S:St):Prop:=∃ i g:Nat,i<=vs.length/\S.σ 0= .p (.sl (some 2) vs)/\S.σ 4= .p (.i .i64 (i:Int))/\S.σ 3= .own 3 g 0 i/\S.h 3=⟨g,some (.arr 114 (some 3) (qL (λc=>((cf l c:Int):Rat)) i))⟩
def SuS (f g:Nat->Rat) (m:Nat) (S:St):Prop:=∃ k:Nat,k<=m/\S.σ 6= .p (.i .i64 (k:Int))/\S.σ 0= .p (.sl (some 3) (qL f m))/\S.σ 1= .p (.sl (some 3) (qL g m))/\
 S.σ 5= .ptr 5 1 0/\S.h 5=⟨1,some (.box 114 [.b (zn (dq f g k).num),.sl none (uL (zl (dq f g k).num)),.sl none (uL (qd (dq f g k).den))])⟩/\S.σ 4= .ptr 4 1 0/\S.h 4=⟨1,some (.box 114 [.b false,.sl none [],.sl none []])⟩
attribute [local simp] qL_length
set_option maxHeartbeats 1000000 in
theorem rrats {k:Nat} {vs:List V} {l:List Int} (hv:IsP k vs l) (hk:k<=2^30) (hn:vs.length<=2^20):Spec Tryz.prog f_ref14_rats [.sl (some 2) vs] (· =[.pure (.sl (some 3) (qL (λc=>((cf l c:Int):Rat)) vs.length))]):=by
 refine spec_at Tryz.func152 ok_ref14_rats [] rfl (by simp) ?_;unfold sc_ref14_rats;refine WS_seq (WS_reg [2] ?_); simp;refine WS_seq (WS_reg [3] ?_); simp;refine Ws ?_; simp;refine WS_block ?_;refine WS_loop (RtS vs l) (λS=>vs.length-nM 4 S) ⟨0,1,by omega,rfl,rfl,rfl,by simp [qL]⟩ ?_;rintro S ⟨i,g,hi,s0,s4,s3,h3⟩;have d4:=nM_eq s4;by_cases hlt:i<vs.length
 . have hltI:(i:Int)<(vs.length:Int):=by omega
   have wi:=i64_succ i (by omega);obtain ⟨b1,t1,hvi,hz1,hzi1⟩:=hv.cell i hlt;have nm:=rnorm (hv.get i hlt) (by omega);rw [hvi] at nm;have hsn:=qL_snoc (λc=>((cf l c:Int):Rat)) i;rw [show Q ((λc=>((cf l c:Int):Rat)) i)= .agg [.b (zn (cf l i)),.sl none (uL (zl (cf l i))),.sl none [.i .u64 1]] from Q_int _] at hsn;have hql:=qL_length (λc=>((cf l c:Int):Rat)) i;obtain ⟨O,hO⟩:∃ O,O=qL (λc=>((cf l c:Int):Rat)) i:=⟨_,rfl⟩;rw [<- hO] at hsn h3 hql;have hto:O.take i=O:=List.take_of_length_le (by omega);obtain ⟨y,hy⟩:∃ y,y=cf l i:=⟨_,rfl⟩;rw [<- hy] at nm hsn;have b1:=app_bnd56 i (by omega);refine Ws ?_; simp [s0,s4,s3,h3,hlt,hltI,hvi,wi,hql,hto,b1.1,b1.2];refine WS_cT (by simp [s0,s4,s3,h3,hlt,hltI,hvi,wi,hql,hto,b1.1,b1.2]) ?_;refine WS_skip ?_; simp [s0,s4,s3,h3,hlt,hltI,hvi,wi,hql,hto,b1.1,b1.2];refine WS_seq (WS_block (WS_reg [] ?_)); simp [s0,s4,s3,h3,hlt,hltI,hvi,wi,hql,hto,b1.1,b1.2];refine callK nm ?_; simp [s0,s4,s3,h3,hlt,hltI,hvi,wi,hql,hto,b1.1,b1.2];refine WS_reg [] ?_; simp [s0,s4,s3,h3,hlt,hltI,hvi,wi,hql,hto,b1.1,b1.2];refine ⟨⟨i+1,g+1,by omega,by simp [s0],by simp,by simp,by simp [hsn]⟩,?_⟩;rw [d4,nM_eq (i:=4) (n:=i+1) (by simp)];omega
 . obtain rfl:i=vs.length:=by omega
   have hltI:¬ (vs.length:Int)<(vs.length:Int):=by omega
   have hql:=qL_length (λc=>((cf l c:Int):Rat)) vs.length;obtain ⟨O,hO⟩:∃ O,O=qL (λc=>((cf l c:Int):Rat)) vs.length:=⟨_,rfl⟩;rw [<- hO] at h3 hql ⊢;have hto:O.take vs.length=O:=List.take_of_length_le (by omega);refine Ws ?_; simp [s0,s4,s3,h3,hltI,hql,hto];refine WS_cF (by simp [s0,s4,s3,h3,hltI,hql,hto]) ?_;refine WS_exit ?_; simp [s0,s4,s3,h3,hltI,hql,hto];refine WS_frz 3 3 none ?_;simp [frzQ,s3,h3,hql,hto];refine Wr ?_; simp [s0,s4,s3,h3,hltI,hql,hto];refine WS_ret ?_; simp [s0,s4,s3,h3,hltI,hql,hto]
set_option maxHeartbeats 1000000 in
theorem rsum {k m:Nat} {f g:Nat->Rat} (hf:∀ c,c<m->QL k (f c)) (hg:∀ c,c<m->QL k (g c)) (hs:∀ i,i<=m->QL k (dq f g i)) (hk:k<=2^18) (hn:m<=2^20):
 Spec Tryz.prog f_ref14_sum [.sl (some 3) (qL f m),.sl (some 3) (qL g m)] (· =[.pure (Q (dq f g m))]):=by
 have o0:=rof3 0 (by omega) (by omega);have e0:((0:Int):Rat)=dq f g 0:=rfl;rw [e0] at o0;refine spec_at Tryz.func154 ok_ref14_sum [] rfl (by simp) ?_;unfold sc_ref14_sum;refine Wr ?_; simp;refine Wr ?_; simp;refine callK o0 ?_; simp;refine Ws ?_; simp;refine WS_block ?_;refine WS_loop (SuS f g m) (λS=>m-nM 6 S) ⟨0,by omega,rfl,rfl,rfl,rfl,rfl,rfl,rfl⟩ ?_;rintro S ⟨i,hi,s6,s0,s1,s5,h5,s4,h4⟩;have d6:=nM_eq s6;by_cases hlt:i<m
 . have hI:(i:Int)<(m:Int):=by omega
   have w1:=i64_succ i (by omega);have mu:=rmul3 (isQ_Q (hf i hlt)) (isQ_Q (hg i hlt)) (by omega);have ad:=radd3 (isQ_Q ((hs i hi).mono (show k<=2*k+1 by omega))) (isQ_Q (ql_mul (hf i hlt) (hg i hlt))) (by omega);rw [show dq f g i+f i*g i=dq f g (i+1) from rfl] at ad;have qf:=qL_at (f:=f) hlt;have qg:=qL_at (f:=g) hlt;rw [Q_eq] at qf qg;obtain ⟨x,hx⟩:∃ x,x=f i:=⟨_,rfl⟩;obtain ⟨y,hy⟩:∃ y,y=g i:=⟨_,rfl⟩;obtain ⟨z,hz⟩:∃ z,z=dq f g i:=⟨_,rfl⟩;rw [<- hx] at mu ad qf;rw [<- hy] at mu ad qg;rw [<- hz] at ad h5;refine Ws ?_; simp [s6,s1,s0,s5,h5,s4,h4,hlt,hI,w1,qf,qg];refine WS_cT (by simp [s6,s1,s0,s5,h5,s4,h4,hlt,hI,w1,qf,qg]) ?_;refine WS_skip ?_; simp [s6,s1,s0,s5,h5,s4,h4,hlt,hI,w1,qf,qg];refine WS_seq (WS_block (WS_regD [] ?_)); simp [s6,s1,s0,s5,h5,s4,h4,hlt,hI,w1,qf,qg];refine callD mu rfl ?_; simp [s6,s1,s0,s5,h5,s4,h4,hlt,hI,w1,qf,qg];refine callD ad rfl ?_; simp [s6,s1,s0,s5,h5,s4,h4,hlt,hI,w1,qf,qg];refine ⟨rfl,?_⟩;refine WS_reg [] ?_; simp [s6,s1,s0,s5,h5,s4,h4,hlt,hI,w1,qf,qg];refine ⟨⟨i+1,by omega,by simp,by simp [s0],by simp [s1],by simp [s5],by simp,by simp [s4],by simp [h4]⟩,?_⟩;rw [d6,nM_eq (i:=6) (n:=i+1) (by simp)];omega
 . obtain rfl:i=m:=by omega
   have hI:¬ ((i:Int)<(i:Int)):=by omega
   refine Ws ?_; simp [s6,s1,s0,s5,h5,s4,h4,hI];refine WS_cF (by simp [s6,s1,s0,s5,h5,s4,h4,hI]) ?_;refine WS_exit ?_; simp [s6,s1,s0,s5,h5,s4,h4,hI];refine Wr ?_; simp [s6,s1,s0,s5,h5,s4,h4,hI];refine WS_ret ?_; simp [s6,s1,s0,s5,h5,s4,h4,hI]
def sR (b:Nat->Nat->Int) (w i:Nat):List V:=(List.range i).map λa=>.sl (some 3) (qL (pv b w a a) w)
theorem sR_length (b:Nat->Nat->Int) (w i:Nat):(sR b w i).length=i:=by simp [sR]
theorem sR_snoc (b:Nat->Nat->Int) (w i:Nat):sR b w i++[.sl (some 3) (qL (pv b w i i) w)]=sR b w (i+1):=by rw [sR,sR,List.range_succ,List.map_append]; rfl
theorem sR_at {b:Nat->Nat->Int} {w i j:Nat} (h:j<i):(sR b w i)[j]'(by rw [sR_length]; exact h)= .sl (some 3) (qL (pv b w j j) w):=by simp [sR]
def mR (b:Nat->Nat->Int) (w i:Nat):List V:=(List.range i).map λa=>.sl (some 3) (qL (muQ b w a) a)
theorem mR_length (b:Nat->Nat->Int) (w i:Nat):(mR b w i).length=i:=by simp [mR]
theorem mR_snoc (b:Nat->Nat->Int) (w i:Nat):mR b w i++[.sl (some 3) (qL (muQ b w i) i)]=mR b w (i+1):=by rw [mR,mR,List.range_succ,List.map_append]; rfl
theorem mR_at {b:Nat->Nat->Int} {w i j:Nat} (h:j<i):(mR b w i)[j]'(by rw [mR_length]; exact h)= .sl (some 3) (qL (muQ b w j) j):=by simp [mR]
theorem pv_mu {b:Nat->Nat->Int} {n w:Nat} (H:Ind b n w) {i j:Nat} (hj:j<i) (hi:i<n) (c:Nat):pv b w (j+1) i c=pv b w j i c-muQ b w i j*pv b w j j c:=by
 have h3:=pv_adj H (t:=j) (by omega) j i (s:=j) (Nat.le_refl _);rw [pv_succ,h3]; rfl
def SinS (S:St) (x:Rat) (u v:Nat->Rat) (w:Nat) (S':St):Prop:=
 ∃ i g,i<=w/\S'.σ 14= .own 14 g 0 i/\S'.h 14=⟨g,some (.arr 114 (some 3) (qL (λc=>u c-x*v c) i))⟩/\S'.σ 15= .p (.i .i64 (i:Int))/\(∀ t,t<=13->S'.σ t=S.σ t)/\∀ q,q≠14->S'.h q=S.h q
attribute [local simp] sR_length mR_length
set_option maxHeartbeats 1000000 in
theorem sp_in {Q':Exit->St->Prop} {S:St} {k w i j g4 g12 g14:Nat} {b:Nat->Nat->Int} {x:Rat} {u:Nat->Rat} (hj:j<i) (hi:i<=64) (hw:w<=2^20) (hk:k<=2^17) (hu:∀ c,c<w->QL k (u c)) (hv:∀ c,c<w->QL k (pv b w j j c)) (hx:QL k x)
 (s4:S.σ 4= .own 4 g4 0 i) (h4:S.h 4=⟨g4,some (.arr 109 none (sR b w i))⟩) (s9:S.σ 9= .p (.sl (some 3) (qL u w))) (s11:S.σ 11= .p (.i .i64 (j:Int)))
 (s12:S.σ 12= .ptr 12 g12 0) (h12:S.h 12=⟨g12,some (.box 114 [.b (zn x.num),.sl none (uL (zl x.num)),.sl none (uL (qd x.den))])⟩) (s14:S.σ 14= .own 14 g14 0 0) (h14:S.h 14=⟨g14,some (.arr 114 (some 3) [])⟩)
 (hQ:∀ (S':St) g',S'.σ 14= .own 14 g' 0 w->S'.h 14=⟨g',some (.arr 114 (some 3) (qL (λc=>u c-x*pv b w j j c) w))⟩->(∀ t,t<=13->S'.σ t=S.σ t)->(∀ q,q≠14->S'.h q=S.h q)->Q' .normal S'):
 WS Tryz.prog 91 sc_ref14_Stripped.snd.snd.snd.snd.fst.snd.fst.fst.snd.fst.fst.snd.snd.snd.fst.snd.fst.fst.snd.fst.fst.snd.snd.snd.fst Q' S:=by
 unfold sc_ref14_Stripped;simp only [SC.snd,SC.fst];refine Wr ?_; simp;refine WS_block ?_;refine WS_loop (SinS S x u (pv b w j j) w) (λS=>w-nM 15 S) ⟨0,g14,by omega,by simp [s14],by simp [h14,qL],by simp,λt ht=>?_,λq _=>by simp⟩ ?_
 . simp only [upd_apply];repeat rw [if_neg (by omega)]
 rintro S1 ⟨c,g,hc,t14,k14,t15,hs,hh⟩;have d15:=nM_eq t15;have t4:=(hs 4 (by omega)).trans s4;have t9:=(hs 9 (by omega)).trans s9;have t11:=(hs 11 (by omega)).trans s11;have t12:=(hs 12 (by omega)).trans s12;have k4:=(hh 4 (by omega)).trans h4;have k12:=(hh 12 (by omega)).trans h12;by_cases hlt:c<w
 . have hltI:(c:Int)<(w:Int):=by omega
   have wi:=i64_succ c (by omega);have hjI:(j:Int)<(i:Int):=by omega
   have mu:=rmul3 (isQ_Q hx) (isQ_Q (hv c hlt)) (by omega);have sb:=rsub3 (isQ_Q ((hu c hlt).mono (show k<=2*k+1 by omega))) (isQ_Q (ql_mul hx (hv c hlt))) (by omega);have hsn:=qL_snoc (λc=>u c-x*pv b w j j c) c;have hql:=qL_length (λc=>u c-x*pv b w j j c) c;have qf:=qL_at (f:=u) hlt;have qg:=qL_at (f:=pv b w j j) hlt;have hat:=sR_at (b:=b) (w:=w) hj;rw [Q_eq] at qf qg hsn;obtain ⟨O,hO⟩:∃ O,O=qL (λc=>u c-x*pv b w j j c) c:=⟨_,rfl⟩;rw [<- hO] at hsn k14 hql;have hto:O.take c=O:=List.take_of_length_le (by omega);obtain ⟨y,hy⟩:∃ y,y=u c-x*pv b w j j c:=⟨_,rfl⟩;have hsn':O++[.agg [.b (zn y.num),.sl none (uL (zl y.num)),.sl none (uL (qd y.den))]]=qL (λc=>u c-x*pv b w j j c) (c+1):=by rw [hy]; exact hsn
   rw [<- hy] at sb;obtain ⟨y1,hy1⟩:∃ y1,y1=u c:=⟨_,rfl⟩;obtain ⟨y2,hy2⟩:∃ y2,y2=pv b w j j c:=⟨_,rfl⟩;rw [<- hy1] at qf sb;rw [<- hy2] at qg mu sb;have b1:=app_bnd56 c (by omega);refine Ws ?_; simp [t4,t9,t11,t12,k4,k12,t14,k14,t15,hlt,hltI,hj,hjI,wi,qf,qg,hat,hql,hto,b1.1,b1.2];refine WS_cT (by simp [t4,t9,t11,t12,k4,k12,t14,k14,t15,hlt,hltI,hj,hjI,wi,qf,qg,hat,hql,hto,b1.1,b1.2]) ?_;refine WS_skip ?_; simp [t4,t9,t11,t12,k4,k12,t14,k14,t15,hlt,hltI,hj,hjI,wi,qf,qg,hat,hql,hto,b1.1,b1.2];refine WS_seq (WS_block (WS_regD [] ?_)); simp [t4,t9,t11,t12,k4,k12,t14,k14,t15,hlt,hltI,hj,hjI,wi,qf,qg,hat,hql,hto,b1.1,b1.2];refine callD mu rfl ?_; simp [t4,t9,t11,t12,k4,k12,t14,k14,t15,hlt,hltI,hj,hjI,wi,qf,qg,hat,hql,hto,b1.1,b1.2];refine callD sb rfl ?_; simp [t4,t9,t11,t12,k4,k12,t14,k14,t15,hlt,hltI,hj,hjI,wi,qf,qg,hat,hql,hto,b1.1,b1.2];refine ⟨by kernel_rfl,?_⟩;refine WS_reg [] ?_; simp [t4,t9,t11,t12,k4,k12,t14,k14,t15,hlt,hltI,hj,hjI,wi,qf,qg,hat,hql,hto,b1.1,b1.2];refine ⟨⟨c+1,g+1,by omega,by simp,by simp [hsn'],by simp,λt ht=>?_,λq h1=>?_⟩,?_⟩
   . simp only [upd_apply];repeat rw [if_neg (by omega)]
     exact hs t ht
   . simp [h1,hh q h1]
   . rw [d15,nM_eq (i:=15) (n:=c+1) (by simp)]; omega
 . obtain rfl:c=w:=by omega
   have hltI:¬ (c:Int)<(c:Int):=by omega
   refine Ws ?_; simp [t9,t15,hltI];refine WS_cF (by simp [t9,t15,hltI]) ?_;refine WS_exit ?_; simp [t9,t15,hltI];refine hQ _ g (by simp [t14]) (by simp [k14]) (λt ht=>?_) λq h1=>by simpa using hh q h1
   simp only [upd_apply];repeat rw [if_neg (by omega)]
   exact hs t ht
def SjS (S:St) (b:Nat->Nat->Int) (w i:Nat) (S':St):Prop:=
 ∃ j g,j<=i/\S'.σ 9= .p (.sl (some 3) (qL (pv b w j i) w))/\S'.σ 10= .own 10 g 0 j/\S'.h 10=⟨g,some (.arr 114 (some 3) (qL (muQ b w i) j))⟩/\S'.σ 11= .p (.i .i64 (j:Int))/\(∀ t,t<=8->S'.σ t=S.σ t)/\∀ q,q<=9->S'.h q=S.h q
theorem divR_ne {q r:Rat} (h:r≠0):divR q r=[.pure (Q (q / r)),.pure (.i .i64 0)]:=by rw [divR,if_neg h]
set_option maxHeartbeats 4000000 in
theorem sp_row {Q':Exit->St->Prop} {S:St} {n w i g4 g5 g10:Nat} {b:Nat->Nat->Int} (H:Ind b n w) (G:GsB b n w 32768) (hi:i<n) (hn:n<=64) (hw:w<=2^20)
 (s4:S.σ 4= .own 4 g4 0 i) (h4:S.h 4=⟨g4,some (.arr 109 none (sR b w i))⟩) (s5:S.σ 5= .own 5 g5 0 i) (h5:S.h 5=⟨g5,some (.arr 114 (some 3) (qL (ss b w) i))⟩)
 (s7:S.σ 7= .p (.i .i64 (i:Int))) (s8:S.σ 8= .p (.sl (some 3) (qL (λc=>((b i c:Int):Rat)) w))) (s9:S.σ 9= .p (.sl (some 3) (qL (λc=>((b i c:Int):Rat)) w))) (s10:S.σ 10= .own 10 g10 0 0) (h10:S.h 10=⟨g10,some (.arr 114 (some 3) [])⟩)
 (hQ:∀ (S':St) g',S'.σ 9= .p (.sl (some 3) (qL (pv b w i i) w))->S'.σ 10= .own 10 g' 0 i->S'.h 10=⟨g',some (.arr 114 (some 3) (qL (muQ b w i) i))⟩->(∀ t,t<=8->S'.σ t=S.σ t)->(∀ q,q<=9->S'.h q=S.h q)->Q' .normal S'):
 WS Tryz.prog 91 sc_ref14_Stripped.snd.snd.snd.snd.fst.snd.fst.fst.snd.fst.fst.snd.snd.snd.fst Q' S:=by
 unfold sc_ref14_Stripped;simp only [SC.snd,SC.fst];refine Wr ?_; simp;refine WS_block ?_;refine WS_loop (SjS S b w i) (λS=>i-nM 11 S) ⟨0,g10,by omega,by simp [s9]; rfl,by simp [s10],by simp [h10,qL],by simp,λt ht=>?_,λq _=>by simp⟩ ?_
 . simp only [upd_apply];repeat rw [if_neg (by omega)]
 rintro S1 ⟨j,g,hj,t9,t10,k10,t11,hs,hh⟩;have d11:=nM_eq t11;have t4:=(hs 4 (by omega)).trans s4;have t5:=(hs 5 (by omega)).trans s5;have t7:=(hs 7 (by omega)).trans s7;have t8:=(hs 8 (by omega)).trans s8;have k4:=(hh 4 (by omega)).trans h4;have k5:=(hh 5 (by omega)).trans h5;by_cases hlt:j<i
 . have hltI:(j:Int)<(i:Int):=by omega
   have wi:=i64_succ j (by omega);have su:=rsum (k:=32768) (m:=w) (f:=λc=>((b i c:Int):Rat)) (g:=pv b w j j) (λc hc=>G.row i c hi hc) (λc hc=>G.pv j j c (Nat.le_refl _) (by omega) hc) (λt ht=>G.sum j i t hlt hi ht) (by omega) hw;have hs0:ss b w j≠0:=by have:=H.sq (t:=j) (by omega); grind
   have dv:=rdiv3 (isQ_Q (G.sum j i w hlt hi (Nat.le_refl _))) (isQ_Q (G.sq j w (by omega) (Nat.le_refl _))) (by omega);rw [show dq (pv b w j j) (pv b w j j) w=ss b w j from rfl,divR_ne hs0,show dq (λc=>((b i c:Int):Rat)) (pv b w j j) w / ss b w j=muQ b w i j from rfl] at dv;have hxq:=G.x j i hlt hi;have huq:=λc hc=>G.pv j i c (Nat.le_of_lt hlt) hi hc;have hvq:=λc hc=>G.pv j j c (Nat.le_refl _) (show j<n by omega) hc;have hsn:=qL_snoc (muQ b w i) j;have hql:=qL_length (muQ b w i) j;have hat:=sR_at (b:=b) (w:=w) hlt;have hsq:=qL_at (f:=ss b w) hlt;rw [Q_eq] at hsn hsq;obtain ⟨O,hO⟩:∃ O,O=qL (muQ b w i) j:=⟨_,rfl⟩;rw [<- hO] at hsn k10 hql;have hto:O.take j=O:=List.take_of_length_le (by omega);have hpv:qL (pv b w (j+1) i) w=qL (λc=>pv b w j i c-muQ b w i j*pv b w j j c) w:=qL_congr λc _=>pv_mu H hlt hi c;obtain ⟨D,hD⟩:∃ D,D=dq (λc=>((b i c:Int):Rat)) (pv b w j j) w:=⟨_,rfl⟩;obtain ⟨s,hss⟩:∃ s,s=ss b w j:=⟨_,rfl⟩;obtain ⟨x,hx⟩:∃ x,x=muQ b w i j:=⟨_,rfl⟩;rw [<- hD] at su dv;rw [<- hss] at dv hsq;rw [<- hx] at dv hsn hxq hpv;have b1:=app_bnd56 j (by omega);refine Ws ?_; simp [t4,t5,t7,t8,t9,t10,t11,k4,k5,k10,hlt,hltI,hat,hsq,hql,hto,b1.1,b1.2];refine WS_cT (by simp [t4,t5,t7,t8,t9,t10,t11,k4,k5,k10,hlt,hltI,hat,hsq,hql,hto,b1.1,b1.2]) ?_;refine WS_skip ?_; simp [t4,t5,t7,t8,t9,t10,t11,k4,k5,k10,hlt,hltI,hat,hsq,hql,hto,b1.1,b1.2];refine WS_seq (WS_block (WS_seq (WS_regD [] ?_))); simp [t4,t5,t7,t8,t9,t10,t11,k4,k5,k10,hlt,hltI,hat,hsq,hql,hto,b1.1,b1.2];refine callD su rfl ?_; simp [t4,t5,t7,t8,t9,t10,t11,k4,k5,k10,hlt,hltI,hat,hsq,hql,hto,b1.1,b1.2];refine callD dv rfl ?_; simp [t4,t5,t7,t8,t9,t10,t11,k4,k5,k10,hlt,hltI,hat,hsq,hql,hto,b1.1,b1.2];refine ⟨by kernel_rfl,?_⟩;refine Wr ?_; simp [t4,t5,t7,t8,t9,t10,t11,k4,k5,k10,hlt,hltI,hat,hsq,hql,hto,b1.1,b1.2];refine WS_seq (WS_reg [14] ?_); simp [t4,t5,t7,t8,t9,t10,t11,k4,k5,k10,hlt,hltI,hat,hsq,hql,hto,b1.1,b1.2];refine WS_abs (λS'=>S'.σ 4= .own 4 g4 0 i/\S'.σ 9= .p (.sl (some 3) (qL (pv b w j i) w))/\S'.σ 10= .own 10 (g+1) 0 (j+1)/\S'.σ 11= .p (.i .i64 (j:Int))/\S'.σ 12= .ptr 12 ((S1.h 12).g+1) 0/\S'.σ 14= .own 14 ((S1.h 14).g+1) 0 0/\S'.h 4=⟨g4,some (.arr 109 none (sR b w i))⟩/\S'.h 10=⟨g+1,some (.arr 114 (some 3) (qL (muQ b w i) (j+1)))⟩/\
    S'.h 12=⟨(S1.h 12).g+1,some (.box 114 [.b (zn x.num),.sl none (uL (zl x.num)),.sl none (uL (qd x.den))])⟩/\S'.h 14=⟨(S1.h 14).g+1,some (.arr 114 (some 3) [])⟩/\(∀ t,t<=8->S'.σ t=S.σ t)/\∀ q,q<=9->S'.h q=S.h q) ?_ ?_
   . refine ⟨by simp [t4],by simp [t9],by simp,by simp [t11],by simp,by simp,by simp [k4],by simp [hsn],by simp,by simp,λt ht=>?_,λq hq=>?_⟩
     . simp only [upd_apply];repeat rw [if_neg (by omega)]
       exact hs t ht
     . simp only [upd_apply];repeat rw [if_neg (by omega)]
       exact hh q hq
   obtain ⟨e12,he12⟩:∃ g,g=(S1.h 12).g+1:=⟨_,rfl⟩;obtain ⟨e14,he14⟩:∃ g,g=(S1.h 14).g+1:=⟨_,rfl⟩;rw [<- he12,<-he14];rintro S2 ⟨u4,u9,u10,u11,u12,u14,j4,j10,j12,j14,hs2,hh2⟩;refine WS_seq ?_;refine sp_in (k:=32768) hlt (by omega) hw (by omega) huq hvq hxq u4 j4 u9 u11 u12 j12 u14 j14 ?_;intro S3 g3 v14 z14 hs3 hh3;have v10:=(hs3 10 (by omega)).trans u10;have v11:=(hs3 11 (by omega)).trans u11;have z10:=(hh3 10 (by omega)).trans j10;rw [<- hpv] at z14;have hql2:=qL_length (pv b w (j+1) i) w;show WS Tryz.prog 91 _ _ S3;refine WS_frz 14 14 none ?_;obtain ⟨O2,hO2⟩:∃ O,O=qL (pv b w (j+1) i) w:=⟨_,rfl⟩;have hto2:O2.take w=O2:=List.take_of_length_le (by rw [hO2]; simp);have hl2:O2.length=w:=by rw [hO2]; simp
   rw [<- hO2] at z14;simp [frzQ,v14,z14,hl2,hto2];refine WS_reg [] ?_; simp;refine WS_reg [] ?_; simp [v11,wi];refine ⟨⟨j+1,g+1,by omega,by simp [hO2],by simp [v10],by simp [z10],by simp,λt ht=>?_,λq hq=>?_⟩,?_⟩
   . simp only [upd_apply];repeat rw [if_neg (by omega)]
     exact (hs3 t (by omega)).trans (hs2 t ht)
   . simp only [upd_apply];repeat rw [if_neg (by omega)]
     exact (hh3 q (by omega)).trans (hh2 q hq)
   . rw [d11,nM_eq (i:=11) (n:=j+1) (by simp)]; omega
 . obtain rfl:j=i:=by omega
   have hltI:¬ (j:Int)<(j:Int):=by omega
   refine Ws ?_; simp [t7,t11,hltI];refine WS_cF (by simp [t7,t11,hltI]) ?_;refine WS_exit ?_; simp [t7,t11,hltI];refine hQ _ g (by simp [t9]) (by simp [t10]) (by simp [k10]) (λt ht=>?_) λq h1=>by simpa using hh q h1
   simp only [upd_apply];repeat rw [if_neg (by omega)]
   exact hs t ht
def StI (xs:List V) (b:Nat->Nat->Int) (n w:Nat) (S:St):Prop:=
 ∃ i g4 g5 g6,i<=n/\S.σ 0= .p (.sl none xs)/\S.σ 4= .own 4 g4 0 i/\S.h 4=⟨g4,some (.arr 109 none (sR b w i))⟩/\S.σ 5= .own 5 g5 0 i/\S.h 5=⟨g5,some (.arr 114 (some 3) (qL (ss b w) i))⟩/\S.σ 6= .own 6 g6 0 i/\S.h 6=⟨g6,some (.arr 109 none (mR b w i))⟩/\S.σ 7= .p (.i .i64 (i:Int))
set_option maxHeartbeats 4000000 in
theorem rstripped {k n w:Nat} {xs:List V} {L:List (List Int)} (hL:IsL k xs L) (hx:xs.length=n) (hwid:∀ a,a<n->(L.getD a []).length=w) (H:Ind (bOf L) n w) (G:GsB (bOf L) n w 32768) (hk:k<=2^30) (hn:n<=64) (hw:w<=2^20):
 Spec Tryz.prog f_ref14_Stripped [.sl none xs] (· =[.pure (.sl (some 3) (qL (ss (bOf L) w) n)),.pure (.sl none (mR (bOf L) w n))]):=by
 refine spec_at Tryz.func102 ok_ref14_Stripped [] rfl (by simp) ?_;unfold sc_ref14_Stripped;refine Wr ?_; simp;refine WS_seq (WS_reg [4] ?_); simp;refine WS_seq (WS_reg [5] ?_); simp;refine WS_seq (WS_reg [6] ?_); simp;refine Ws ?_; simp;refine WS_block ?_;refine WS_loop (StI xs (bOf L) n w) (λS=>n-nM 7 S) ⟨0,1,1,1,by omega,rfl,rfl,by simp [sR],rfl,by simp [qL],rfl,by simp [mR],rfl⟩ ?_;rintro S ⟨i,g4,g5,g6,hi,s0,s4,h4,s5,h5,s6,h6,s7⟩;have d7:=nM_eq s7;by_cases hlt:i<n
 . have hltI:(i:Int)<(n:Int):=by omega
   have wi:=i64_succ i (by omega);have hix:i<xs.length:=by omega
   have hixI:(i:Int)<(xs.length:Int):=by omega
   obtain ⟨vs,hvs,pv'⟩:=hL.row i hix;have lv:=pv'.len;rw [hwid i hlt] at lv;have rt:=rrats pv' hk (by omega);rw [lv,show (λc=>((cf (L.getD i []) c:Int):Rat))=λc=>((bOf L i c:Int):Rat) from rfl] at rt;obtain ⟨b,hb⟩:∃ b,b=bOf L:=⟨_,rfl⟩;rw [<- hb] at H G h4 h5 h6 rt ⊢;have sm:=rsum (k:=32768) (m:=w) (f:=pv b w i i) (g:=pv b w i i) (λc hc=>G.pv i i c (Nat.le_refl _) hlt hc) (λc hc=>G.pv i i c (Nat.le_refl _) hlt hc) (λt ht=>G.sq i t hlt ht) (by omega) hw;rw [show dq (pv b w i i) (pv b w i i) w=ss b w i from rfl] at sm;refine Ws ?_; simp [s0,s7,hx,hvs,hix,hixI,hltI,hlt];refine WS_cT (by simp [s0,s7,hx,hvs,hix,hixI,hltI,hlt]) ?_;refine WS_skip ?_; simp [s0,s7,hx,hvs,hix,hixI,hltI,hlt];refine WS_seq (WS_block (Wr ?_)); simp [s0,s7,hx,hvs,hix,hixI,hltI,hlt];refine callP rt rfl ?_;simp [s0,s7,hx,hvs,hix,hixI,hltI,hlt];refine Wr ?_; simp [s0,s7,hx,hvs,hix,hixI,hltI,hlt];refine WS_seq (WS_reg [10] ?_); simp [s0,s7,hx,hvs,hix,hixI,hltI,hlt];refine WS_abs (λS'=>S'.σ 0= .p (.sl none xs)/\S'.σ 4= .own 4 g4 0 i/\S'.h 4=⟨g4,some (.arr 109 none (sR b w i))⟩/\S'.σ 5= .own 5 g5 0 i/\S'.h 5=⟨g5,some (.arr 114 (some 3) (qL (ss b w) i))⟩/\S'.σ 6= .own 6 g6 0 i/\S'.h 6=⟨g6,some (.arr 109 none (mR b w i))⟩/\S'.σ 7= .p (.i .i64 (i:Int))/\
    S'.σ 8= .p (.sl (some 3) (qL (λc=>((b i c:Int):Rat)) w))/\S'.σ 9= .p (.sl (some 3) (qL (λc=>((b i c:Int):Rat)) w))/\S'.σ 10= .own 10 ((S.h 10).g+1) 0 0/\S'.h 10=⟨(S.h 10).g+1,some (.arr 114 (some 3) [])⟩) ?_ ?_
   . refine ⟨by simp [s0],by simp [s4],by simp [h4],by simp [s5],by simp [h5],by simp [s6],by simp [h6],by simp [s7],by simp,by simp,by simp,by simp⟩
   obtain ⟨e10,he10⟩:∃ g,g=(S.h 10).g+1:=⟨_,rfl⟩;rw [<- he10];rintro S1 ⟨u0,u4,j4,u5,j5,u6,j6,u7,u8,u9,u10,j10⟩;refine WS_seq ?_;refine sp_row H G hlt hn hw u4 j4 u5 j5 u7 u8 u9 u10 j10 ?_;intro S2 g2 v9 v10 z10 hs2 hh2;have v0:=(hs2 0 (by omega)).trans u0;have v4:=(hs2 4 (by omega)).trans u4;have v5:=(hs2 5 (by omega)).trans u5;have v6:=(hs2 6 (by omega)).trans u6;have v7:=(hs2 7 (by omega)).trans u7;have z4:=(hh2 4 (by omega)).trans j4;have z5:=(hh2 5 (by omega)).trans j5;have z6:=(hh2 6 (by omega)).trans j6;show WS Tryz.prog 91 _ _ S2;refine WS_frz 10 10 none ?_;have hsn1:=sR_snoc b w i;have hsn2:=qL_snoc (ss b w) i;have hsn3:=mR_snoc b w i;rw [Q_eq] at hsn2;have l1:=sR_length b w i;have l2:=qL_length (ss b w) i;have l3:=mR_length b w i;have l4:=qL_length (muQ b w i) i;have l5:=qL_length (pv b w i i) w;obtain ⟨O1,hO1⟩:∃ O,O=sR b w i:=⟨_,rfl⟩;obtain ⟨O2,hO2⟩:∃ O,O=qL (ss b w) i:=⟨_,rfl⟩;obtain ⟨O3,hO3⟩:∃ O,O=mR b w i:=⟨_,rfl⟩;obtain ⟨O4,hO4⟩:∃ O,O=qL (muQ b w i) i:=⟨_,rfl⟩;obtain ⟨O5,hO5⟩:∃ O,O=qL (pv b w i i) w:=⟨_,rfl⟩;rw [<- hO1] at z4 hsn1 l1;rw [<- hO2] at z5 hsn2 l2;rw [<- hO3] at z6 hsn3 l3;rw [<- hO4] at z10 hsn3 l4;rw [<- hO5] at v9 hsn1 sm l5;have t1:O1.take i=O1:=List.take_of_length_le (by omega);have t2:O2.take i=O2:=List.take_of_length_le (by omega);have t3:O3.take i=O3:=List.take_of_length_le (by omega);have t4:O4.take i=O4:=List.take_of_length_le (by omega);obtain ⟨s,hs⟩:∃ s,s=ss b w i:=⟨_,rfl⟩;rw [<- hs] at sm hsn2;have b1:=app_bnd56 i (by omega);have b2:=app_bnds (i:=i) (by omega);simp [frzQ,v10,z10,l4,t4];refine Wr ?_; simp [v0,v4,v5,v6,v7,v9,z4,z5,z6,l1,l2,l3,t1,t2,t3,b1.1,b1.2,b2.1,b2.2.1];refine Wr ?_; simp [v0,v4,v5,v6,v7,v9,z4,z5,z6,l1,l2,l3,t1,t2,t3,b1.1,b1.2,b2.1,b2.2.1];refine callP sm rfl ?_;simp [v0,v4,v5,v6,v7,v9,z4,z5,z6,l1,l2,l3,t1,t2,t3,b1.1,b1.2,b2.1,b2.2.1];refine WS_reg [] ?_; simp [v0,v4,v5,v6,v7,v9,z4,z5,z6,l1,l2,l3,t1,t2,t3,b1.1,b1.2,b2.1,b2.2.1];refine WS_reg [] ?_; simp [v7,wi];refine ⟨⟨i+1,g4+1,g5+1,g6+1,by omega,by simp [v0],by simp,by simp [hsn1],by simp,by simp [hsn2],by simp,by simp [hsn3],by simp⟩,?_⟩;rw [d7,nM_eq (i:=7) (n:=i+1) (by simp)]; omega
 . obtain rfl:i=n:=by omega
   have hltI:¬ (i:Int)<(i:Int):=by omega
   have l2:=qL_length (ss (bOf L) w) i;have l3:=mR_length (bOf L) w i;obtain ⟨O2,hO2⟩:∃ O,O=qL (ss (bOf L) w) i:=⟨_,rfl⟩;obtain ⟨O3,hO3⟩:∃ O,O=mR (bOf L) w i:=⟨_,rfl⟩;rw [<- hO2] at h5 l2 ⊢;rw [<- hO3] at h6 l3 ⊢;have t2:O2.take i=O2:=List.take_of_length_le (by omega);have t3:O3.take i=O3:=List.take_of_length_le (by omega);refine Ws ?_; simp [s0,s7,hx,hltI,s5,h5,s6,h6,l2,l3,t2,t3];refine WS_cF (by simp [s0,s7,hx,hltI,s5,h5,s6,h6,l2,l3,t2,t3]) ?_;refine WS_exit ?_; simp [s0,s7,hx,hltI,s5,h5,s6,h6,l2,l3,t2,t3];refine WS_frz 5 5 none ?_;simp [frzQ,s5,h5,l2,t2];refine WS_frz 6 6 none ?_;simp [frzQ,s6,h6,l3,t3];refine Wr ?_; simp [s0,s7,hx,hltI,s5,h5,s6,h6,l2,l3,t2,t3];refine WS_ret ?_; simp [s0,s7,hx,hltI,s5,h5,s6,h6,l2,l3,t2,t3]
theorem sgn_neg (q:Rat):q.num.sign<0↔q<0:=by
 have h0:q<0↔¬ 0<=q.num:=by rw [Rat.num_nonneg]; grind
 rw [h0];rcases Int.lt_trichotomy q.num 0 with h | h | h
 . rw [Int.sign_eq_neg_one_of_neg h]; omega
 . rw [h]; decide
 . rw [Int.sign_eq_one_of_pos h]; omega
theorem sgn_pos (q:Rat):0<q.num.sign↔0<q:=by
 have h1:=sgn_neg (-q);rw [Rat.neg_num,Int.sign_neg] at h1;have h2: -q<0↔0<q:=by grind
 rw [<- h2,<-h1]; omega
theorem pos_mul {e p:Rat} (hp:0<p):0<e↔0<e*p:=by
 refine ⟨λh=>Rat.mul_pos h hp,λh=>?_⟩;refine Classical.byContradiction λh1=>?_;have h2:0<=-e:=by grind
 have h3:=Rat.mul_nonneg h2 (Rat.le_of_lt hp);grind
theorem neg_mul' {e p:Rat} (hp:0<p):e<0↔e*p<0:=by
 have h1:=pos_mul (e:= -e) hp;have h2: -e*p= -(e*p):=by grind
 rw [h2] at h1;grind
section
variable {b:Nat->Nat->Int} {n w:Nat}
theorem far_gt (H:Ind b n w) {i j:Nat} (hj:j<i) (hi:i<n):0<(muQ b w i j+muQ b w i j-((1:Int):Rat)).num.sign↔bD b w (j+1)<bM b w i j+bM b w i j:=by
 have hd:=H.posQ (t:=j+1) (by omega);have hm:=muQ_M H hj hi;rw [sgn_pos,pos_mul hd];have e:(muQ b w i j+muQ b w i j-((1:Int):Rat))*(bD b w (j+1):Rat)=((bM b w i j+bM b w i j-bD b w (j+1):Int):Rat):=by
  push_cast; rw [<- hm]; grind
 rw [e];constructor
 . intro h;have:0<bM b w i j+bM b w i j-bD b w (j+1):=by exact_mod_cast h
   omega
 . intro h;have:0<bM b w i j+bM b w i j-bD b w (j+1):=by omega
   exact_mod_cast this
theorem far_lt (H:Ind b n w) {i j:Nat} (hj:j<i) (hi:i<n):(muQ b w i j+muQ b w i j-((-1:Int):Rat)).num.sign<0↔bM b w i j+bM b w i j < - bD b w (j+1):=by
 have hd:=H.posQ (t:=j+1) (by omega);have hm:=muQ_M H hj hi;rw [sgn_neg,neg_mul' hd];have e:(muQ b w i j+muQ b w i j-((-1:Int):Rat))*(bD b w (j+1):Rat)=((bM b w i j+bM b w i j+bD b w (j+1):Int):Rat):=by
  push_cast; rw [<- hm]; grind
 rw [e];constructor
 . intro h;have:bM b w i j+bM b w i j+bD b w (j+1)<0:=by exact_mod_cast h
   omega
 . intro h;have:bM b w i j+bM b w i j+bD b w (j+1)<0:=by omega
   exact_mod_cast this
theorem far_iff (H:Ind b n w) {i j:Nat} (hj:j<i) (hi:i<n):farB b w i j=true↔0<(muQ b w i j+muQ b w i j-((1:Int):Rat)).num.sign\/(muQ b w i j+muQ b w i j-((-1:Int):Rat)).num.sign<0:=by
 rw [far_gt H hj hi,far_lt H hj hi,farB,decide_eq_true_iff];have:=H.pos (t:=j+1) (by omega);omega
def leastQ (b:Nat->Nat->Int) (w i:Nat):Rat:=(mkRat 3 4-muQ b w i (i-1)*muQ b w i (i-1))*ss b w (i-1)
theorem fall_iff (H:Ind b n w) {i:Nat} (h0:0<i) (hi:i<n):fallB b w i=true↔(ss b w i-leastQ b w i).num.sign<0:=by
 obtain ⟨t,rfl⟩:∃ t,i=t+1:=⟨i-1,by omega⟩;have e1:t+1-1=t:=rfl;have hd:=H.posQ (t:=t+1) (by omega);have hd0:=H.posQ (t:=t) (by omega);have hm:=muQ_M H (a:=t+1) (j:=t) (by omega) hi;have h1:=H.d (t:=t) (by omega);have h2:=H.d (t:=t+1) hi;rw [sgn_neg,leastQ,e1,neg_mul' (Rat.mul_pos hd hd0),fallB,decide_eq_true_iff,e1];have q34:mkRat 3 4*4=3:=by decide +kernel
 have e:4*((ss b w (t+1)-(mkRat 3 4-muQ b w (t+1) t*muQ b w (t+1) t)*ss b w t)*((bD b w (t+1):Rat)*(bD b w t:Rat)))=((4*(bD b w (t+1+1)*bD b w t+bM b w (t+1) t*bM b w (t+1) t)-3*(bD b w (t+1)*bD b w (t+1)):Int):Rat):=by
  push_cast;rw [h2,<-hm];generalize muQ b w (t+1) t=x;generalize ss b w (t+1)=s;rw [h1];generalize ((bD b w t:Int):Rat)=d;generalize ss b w t=s';generalize mkRat 3 4=q at q34;grind
 have e4:∀ x:Rat,x<0↔4*x<0:=λx=>by grind
 rw [e4,e];constructor
 . intro h;have:4*(bD b w (t+1+1)*bD b w t+bM b w (t+1) t*bM b w (t+1) t)-3*(bD b w (t+1)*bD b w (t+1))<0:=by omega
   exact_mod_cast this
 . intro h;have:4*(bD b w (t+1+1)*bD b w t+bM b w (t+1) t*bM b w (t+1) t)-3*(bD b w (t+1)*bD b w (t+1))<0:=by exact_mod_cast h
   omega
end
theorem isQ34:IsQ 1 (.agg [.b (zn 3),.sl none (uL (zl 3)),.sl none [.i .u64 4]]) (mkRat 3 4):=by
 refine ⟨zn 3,zl 3,[4],rfl,⟨zl_dl _,zlen_small (by decide)⟩,⟨λd hd=>?_,by simp⟩,?_⟩
 . simp only [List.mem_singleton] at hd; subst hd; omega
 . rw [rq,zi_Z]; rfl
def Rd4 (xs:List V) (b:Nat->Nat->Int) (n w:Nat) (S:St):Prop:=
 ∃ i,i<=n/\S.σ 0= .p (.sl none xs)/\S.σ 4= .p (.sl (some 3) (qL (ss b w) n))/\S.σ 5= .p (.sl none (mR b w n))/\S.σ 6= .p (.i .i64 (i:Int))/\redP b i w
def Rd5 (xs:List V) (b:Nat->Nat->Int) (n w i:Nat) (S:St):Prop:=
 ∃ j,j<=i/\S.σ 0= .p (.sl none xs)/\S.σ 4= .p (.sl (some 3) (qL (ss b w) n))/\S.σ 5= .p (.sl none (mR b w n))/\S.σ 6= .p (.i .i64 (i:Int))/\S.σ 7= .p (.i .i64 (j:Int))/\∀ j',j'<j->farB b w i j'=false
theorem redP_succ {b:Nat->Nat->Int} {i w:Nat} (h:redP b i w) (h1:∀ j,j<i->farB b w i j=false) (h2:0<i->fallB b w i=false):redP b (i+1) w:=λa ha=>by
 by_cases e:a=i
 . subst e; exact ⟨h1,h2⟩
 . exact h a (by omega)
theorem ql_int {x:Int} (h:x.natAbs<18446744073709551616):QL 1 ((x:Int):Rat):=⟨zlen_small h,zlen_small (by show (1:Nat)<_; omega)⟩
set_option maxHeartbeats 4000000 in
theorem rreduced_no {xs:List V} (bs:Spec Tryz.prog f_ref14_Basis [.sl none xs] (· =[.pure (.b false)])):
 Spec Tryz.prog f_ref14_Reduced [.sl none xs] (· =[.pure (.b false),.pure (.i .i64 1)]):=by
 refine spec_at Tryz.func46 ok_ref14_Reduced [] rfl (by simp) ?_;unfold sc_ref14_Reduced;refine Wr ?_; simp;refine Ws ?_; simp;refine callP bs rfl ?_;simp;refine WS_cT (by simp) ?_;refine Wr ?_; simp;refine WS_ret ?_; simp
set_option maxHeartbeats 4000000 in
theorem rreduced {k n w:Nat} {xs:List V} {L:List (List Int)} (hL:IsL k xs L) (hx:xs.length=n) (hwid:∀ a,a<n->(L.getD a []).length=w) (H:Ind (bOf L) n w) (G:GsB (bOf L) n w 32768) (hk:k<=2^30) (hn:n<=64) (hw:w<=2^20)
 (bs:Spec Tryz.prog f_ref14_Basis [.sl none xs] (· =[.pure (.b true)])) (v:Bool) (hv:v=true↔redP (bOf L) n w):
 Spec Tryz.prog f_ref14_Reduced [.sl none xs] (· =[.pure (.b v),.pure (.i .i64 0)]):=by
 have st:=rstripped hL hx hwid H G hk hn hw;obtain ⟨b,hb⟩:∃ b,b=bOf L:=⟨_,rfl⟩;rw [<- hb] at H G hv st;obtain ⟨p1,hp1⟩:∃ p:Rat,p=((1:Int):Rat):=⟨_,rfl⟩;obtain ⟨p2,hp2⟩:∃ p:Rat,p=((-1:Int):Rat):=⟨_,rfl⟩;have o1:=rof3 1 (by omega) (by omega);have o2:=rof3 (-1) (by omega) (by omega);rw [<- hp1] at o1;rw [<- hp2] at o2;have q1:QL 1 p1:=by rw [hp1]; exact ql_int (by decide)
 have q2:QL 1 p2:=by rw [hp2]; exact ql_int (by decide)
 have o3:=rof 3 (by omega) (by omega);obtain ⟨y3,hy3⟩:∃ y:Int,y=3:=⟨_,rfl⟩;have q34:IsQ 1 (.agg [.b (zn y3),.sl none (uL (zl y3)),.sl none [.i .u64 4]]) (mkRat 3 4):=by rw [hy3]; exact isQ34
 have w1:IntKind.i64.wrap 1=1:=by decide
 rw [show Z 3=Z y3 by rw [hy3]] at o3;refine spec_at Tryz.func46 ok_ref14_Reduced [] rfl (by simp) ?_;unfold sc_ref14_Reduced;refine Wr ?_; simp;refine Ws ?_; simp;refine callP bs rfl ?_;simp;refine WS_cF (by simp) ?_;refine WS_skip ?_; simp;refine Wr ?_; simp;refine callP st rfl ?_;simp;refine Ws ?_; simp;refine WS_block ?_;refine WS_loop (Rd4 xs b n w) (λS=>n-nM 6 S) ⟨0,by omega,rfl,rfl,rfl,rfl,λi hi=>by omega⟩ ?_;rintro S ⟨i,hi,s0,s4,s5,s6,hp⟩;have d6:=nM_eq s6;by_cases hlt:i<n
 . have hltI:(i:Int)<(n:Int):=by omega
   have wi:=i64_succ i (by omega);refine Ws ?_; simp [s0,s4,s5,s6,hltI,hx];refine WS_cT (by simp [s0,s4,s5,s6,hltI,hx]) ?_;refine WS_skip ?_; simp [s0,s4,s5,s6,hltI,hx];refine WS_seq (WS_block (Ws ?_)); simp [s0,s4,s5,s6,hltI,hx];refine WS_block ?_;refine WS_loop (Rd5 xs b n w i) (λS=>i-nM 7 S) ⟨0,by omega,by simp [s0],by simp [s4],by simp [s5],by simp [s6],by simp,λj hj=>by omega⟩ ?_;rintro S1 ⟨j,hj,t0,t4,t5,t6,t7,hf⟩;have d7:=nM_eq t7;by_cases hjl:j<i
   . have hjI:(j:Int)<(i:Int):=by omega
     have wj:=i64_succ j (by omega);have hat:=mR_at (b:=b) (w:=w) hlt;have hmq:=qL_at (f:=muQ b w i) hjl;rw [Q_eq] at hmq;have qm:=G.x j i hjl hlt;have ad:=radd3 (isQ_Q qm) (isQ_Q qm) (by omega);have c1:=rcmp3 (isQ_Q (ql_add qm qm)) (isQ_Q (q1.mono (by omega))) (by omega);have c2:=rcmp3 (isQ_Q (ql_add qm qm)) (isQ_Q (q2.mono (by omega))) (by omega);have hfi:=far_iff H hjl hlt;rw [<- hp1,<-hp2] at hfi;obtain ⟨a1,ha1⟩:∃ a,a=(muQ b w i j+muQ b w i j-p1).num.sign:=⟨_,rfl⟩;obtain ⟨a2,ha2⟩:∃ a,a=(muQ b w i j+muQ b w i j-p2).num.sign:=⟨_,rfl⟩;rw [<- ha1] at c1 hfi;rw [<- ha2] at c2 hfi;obtain ⟨x,hxx⟩:∃ x,x=muQ b w i j:=⟨_,rfl⟩;obtain ⟨x2,hx2⟩:∃ x2,x2=x+x:=⟨_,rfl⟩;rw [<- hxx] at hmq ad c1 c2;rw [<- hx2] at ad c1 c2;have hvf:farB b w i j=true->v=false:=λh=>by
      cases v with
      | false=>rfl
      | true=>
       have:=(hv.1 rfl i hlt).1 j hjl;rw [h] at this; cases this
     by_cases h1:0<a1
     . obtain rfl:=hvf (hfi.2 (.inl h1));refine Ws ?_; simp [t0,t4,t5,t6,t7,hjI,hjl,hlt,hltI,hat,hmq,h1];refine WS_cT (by simp [t0,t4,t5,t6,t7,hjI,hjl,hlt,hltI,hat,hmq,h1]) ?_;refine WS_skip ?_; simp [t0,t4,t5,t6,t7,hjI,hjl,hlt,hltI,hat,hmq,h1];refine WS_seq (WS_block (WS_seq (WS_regD [] ?_))); simp [t0,t4,t5,t6,t7,hjI,hjl,hlt,hltI,hat,hmq,h1];refine callD ad rfl ?_; simp [t0,t4,t5,t6,t7,hjI,hjl,hlt,hltI,hat,hmq,h1];refine ⟨by kernel_rfl,?_⟩;refine WS_seq (WS_regD [] ?_); simp [t0,t4,t5,t6,t7,hjI,hjl,hlt,hltI,hat,hmq,h1];refine callD o1 rfl ?_; simp [t0,t4,t5,t6,t7,hjI,hjl,hlt,hltI,hat,hmq,h1];refine callD c1 rfl ?_; simp [t0,t4,t5,t6,t7,hjI,hjl,hlt,hltI,hat,hmq,h1];refine ⟨by kernel_rfl,?_⟩;refine WS_cT (by simp [t0,t4,t5,t6,t7,hjI,hjl,hlt,hltI,hat,hmq,h1]) ?_;refine Wr ?_; simp [t0,t4,t5,t6,t7,hjI,hjl,hlt,hltI,hat,hmq,h1];refine WS_ret ?_; simp [t0,t4,t5,t6,t7,hjI,hjl,hlt,hltI,hat,hmq,h1]
     . by_cases h2:a2<0
       . obtain rfl:=hvf (hfi.2 (.inr h2));refine Ws ?_; simp [t0,t4,t5,t6,t7,hjI,hjl,hlt,hltI,hat,hmq,h1,h2];refine WS_cT (by simp [t0,t4,t5,t6,t7,hjI,hjl,hlt,hltI,hat,hmq,h1,h2]) ?_;refine WS_skip ?_; simp [t0,t4,t5,t6,t7,hjI,hjl,hlt,hltI,hat,hmq,h1,h2];refine WS_seq (WS_block (WS_seq (WS_regD [] ?_))); simp [t0,t4,t5,t6,t7,hjI,hjl,hlt,hltI,hat,hmq,h1,h2];refine callD ad rfl ?_; simp [t0,t4,t5,t6,t7,hjI,hjl,hlt,hltI,hat,hmq,h1,h2];refine ⟨by kernel_rfl,?_⟩;refine WS_seq (WS_regD [] ?_); simp [t0,t4,t5,t6,t7,hjI,hjl,hlt,hltI,hat,hmq,h1,h2];refine callD o1 rfl ?_; simp [t0,t4,t5,t6,t7,hjI,hjl,hlt,hltI,hat,hmq,h1,h2];refine callD c1 rfl ?_; simp [t0,t4,t5,t6,t7,hjI,hjl,hlt,hltI,hat,hmq,h1,h2];refine callD o2 rfl ?_; simp [t0,t4,t5,t6,t7,hjI,hjl,hlt,hltI,hat,hmq,h1,h2];refine callD c2 rfl ?_; simp [t0,t4,t5,t6,t7,hjI,hjl,hlt,hltI,hat,hmq,h1,h2];refine ⟨by kernel_rfl,?_⟩;refine WS_cT (by simp [t0,t4,t5,t6,t7,hjI,hjl,hlt,hltI,hat,hmq,h1,h2]) ?_;refine Wr ?_; simp [t0,t4,t5,t6,t7,hjI,hjl,hlt,hltI,hat,hmq,h1,h2];refine WS_ret ?_; simp [t0,t4,t5,t6,t7,hjI,hjl,hlt,hltI,hat,hmq,h1,h2]
       . have hff:farB b w i j=false:=by
          cases hc:farB b w i j with
          | false=>rfl
          | true=>rcases hfi.1 hc with h | h<;>contradiction
         refine Ws ?_; simp [t0,t4,t5,t6,t7,hjI,hjl,hlt,hltI,hat,hmq,h1,h2,wj];refine WS_cT (by simp [t0,t4,t5,t6,t7,hjI,hjl,hlt,hltI,hat,hmq,h1,h2,wj]) ?_;refine WS_skip ?_; simp [t0,t4,t5,t6,t7,hjI,hjl,hlt,hltI,hat,hmq,h1,h2,wj];refine WS_seq (WS_block (WS_seq (WS_regD [] ?_))); simp [t0,t4,t5,t6,t7,hjI,hjl,hlt,hltI,hat,hmq,h1,h2,wj];refine callD ad rfl ?_; simp [t0,t4,t5,t6,t7,hjI,hjl,hlt,hltI,hat,hmq,h1,h2,wj];refine ⟨by kernel_rfl,?_⟩;refine WS_seq (WS_regD [] ?_); simp [t0,t4,t5,t6,t7,hjI,hjl,hlt,hltI,hat,hmq,h1,h2,wj];refine callD o1 rfl ?_; simp [t0,t4,t5,t6,t7,hjI,hjl,hlt,hltI,hat,hmq,h1,h2,wj];refine callD c1 rfl ?_; simp [t0,t4,t5,t6,t7,hjI,hjl,hlt,hltI,hat,hmq,h1,h2,wj];refine callD o2 rfl ?_; simp [t0,t4,t5,t6,t7,hjI,hjl,hlt,hltI,hat,hmq,h1,h2,wj];refine callD c2 rfl ?_; simp [t0,t4,t5,t6,t7,hjI,hjl,hlt,hltI,hat,hmq,h1,h2,wj];refine ⟨by kernel_rfl,?_⟩;refine WS_cF (by simp [t0,t4,t5,t6,t7,hjI,hjl,hlt,hltI,hat,hmq,h1,h2,wj]) ?_;refine WS_skip ?_; simp [t0,t4,t5,t6,t7,hjI,hjl,hlt,hltI,hat,hmq,h1,h2,wj];refine WS_reg [] ?_; simp [t0,t4,t5,t6,t7,hjI,hjl,hlt,hltI,hat,hmq,h1,h2,wj];refine ⟨⟨j+1,by omega,by simp [t0],by simp [t4],by simp [t5],by simp [t6],by simp,λj' hj'=>?_⟩,?_⟩
         . by_cases e:j'=j
           . subst e; exact hff
           . exact hf j' (by omega)
         . rw [d7,nM_eq (i:=7) (n:=j+1) (by simp)]; omega
   . obtain rfl:j=i:=by omega
     have hjI:¬ (j:Int)<(j:Int):=by omega
     by_cases h0:j=0
     . have h0I:(j:Int)=0:=by omega
       refine Ws ?_; simp [t0,t4,t5,t6,t7,hjI,h0I,h0,wi];refine WS_cF (by simp [t0,t4,t5,t6,t7,hjI,h0I,h0,wi]) ?_;refine WS_exit ?_; simp [t0,t4,t5,t6,t7,hjI,h0I,h0,wi];refine Ws ?_; simp [t0,t4,t5,t6,t7,hjI,h0I,h0,wi];refine WS_cT (by simp [t0,t4,t5,t6,t7,hjI,h0I,h0,wi]) ?_;refine WS_exit ?_; simp [t0,t4,t5,t6,t7,hjI,h0I,h0,wi];refine WS_reg [] ?_; simp [t0,t4,t5,t6,t7,hjI,h0I,h0,wi];refine ⟨⟨j+1,by omega,by simp [t0],by simp [t4],by simp [t5],by simp [h0,w1],redP_succ hp hf λh=>by omega⟩,?_⟩;rw [d6,nM_eq (i:=6) (n:=j+1) (by simp [h0,w1])]; omega
     . have h0I:¬ (j:Int)=0:=by omega
       have wp:=i64_pred j (by omega) (by omega);have hj1:j-1<j:=by omega
       have hj1n:j-1<n:=by omega
       have hj1I:((j-1:Nat):Int)<(j:Int):=by omega
       have hj1nI:((j-1:Nat):Int)<(n:Int):=by omega
       have hat:=mR_at (b:=b) (w:=w) hlt;have hmq:=qL_at (f:=muQ b w j) hj1;have hs1:=qL_at (f:=ss b w) hj1n;have hs2:=qL_at (f:=ss b w) hlt;rw [Q_eq] at hmq hs1 hs2;have qm:=G.x (j-1) j hj1 hlt;have qs1:QL 32768 (ss b w (j-1)):=G.sq (j-1) w hj1n (Nat.le_refl _);have qs2:QL 32768 (ss b w j):=G.sq j w hlt (Nat.le_refl _);have m1:=rmul3 (isQ_Q qm) (isQ_Q qm) (by omega);have sb:=rsub3 (q34.mono (show 1<=2*32768+1 by omega)) (isQ_Q (ql_mul qm qm)) (by omega);have qq:=ql_sub (q34.ql.mono (show 1+1<=2*32768+1 by omega)) (ql_mul qm qm);have m2:=rmul3 (isQ_Q qq) (isQ_Q (qs1.mono (by omega))) (by omega);have cm:=rcmp3 (isQ_Q (qs2.mono (by omega))) (isQ_Q (ql_mul qq (qs1.mono (by omega)))) (by omega);have hfi:=fall_iff H (by omega) hlt;rw [show leastQ b w j=(mkRat 3 4-muQ b w j (j-1)*muQ b w j (j-1))*ss b w (j-1) from rfl] at hfi;obtain ⟨a1,ha1⟩:∃ a,a=(ss b w j-(mkRat 3 4-muQ b w j (j-1)*muQ b w j (j-1))*ss b w (j-1)).num.sign:=⟨_,rfl⟩;rw [<- ha1] at cm hfi;obtain ⟨x,hxx⟩:∃ x,x=muQ b w j (j-1):=⟨_,rfl⟩;obtain ⟨z1,hz1⟩:∃ z,z=ss b w (j-1):=⟨_,rfl⟩;obtain ⟨z2,hz2⟩:∃ z,z=ss b w j:=⟨_,rfl⟩;rw [<- hxx] at hmq m1 sb m2 cm;rw [<- hz1] at hs1 m2 cm;rw [<- hz2] at hs2 cm;obtain ⟨xx,hxx2⟩:∃ z,z=x*x:=⟨_,rfl⟩;rw [<- hxx2] at m1 sb m2 cm;obtain ⟨u,hu⟩:∃ z,z=mkRat 3 4-xx:=⟨_,rfl⟩;rw [<- hu] at sb m2 cm;obtain ⟨l,hl⟩:∃ z,z=u*z1:=⟨_,rfl⟩;rw [<- hl] at m2 cm;by_cases h1:a1<0
       . obtain rfl:v=false:=by
          cases v with
          | false=>rfl
          | true=>
           have:=(hv.1 rfl j hlt).2 (by omega);rw [hfi.2 h1] at this; cases this
         refine Ws ?_; simp [t0,t4,t5,t6,t7,hjI,h0I,h0,wp,hj1,hj1n,hj1I,hj1nI,hlt,hltI,hat,hmq,hs1,hs2,h1];refine WS_cF (by simp [t0,t4,t5,t6,t7,hjI,h0I,h0,wp,hj1,hj1n,hj1I,hj1nI,hlt,hltI,hat,hmq,hs1,hs2,h1]) ?_;refine WS_exit ?_; simp [t0,t4,t5,t6,t7,hjI,h0I,h0,wp,hj1,hj1n,hj1I,hj1nI,hlt,hltI,hat,hmq,hs1,hs2,h1];refine Ws ?_; simp [t0,t4,t5,t6,t7,hjI,h0I,h0,wp,hj1,hj1n,hj1I,hj1nI,hlt,hltI,hat,hmq,hs1,hs2,h1];refine WS_cF (by simp [t0,t4,t5,t6,t7,hjI,h0I,h0,wp,hj1,hj1n,hj1I,hj1nI,hlt,hltI,hat,hmq,hs1,hs2,h1]) ?_;refine WS_skip ?_; simp [t0,t4,t5,t6,t7,hjI,h0I,h0,wp,hj1,hj1n,hj1I,hj1nI,hlt,hltI,hat,hmq,hs1,hs2,h1];refine Wr ?_; simp [t0,t4,t5,t6,t7,hjI,h0I,h0,wp,hj1,hj1n,hj1I,hj1nI,hlt,hltI,hat,hmq,hs1,hs2,h1];refine Wr ?_; simp [t0,t4,t5,t6,t7,hjI,h0I,h0,wp,hj1,hj1n,hj1I,hj1nI,hlt,hltI,hat,hmq,hs1,hs2,h1];refine callP o3 rfl ?_;simp [t0,t4,t5,t6,t7,hjI,h0I,h0,wp,hj1,hj1n,hj1I,hj1nI,hlt,hltI,hat,hmq,hs1,hs2,h1];refine WS_seq (WS_regD [] ?_); simp [t0,t4,t5,t6,t7,hjI,h0I,h0,wp,hj1,hj1n,hj1I,hj1nI,hlt,hltI,hat,hmq,hs1,hs2,h1];refine callD m1 rfl ?_; simp [t0,t4,t5,t6,t7,hjI,h0I,h0,wp,hj1,hj1n,hj1I,hj1nI,hlt,hltI,hat,hmq,hs1,hs2,h1];refine callD sb rfl ?_; simp [t0,t4,t5,t6,t7,hjI,h0I,h0,wp,hj1,hj1n,hj1I,hj1nI,hlt,hltI,hat,hmq,hs1,hs2,h1];refine callD m2 rfl ?_; simp [t0,t4,t5,t6,t7,hjI,h0I,h0,wp,hj1,hj1n,hj1I,hj1nI,hlt,hltI,hat,hmq,hs1,hs2,h1];refine ⟨by kernel_rfl,?_⟩;refine WS_seq (WS_regD [] ?_); simp [t0,t4,t5,t6,t7,hjI,h0I,h0,wp,hj1,hj1n,hj1I,hj1nI,hlt,hltI,hat,hmq,hs1,hs2,h1];refine callD cm rfl ?_; simp [t0,t4,t5,t6,t7,hjI,h0I,h0,wp,hj1,hj1n,hj1I,hj1nI,hlt,hltI,hat,hmq,hs1,hs2,h1];refine ⟨by kernel_rfl,?_⟩;refine WS_cT (by simp [t0,t4,t5,t6,t7,hjI,h0I,h0,wp,hj1,hj1n,hj1I,hj1nI,hlt,hltI,hat,hmq,hs1,hs2,h1]) ?_;refine Wr ?_; simp [t0,t4,t5,t6,t7,hjI,h0I,h0,wp,hj1,hj1n,hj1I,hj1nI,hlt,hltI,hat,hmq,hs1,hs2,h1];refine WS_ret ?_; simp [t0,t4,t5,t6,t7,hjI,h0I,h0,wp,hj1,hj1n,hj1I,hj1nI,hlt,hltI,hat,hmq,hs1,hs2,h1]
       . have hff:fallB b w j=false:=by
          cases hc:fallB b w j with
          | false=>rfl
          | true=>exact absurd (hfi.1 hc) h1
         refine Ws ?_; simp [t0,t4,t5,t6,t7,hjI,h0I,h0,wp,hj1,hj1n,hj1I,hj1nI,hlt,hltI,hat,hmq,hs1,hs2,h1,wi];refine WS_cF (by simp [t0,t4,t5,t6,t7,hjI,h0I,h0,wp,hj1,hj1n,hj1I,hj1nI,hlt,hltI,hat,hmq,hs1,hs2,h1,wi]) ?_;refine WS_exit ?_; simp [t0,t4,t5,t6,t7,hjI,h0I,h0,wp,hj1,hj1n,hj1I,hj1nI,hlt,hltI,hat,hmq,hs1,hs2,h1,wi];refine Ws ?_; simp [t0,t4,t5,t6,t7,hjI,h0I,h0,wp,hj1,hj1n,hj1I,hj1nI,hlt,hltI,hat,hmq,hs1,hs2,h1,wi];refine WS_cF (by simp [t0,t4,t5,t6,t7,hjI,h0I,h0,wp,hj1,hj1n,hj1I,hj1nI,hlt,hltI,hat,hmq,hs1,hs2,h1,wi]) ?_;refine WS_skip ?_; simp [t0,t4,t5,t6,t7,hjI,h0I,h0,wp,hj1,hj1n,hj1I,hj1nI,hlt,hltI,hat,hmq,hs1,hs2,h1,wi];refine Wr ?_; simp [t0,t4,t5,t6,t7,hjI,h0I,h0,wp,hj1,hj1n,hj1I,hj1nI,hlt,hltI,hat,hmq,hs1,hs2,h1,wi];refine Wr ?_; simp [t0,t4,t5,t6,t7,hjI,h0I,h0,wp,hj1,hj1n,hj1I,hj1nI,hlt,hltI,hat,hmq,hs1,hs2,h1,wi];refine callP o3 rfl ?_;simp [t0,t4,t5,t6,t7,hjI,h0I,h0,wp,hj1,hj1n,hj1I,hj1nI,hlt,hltI,hat,hmq,hs1,hs2,h1,wi];refine WS_seq (WS_regD [] ?_); simp [t0,t4,t5,t6,t7,hjI,h0I,h0,wp,hj1,hj1n,hj1I,hj1nI,hlt,hltI,hat,hmq,hs1,hs2,h1,wi];refine callD m1 rfl ?_; simp [t0,t4,t5,t6,t7,hjI,h0I,h0,wp,hj1,hj1n,hj1I,hj1nI,hlt,hltI,hat,hmq,hs1,hs2,h1,wi];refine callD sb rfl ?_; simp [t0,t4,t5,t6,t7,hjI,h0I,h0,wp,hj1,hj1n,hj1I,hj1nI,hlt,hltI,hat,hmq,hs1,hs2,h1,wi];refine callD m2 rfl ?_; simp [t0,t4,t5,t6,t7,hjI,h0I,h0,wp,hj1,hj1n,hj1I,hj1nI,hlt,hltI,hat,hmq,hs1,hs2,h1,wi];refine ⟨by kernel_rfl,?_⟩;refine WS_seq (WS_regD [] ?_); simp [t0,t4,t5,t6,t7,hjI,h0I,h0,wp,hj1,hj1n,hj1I,hj1nI,hlt,hltI,hat,hmq,hs1,hs2,h1,wi];refine callD cm rfl ?_; simp [t0,t4,t5,t6,t7,hjI,h0I,h0,wp,hj1,hj1n,hj1I,hj1nI,hlt,hltI,hat,hmq,hs1,hs2,h1,wi];refine ⟨by kernel_rfl,?_⟩;refine WS_cF (by simp [t0,t4,t5,t6,t7,hjI,h0I,h0,wp,hj1,hj1n,hj1I,hj1nI,hlt,hltI,hat,hmq,hs1,hs2,h1,wi]) ?_;refine WS_skip ?_; simp [t0,t4,t5,t6,t7,hjI,h0I,h0,wp,hj1,hj1n,hj1I,hj1nI,hlt,hltI,hat,hmq,hs1,hs2,h1,wi];refine WS_reg [] ?_; simp [t0,t4,t5,t6,t7,hjI,h0I,h0,wp,hj1,hj1n,hj1I,hj1nI,hlt,hltI,hat,hmq,hs1,hs2,h1,wi];refine ⟨⟨j+1,by omega,by simp [t0],by simp [t4],by simp [t5],by simp,redP_succ hp hf λ_=>hff⟩,?_⟩;rw [d6,nM_eq (i:=6) (n:=j+1) (by simp)]; omega
 . obtain rfl:i=n:=by omega
   have hltI:¬ (i:Int)<(i:Int):=by omega
   obtain rfl:v=true:=hv.2 hp;refine Ws ?_; simp [s0,s4,s5,s6,hltI,hx];refine WS_cF (by simp [s0,s4,s5,s6,hltI,hx]) ?_;refine WS_exit ?_; simp [s0,s4,s5,s6,hltI,hx];refine Wr ?_; simp [s0,s4,s5,s6,hltI,hx];refine WS_ret ?_; simp [s0,s4,s5,s6,hltI,hx]
theorem lim_few {k n w:Nat} {xs:List V} {L:List (List Int)} (hL:IsL k xs L) (hk:k<=2) (hn:n<=5) (hw:w<=7) (hI:Ind (bOf L) n w):Lim (bOf L) n w:=by
 obtain ⟨B,hB⟩:∃ B:Int,B=18446744073709551616:=⟨_,rfl⟩;have hp:=par_few (n:=n) (B:=B) (by omega) hn hB;have hd:∀ t,t<=n->bD (bOf L) w t<=B^31:=λt ht=>by rw [hB]; exact bD_few hL hk hw hn hI ht
 have hnb:∀ a,nb (bOf L) w a<=B^32:=λa=>by rw [hB]; exact nb_few hL hk hw a
 have h1:=hp.mono (Nat.zero_le n);rw [Int.pow_zero,Int.mul_one] at h1;exact lim_of hp hI hd λa _=>Int.le_trans (hnb a) h1
theorem bOf_len {k:Nat} {xs:List V} {L:List (List Int)} (hL:IsL k xs L) (a c:Nat):zlen (bOf L a c)<=k:=by
 by_cases h:a<L.length
 . obtain ⟨vs,_,pv⟩:=hL.row a (by rw [hL.len]; exact h);exact pv.pl c
 . rw [bOf_out h,zlen_zero]; omega
theorem ind_of {n w:Nat} {L:List (List Int)} (ho:okL L) (hn:L.length=n) (hw0:(L.getD 0 []).length=w) (hd:detZ L.length (gm L)≠0):(∀ t,t<n->brM (gW L w) t t t≠0)/\Ind (bOf L) n w:=by
 have h1:=(basis_iff ho).1.2 hd;rw [hw0,hn] at h1;refine ⟨h1,?_⟩;rw [gW_eq] at h1;exact h1
set_option maxHeartbeats 4000000 in
theorem lreduced_no {k:Nat} {xs:List V} {L:List (List Int)} (hL:IsL k xs L) (hk:k<=2^12) (hn:xs.length<=2^40) (hw:∀ i,i<xs.length->(L.getD i []).length<=2^40) (hr:¬ (okL L/\detZ L.length (gm L)≠0)):
 Spec Tryz.prog f_lattice_Reduced [.sl none xs] (· =[.pure (.b false),.pure (.i .i64 1)]):=by
 have hr':¬ (okL L/\∀ t,t<L.length->brM (gW L (L.getD 0 []).length) t t t≠0):=λh=>hr ⟨h.1,(basis_iff h.1).1.1 h.2⟩;have st:=λ(h:Nat->HC) (hf:∀ q,q<xs.length+20->(h (q+1000)).o=none)=>lstripped hL hk hn hw hf false (by simpa using hr');refine spec_at Tryz.func54 ok_lattice_Reduced [] rfl (by simp) ?_;unfold sc_lattice_Reduced;refine Wr ?_; simp;refine Wr ?_; simp;refine callX ?_;refine mcall _ (st _ λq _=>by simp) (by simp) ?_;rintro H g svs hhn hhf ⟨Gd,Gm,j,rfl,_⟩;simp;refine Ws ?_; simp;refine WS_cT (by simp) ?_;refine Wr ?_; simp;refine WS_ret ?_; simp
theorem reds_same {xs:List V} {L:List (List Int)} (hL:IsL 2 xs L) (hn:xs.length<=5) (hw:∀ i,(L.getD i []).length<=7):
 ∃ (v:Bool) (e:Int),Spec Tryz.prog f_lattice_Reduced [.sl none xs] (· =[.pure (.b v),.pure (.i .i64 e)])/\Spec Tryz.prog f_ref14_Reduced [.sl none xs] (· =[.pure (.b v),.pure (.i .i64 e)]):=by
 have hw40:∀ i,i<xs.length->(L.getD i []).length<=2^40:=λi _=>by have:=hw i; omega
 obtain ⟨r,hr⟩:=boolP (okL L/\detZ L.length (gm L)≠0);have bs:=rbasis_at hL (by omega) (by omega) hw40 r hr;cases r with
 | true=>
  obtain ⟨ho,hd⟩:=hr.1 rfl;have hlen:=hL.len;obtain ⟨w,hw0⟩:∃ w,(L.getD 0 []).length=w:=⟨_,rfl⟩;have hw7:w<=7:=by have:=hw 0; omega
  obtain ⟨hnz,hI⟩:=ind_of ho hlen.symm hw0 hd;have hwid:∀ a,a<xs.length->(L.getD a []).length=w:=λa ha=>by rw [<- hw0]; exact (ho.2 a (by omega)).2
  obtain ⟨v,hv⟩:=boolP (redP (bOf L) xs.length w);exact ⟨v,0,lreduced hL (by omega) rfl hw0 ho hnz (lim_few hL (by omega) hn hw7 hI) v hv,rreduced hL rfl hwid hI (gsB hI (λa c _ _=>bOf_len hL a c) hn hw7 (by omega)) (by omega) (by omega) (by omega) bs v hv⟩
 | false=>exact ⟨false,1,lreduced_no hL (by omega) (by omega) hw40 (by simpa using hr),rreduced_no bs⟩
def crG (L:List (List Int)) (v:List Int) (W i a c:Nat):Int:=if a=i then dtZ v (L.getD c []) W else gm L a c
theorem dz_addmul (f g u:Nat->Int) (q:Int):∀ w,dz (λk=>f k+q*g k) u w=dz f u w+q*dz g u w
 | 0=>by simp [dz]
 | w+1=>by rw [dz,dz,dz,dz_addmul f g u q w]; grind
theorem dz_congr {f g u:Nat->Int}:∀ {w:Nat},(∀ c,c<w->f c=g c)->dz f u w=dz g u w
 | 0,_=>rfl
 | w+1,h=>by rw [dz,dz,dz_congr (λc hc=>h c (by omega)),h w (by omega)]
def smG (x:Nat->Int) (G:Nat->Nat->Int) (c:Nat):Nat->Int
 | 0=>0
 | n+1=>smG x G c n+x n*G n c
theorem smG_dz (x:Nat->Int) (b:Nat->Nat->Int) (w c:Nat):∀ n,dz (λk=>smI x b k n) (b c) w=smG x (gz b w) c n
 | 0=>by
  have:∀ w,dz (λ_=>0) (b c) w=0:=λw=>by
   induction w with
   | zero=>rfl
   | succ w ih=>rw [dz,ih]; simp
  exact this w
 | n+1=>by
  show dz (λk=>smI x b k n+x n*b n k) (b c) w=_;rw [dz_addmul,smG_dz x b w c n]; rfl
theorem det_smG {n i:Nat} (x:Nat->Int) (G:Nat->Nat->Int) (hi:i<n):∀ m,m<=n->det n (Rw (λr c=>((G r c:Int):Rat)) i (λc=>((smG x G c m:Int):Rat)))=if i<m then (x i:Rat)*det n (λr c=>((G r c:Int):Rat)) else 0
 | 0,_=>by
  have h:=det_lin (λr c=>((G r c:Int):Rat)) (λ_=>0) (λ_=>0) 0 0 hi;have e:(λc=>((smG x G c 0:Int):Rat))=λc:Nat=>(0:Rat)*(λ_=>0) c+0*(λ_=>0) c:=by funext c; show ((0:Int):Rat)=_; grind
  rw [e,h,if_neg (by omega)]; grind
 | m+1,hm=>by
  have h:=det_lin (λr c=>((G r c:Int):Rat)) (λc=>((smG x G c m:Int):Rat)) (λc=>((G m c:Int):Rat)) 1 (x m:Rat) hi;have e:(λc=>((smG x G c (m+1):Int):Rat))=λc:Nat=>(1:Rat)*(λc=>((smG x G c m:Int):Rat)) c+(x m:Rat)*(λc=>((G m c:Int):Rat)) c:=by
   funext c; rw [smG]; push_cast; grind
  rw [e,h,det_smG x G hi m (by omega)];by_cases em:m=i
  . subst em;have e2:Rw (λr c=>((G r c:Int):Rat)) m (λc=>((G m c:Int):Rat))=λr c=>((G r c:Int):Rat):=Rw_self (λr c=>((G r c:Int):Rat)) m;rw [e2,if_neg (by omega),if_pos (by omega)]; grind
  . have z:det n (Rw (λr c=>((G r c:Int):Rat)) i (λc=>((G m c:Int):Rat)))=0:=det_eqrows (p:=i) (q:=m) hi (by omega) (λe=>em e.symm) λc=>by
     unfold Rw; rw [if_pos rfl,if_neg em]
    rw [z];by_cases h1:i<m
    . rw [if_pos h1,if_pos (by omega)]; grind
    . rw [if_neg h1,if_neg (by omega)]; grind
section
variable {L:List (List Int)} {v:List Int} {n W:Nat}
theorem gm_gz (hwid:∀ a,a<n->(L.getD a []).length=W) {a c:Nat} (ha:a<n):gm L a c=gz (bOf L) W a c:=by
 unfold gm gz;rw [hwid a ha,dtZ_dz]; rfl
theorem cramer (hwid:∀ a,a<n->(L.getD a []).length=W) {x:Nat->Int} (hx:∀ c,c<W->cf v c=smI x (bOf L) c n) {i:Nat} (hi:i<n):detZ n (crG L v W i)=x i*detZ n (gm L):=by
 have e:((detZ n (crG L v W i):Int):Rat)=((x i*detZ n (gm L):Int):Rat):=by
  rw [Rat.intCast_mul,<-det_cast,<-det_cast];have h1:det n (λr c=>((gm L r c:Int):Rat))=det n (λr c=>((gz (bOf L) W r c:Int):Rat)):=det_congr λr c hr hc=>by rw [gm_gz hwid hr]
  have h2:=det_smG x (gz (bOf L) W) hi n (Nat.le_refl _);rw [if_pos hi] at h2;rw [h1,<-h2];refine det_congr λr c hr hc=>?_;unfold Rw crG;by_cases er:r=i
  . rw [if_pos er,if_pos er,dtZ_dz];show _=((smG x (gz (bOf L) W) c n:Int):Rat);rw [<- smG_dz];congr 1;exact dz_congr λk hk=>hx k hk
  . rw [if_neg er,if_neg er,gm_gz hwid hr]
 exact_mod_cast e
def crX (L:List (List Int)) (v:List Int) (n W i:Nat):Int:=detZ n (crG L v W i) / detZ n (gm L)
theorem crX_eq (hwid:∀ a,a<n->(L.getD a []).length=W) (h0:detZ n (gm L)≠0) {x:Nat->Int} (hx:∀ c,c<W->cf v c=smI x (bOf L) c n) {i:Nat} (hi:i<n):detZ n (crG L v W i)%detZ n (gm L)=0/\crX L v n W i=x i:=by
 have h:=cramer hwid hx hi;unfold crX;rw [h];exact ⟨Int.mul_emod_left _ _,Int.mul_ediv_cancel _ h0⟩
theorem smI_congr {x y:Nat->Int} {b:Nat->Nat->Int} {c:Nat}:∀ {m:Nat},(∀ t,t<m->x t=y t)->smI x b c m=smI y b c m
 | 0,_=>rfl
 | m+1,h=>by rw [smI,smI,smI_congr λt ht=>h t (by omega),h m (by omega)]
end
theorem smI_len {x:Nat->Int} {b:Nat->Nat->Int} {c p q:Nat}:∀ m,(∀ t,t<m->zlen (x t)<=p)->(∀ t,t<m->zlen (b t c)<=q)->zlen (smI x b c m)<=p+q+m
 | 0,_,_=>by rw [smI,zlen_zero]; omega
 | m+1,h1,h2=>by
  rw [smI];have a:=smI_len m (λt ht=>h1 t (by omega)) (λt ht=>h2 t (by omega));have b':=zlen_add (smI x b c m) (x m*b m c);have c':=zlen_mul (x m) (b m c);have d:=h1 m (by omega);have e:=h2 m (by omega);omega
def crT (L:List (List Int)) (v:List Int) (W i a c:Nat):Int:=if a<L.length/\c<L.length then crG L v W i a c else 0
theorem crT_abs {k:Nat} {xs:List V} {L:List (List Int)} {v:List Int} {W:Nat} (hL:IsL k xs L) (ho:okL L) (hv:PL k v) (hW:W<=64) (i a c:Nat):(crT L v W i a c).natAbs<=18446744073709551616^(2*k+64):=by
 unfold crT;split
 . next h=>
   refine Nat.le_of_lt (lt_zlen' ?_);unfold crG;by_cases e:a=i
   . rw [if_pos e];obtain ⟨vs,_,pv⟩:=hL.row c (by rw [hL.len]; exact h.2);have:=dtZ_len hv pv.pl W;omega
   . rw [if_neg e]; exact gm_lim hL ho h.1 h.2
 . simp
theorem crdetT {L:List (List Int)} {v:List Int} {W i:Nat}:detZ L.length (crT L v W i)=detZ L.length (crG L v W i):=by
 have:((detZ L.length (crT L v W i):Int):Rat)=((detZ L.length (crG L v W i):Int):Rat):=by
  rw [<- det_cast,<-det_cast];exact det_congr λr c hr hc=>by unfold crT; rw [if_pos ⟨hr,hc⟩]
 exact_mod_cast this
theorem crdet_lim {k:Nat} {xs:List V} {L:List (List Int)} {v:List Int} {W:Nat} (hL:IsL k xs L) (ho:okL L) (hv:PL k v) (hW:W<=64) (hk:k<=2^12) (i:Nat):zlen (detZ L.length (crG L v W i))<=2^20:=by
 rw [<- crdetT];exact Nat.le_trans (det_lim2 ho.1 (Nat.le_refl _) (detZ_abs (crT_abs hL ho hv hW i))) (det_small ho.1 hk)
theorem rcdet {h:Nat->HC} {k G:Nat} {γ:Nat->Nat} {xs:List V} {L:List (List Int)} {v:List Int} {W i:Nat} (hL:IsL k xs L) (ho:okL L) (hv:PL k v) (hW:W<=64) (hk:k<=2^12) (H:Mat h 0 G xs.length xs.length (· +1) γ (crG L v W i)):
 FrM Tryz.prog f_ref11_Det h (fpM 0 xs.length (· +1)) [.own (0+1000) G 0 xs.length] (λ_ svs=>svs=[.p (Z (detZ L.length (crG L v W i)))]):=by
 have hl:=hL.len;have h1:=rdet (C:=18446744073709551616^(2*k+64)) (K:=2^20) (M0:=crT L v W i) (H.eqM λa c ha hc=>by unfold crT; rw [if_pos ⟨by omega,by omega⟩]) (by have:=ho.1; omega) (crT_abs hL ho hv hW i)
  (λt ht z hz=>Nat.le_trans (det_lim2 (n:=xs.length) (by have:=ho.1; omega) ht hz) (det_small (by have:=ho.1; omega) hk)) (by omega)
 rw [hl,crdetT] at h1;rw [hl];exact h1
theorem zlen_div_le (x y:Int) (h:x%y=0):zlen (x / y)<=zlen x:=by
 by_cases h0:y=0
 . subst h0; rw [Int.ediv_zero,zlen_zero]; omega
 . refine zlen_lt ?_;have h1:=lt_zlen' (z:=x) (Nat.le_refl (zlen x));refine Nat.lt_of_le_of_lt ?_ h1;have h2:y*(x / y)=x:=by have:=Int.mul_ediv_add_emod x y; rw [h] at this; omega
   have h3:x.natAbs=y.natAbs*(x / y).natAbs:=by rw [<- Int.natAbs_mul,h2]
   rw [h3];exact Nat.le_mul_of_pos_left _ (by omega)
def crK (L:List (List Int)) (v:List Int) (W i c a b:Nat):Int:=if a=i/\b<c then dtZ v (L.getD b []) W else gm L a b
theorem crK_set (L:List (List Int)) (v:List Int) (W i c:Nat):setM (crK L v W i c) i c (dtZ v (L.getD c []) W)=crK L v W i (c+1):=by
 funext a b;unfold setM crK;by_cases h:a=i/\b=c
 . rw [if_pos h,if_pos (by omega),h.2]
 . rw [if_neg h];by_cases h2:a=i/\b<c
   . rw [if_pos h2,if_pos (by omega)]
   . rw [if_neg h2,if_neg (by omega)]
def RiK (S:St) (L:List (List Int)) (v:List Int) (W i G n:Nat) (γ:Nat->Nat) (S':St):Prop:=
 ∃ c,c<=n/\Mat S'.h 0 G n n (· +1) γ (crK L v W i c)/\S'.σ 10= .p (.i .i64 (c:Int))/\(∀ t,t<=9->S'.σ t=S.σ t)/\∀ q,q<1000->S'.h q=S.h q
def RiS (S:St) (x:Nat->Int) (b:Nat->Nat->Int) (c g14 n:Nat) (S':St):Prop:=
 ∃ t,t<=n/\S'.h 14=⟨g14,some (.box 28 [.b (zn (smI x b c t)),.sl none (uL (zl (smI x b c t)))])⟩/\S'.σ 15= .p (.i .i64 (t:Int))/\(∀ u,u<=14->S'.σ u=S.σ u)/\∀ q,q≠14->S'.h q=S.h q
attribute [local simp] rowsS_length rowsS_at
set_option maxHeartbeats 4000000 in
theorem ri_put {Q':Exit->St->Prop} {S:St} {k n W i G:Nat} {γ:Nat->Nat} {xs vs:List V} {L:List (List Int)} {v:List Int} (hL:IsL k xs L) (hv:IsP k vs v) (hx:xs.length=n) (hwid:∀ a,a<n->(L.getD a []).length=W) (hW:vs.length=W) (hi:i<n) (hn:n<=64) (hW64:W<=64) (hk:k<=2^12)
 (s0:S.σ 0= .p (.sl none xs)) (s1:S.σ 1= .p (.sl (some 2) vs)) (s8:S.σ 8= .p (.i .i64 (i:Int))) (s9:S.σ 9= .own 1000 G 0 n) (HM:Mat S.h 0 G n n (· +1) γ (gm L))
 (hQ:∀ S':St,Mat S'.h 0 G n n (· +1) γ (crG L v W i)->(∀ t,t<=9->S'.σ t=S.σ t)->(∀ q,q<1000->S'.h q=S.h q)->Q' .normal S'):
 WS Tryz.prog 110 sc_ref14_In.snd.snd.snd.snd.fst.snd.fst.fst.snd.fst.fst.snd.fst Q' S:=by
 unfold sc_ref14_In;simp only [SC.snd,SC.fst];refine Wr ?_; simp;refine WS_block ?_;refine WS_loop (RiK S L v W i G n γ) (λS=>n-nM 10 S) ⟨0,by omega,HM.congr (λq=>by simp) |>.eqM (λa b _ _=>by unfold crK; rw [if_neg (by omega)]),by simp,λt ht=>?_,λq _=>by simp⟩ ?_
 . simp only [upd_apply];repeat rw [if_neg (by omega)]
 rintro S1 ⟨c,hc,HM1,t10,hs,hh⟩;have d10:=nM_eq t10;have t0:=(hs 0 (by omega)).trans s0;have t1:=(hs 1 (by omega)).trans s1;have t8:=(hs 8 (by omega)).trans s8;have t9:=(hs 9 (by omega)).trans s9;by_cases hlt:c<n
 . have hltI:(c:Int)<(n:Int):=by omega
   have hiI:(i:Int)<(n:Int):=by omega
   have wc:=i64_succ c (by omega);have hcx:c<xs.length:=by omega
   have hcxI:(c:Int)<(xs.length:Int):=by omega
   obtain ⟨ws,hws,pw⟩:=hL.row c hcx;have lw:=pw.len;rw [hwid c hlt] at lw;have dt:=rdot hv pw (by omega) (by omega) (by omega);rw [hW] at dt;have htop:=HM1.top;have hrow:=HM1.row i hi;have hset:=crK_set L v W i c;obtain ⟨x,hxx⟩:∃ x,x=dtZ v (L.getD c []) W:=⟨_,rfl⟩;rw [<- hxx] at dt hset;obtain ⟨M,hM⟩:∃ M,M=crK L v W i c:=⟨_,rfl⟩;rw [<- hM] at HM1 hrow hset;refine Ws ?_; simp [t0,t1,t8,t9,t10,hx,hlt,hltI,hi,hiI,htop,hrow,hcx,hcxI,hws,wc];refine WS_cT (by simp [t0,t1,t8,t9,t10,hx,hlt,hltI,hi,hiI,htop,hrow,hcx,hcxI,hws,wc]) ?_;refine WS_skip ?_; simp [t0,t1,t8,t9,t10,hx,hlt,hltI,hi,hiI,htop,hrow,hcx,hcxI,hws,wc];refine WS_seq (WS_block (WS_regD [] ?_)); simp [t0,t1,t8,t9,t10,hx,hlt,hltI,hi,hiI,htop,hrow,hcx,hcxI,hws,wc];refine callD dt rfl ?_; simp [t0,t1,t8,t9,t10,hx,hlt,hltI,hi,hiI,htop,hrow,hcx,hcxI,hws,wc];refine ⟨by kernel_rfl,?_⟩;refine WS_reg [] ?_; simp [t0,t1,t8,t9,t10,hx,hlt,hltI,hi,hiI,htop,hrow,hcx,hcxI,hws,wc];refine ⟨⟨c+1,by omega,?_,by simp,λt ht=>?_,λq hq=>?_⟩,?_⟩
   . rw [<- hset];exact HM1.set hi x (by simp) λq hq=>by simp [hq]
   . simp only [upd_apply];repeat rw [if_neg (by omega)]
     exact hs t ht
   . simp only [upd_apply];repeat rw [if_neg (by omega)]
     exact hh q hq
   . rw [d10,nM_eq (i:=10) (n:=c+1) (by simp)]; omega
 . obtain rfl:c=n:=by omega
   have hltI:¬ (c:Int)<(c:Int):=by omega
   refine Ws ?_; simp [t0,t10,hx,hltI];refine WS_cF (by simp [t0,t10,hx,hltI]) ?_;refine WS_exit ?_; simp [t0,t10,hx,hltI];refine hQ _ (HM1.congr (λq=>by simp) |>.eqM λa b _ hb=>?_) (λt ht=>?_) λq hq=>by simpa using hh q hq
   . unfold crK crG;by_cases h:a=i
     . rw [if_pos h,if_pos ⟨h,hb⟩]
     . rw [if_neg h,if_neg λh'=>h h'.1]
   . simp only [upd_apply];repeat rw [if_neg (by omega)]
     exact hs t ht
set_option maxHeartbeats 4000000 in
theorem ri_sum {Q':Exit->St->Prop} {S:St} {k n W c g7 g14:Nat} {x:Nat->Int} {xs:List V} {L:List (List Int)} (hL:IsL k xs L) (hx:xs.length=n) (hwid:∀ a,a<n->(L.getD a []).length=W) (hc:c<W) (hn:n<=64) (hW:W<=64) (hk:k<=2^12) (hxl:∀ t,t<n->zlen (x t)<=2^20)
 (s0:S.σ 0= .p (.sl none xs)) (s7:S.σ 7= .own 7 g7 0 n) (h7:S.h 7=⟨g7,some (.arr 28 (some 2) (rowZ n x))⟩) (s13:S.σ 13= .p (.i .i64 (c:Int))) (s14:S.σ 14= .ptr 14 g14 0) (h14:S.h 14=⟨g14,some (.box 28 [.b (zn 0),.sl none (uL (zl 0))])⟩)
 (hQ:∀ S':St,S'.h 14=⟨g14,some (.box 28 [.b (zn (smI x (bOf L) c n)),.sl none (uL (zl (smI x (bOf L) c n)))])⟩->(∀ u,u<=14->S'.σ u=S.σ u)->(∀ q,q≠14->S'.h q=S.h q)->Q' .normal S'):
 WS Tryz.prog 110 sc_ref14_In.snd.snd.snd.snd.snd.fst.snd.fst.fst.snd.fst.fst.snd.fst Q' S:=by
 unfold sc_ref14_In;simp only [SC.snd,SC.fst];refine Wr ?_; simp;refine WS_block ?_;refine WS_loop (RiS S x (bOf L) c g14 n) (λS=>n-nM 15 S) ⟨0,by omega,by simp [h14,smI],by simp,λt ht=>?_,λq _=>by simp⟩ ?_
 . simp only [upd_apply];repeat rw [if_neg (by omega)]
 rintro S1 ⟨t,ht,k14,t15,hs,hh⟩;have d15:=nM_eq t15;have t0:=(hs 0 (by omega)).trans s0;have t7:=(hs 7 (by omega)).trans s7;have t13:=(hs 13 (by omega)).trans s13;have t14:=(hs 14 (by omega)).trans s14;have k7:=(hh 7 (by omega)).trans h7;by_cases hlt:t<n
 . have hltI:(t:Int)<(n:Int):=by omega
   have wt:=i64_succ t (by omega);have hcx:t<xs.length:=by omega
   have hcxI:(t:Int)<(xs.length:Int):=by omega
   obtain ⟨ws,hws,pw⟩:=hL.row t hcx;have lw:=pw.len;rw [hwid t hlt] at lw;have hcw:c<ws.length:=by omega
   have hcwI:(c:Int)<(ws.length:Int):=by omega
   have hcWI:(c:Int)<(W:Int):=by omega
   obtain ⟨b1,l1,e1,hz1,hzi1⟩:=pw.cell c hcw;have zx:=hxl t hlt;have zb:=pw.pl c;have mu:=rmul (isZ_of (x:=x t) (k:=2^20) zx) ((pw.get c hcw).mono (show k<=2^20 by omega)) (by omega);rw [e1] at mu;have q1:=zlen_mul (x t) (cf (L.getD t []) c);have q2:=smI_len (x:=x) (b:=bOf L) (c:=c) (p:=2^20) (q:=2^12) t (λu hu=>hxl u (by omega)) (λu hu=>by
    obtain ⟨_,_,pu⟩:=hL.row u (by omega);exact Nat.le_trans (pu.pl c) hk)
   have ad:=radd (isZ_of (x:=smI x (bOf L) c t) (k:=2^22) (by omega)) (isZ_of (x:=x t*cf (L.getD t []) c) (k:=2^22) (by omega)) (by omega);rw [show smI x (bOf L) c t+x t*cf (L.getD t []) c=smI x (bOf L) c (t+1) from rfl] at ad;have hat:(rowZ n x)[t]'(by rw [rowZ_length]; exact hlt)=Z (x t):=rowZ_at _;rw [Z_eq] at hat;obtain ⟨s,hss⟩:∃ s,s=smI x (bOf L) c t:=⟨_,rfl⟩;obtain ⟨y,hy⟩:∃ y,y=x t:=⟨_,rfl⟩;rw [<- hss] at k14 ad;rw [<- hy] at mu ad hat;refine Ws ?_; simp [t0,t7,t13,t14,t15,k7,k14,hx,hlt,hltI,hcx,hcxI,hws,hcw,hcwI,hc,hcWI,lw,e1,hat,wt];refine WS_cT (by simp [t0,t7,t13,t14,t15,k7,k14,hx,hlt,hltI,hcx,hcxI,hws,hcw,hcwI,hc,hcWI,lw,e1,hat,wt]) ?_;refine WS_skip ?_; simp [t0,t7,t13,t14,t15,k7,k14,hx,hlt,hltI,hcx,hcxI,hws,hcw,hcwI,hc,hcWI,lw,e1,hat,wt];refine WS_seq (WS_block (WS_regD [] ?_)); simp [t0,t7,t13,t14,t15,k7,k14,hx,hlt,hltI,hcx,hcxI,hws,hcw,hcwI,hc,hcWI,lw,e1,hat,wt];refine callD mu rfl ?_; simp [t0,t7,t13,t14,t15,k7,k14,hx,hlt,hltI,hcx,hcxI,hws,hcw,hcwI,hc,hcWI,lw,e1,hat,wt];refine callD ad rfl ?_; simp [t0,t7,t13,t14,t15,k7,k14,hx,hlt,hltI,hcx,hcxI,hws,hcw,hcwI,hc,hcWI,lw,e1,hat,wt];refine ⟨by kernel_rfl,?_⟩;refine WS_reg [] ?_; simp [t0,t7,t13,t14,t15,k7,k14,hx,hlt,hltI,hcx,hcxI,hws,hcw,hcwI,hc,hcWI,lw,e1,hat,wt];refine ⟨⟨t+1,by omega,by simp,by simp,λu hu=>?_,λq hq=>?_⟩,?_⟩
   . simp only [upd_apply];repeat rw [if_neg (by omega)]
     exact hs u hu
   . simp [hq,hh q hq]
   . rw [d15,nM_eq (i:=15) (n:=t+1) (by simp)]; omega
 . obtain rfl:t=n:=by omega
   have hltI:¬ (t:Int)<(t:Int):=by omega
   refine Ws ?_; simp [t0,t15,hx,hltI];refine WS_cF (by simp [t0,t15,hx,hltI]) ?_;refine WS_exit ?_; simp [t0,t15,hx,hltI];refine hQ _ (by simp [k14]) (λu hu=>?_) λq hq=>by simpa using hh q hq
   simp only [upd_apply];repeat rw [if_neg (by omega)]
   exact hs u hu
def RiO (xs vs:List V) (L:List (List Int)) (v:List Int) (n W g6:Nat) (S:St):Prop:=
 ∃ i g7,i<=n/\S.σ 0= .p (.sl none xs)/\S.σ 1= .p (.sl (some 2) vs)/\S.σ 6= .ptr 6 g6 0/\S.h 6=⟨g6,some (.box 28 [.b (zn (detZ n (gm L))),.sl none (uL (zl (detZ n (gm L))))])⟩/\S.σ 7= .own 7 g7 0 i/\S.h 7=⟨g7,some (.arr 28 (some 2) (rowZ i (crX L v n W)))⟩/\S.σ 8= .p (.i .i64 (i:Int))/\
  (∀ q,(S.h (q+1000)).o=none)/\∀ t,t<i->detZ n (crG L v W t)%detZ n (gm L)=0
set_option maxHeartbeats 4000000 in
theorem rin_no {k:Nat} {xs vs:List V} {L:List (List Int)} (hL:IsL k xs L) (r:Bool) (bs:Spec Tryz.prog f_ref14_Basis [.sl none xs] (· =[.pure (.b r)])) (h:r=false\/(0<xs.length/\(L.getD 0 []).length≠vs.length)):
 Spec Tryz.prog f_ref14_In [.sl none xs,.sl (some 2) vs] (· =[.pure (.sl (some 2) []),.pure (.i .i64 1)]):=by
 cases r with
 | false=>
  refine spec_at Tryz.func48 ok_ref14_In [] rfl (by simp) ?_;unfold sc_ref14_In;refine Wr ?_; simp;refine Ws ?_; simp;refine callP bs rfl ?_;simp;refine WS_cT (by simp) ?_;refine Wr ?_; simp;refine WS_ret ?_; simp
 | true=>
  obtain ⟨h0,hne⟩:0<xs.length/\(L.getD 0 []).length≠vs.length:=by
   rcases h with h | h
   . cases h
   . exact h
  have h0I:(0:Int)<(xs.length:Int):=by omega
  obtain ⟨us,hus,pu⟩:=hL.row 0 h0;have lu:=pu.len;have hneI:¬ (us.length:Int)=(vs.length:Int):=by omega
  have hne':¬ us.length=vs.length:=by omega
  refine spec_at Tryz.func48 ok_ref14_In [] rfl (by simp) ?_;unfold sc_ref14_In;refine Wr ?_; simp [h0,h0I,hus,hneI,hne'];refine Ws ?_; simp [h0,h0I,hus,hneI,hne'];refine callP bs rfl ?_;simp [h0,h0I,hus,hneI,hne'];refine WS_cT (by simp [h0,h0I,hus,hneI,hne']) ?_;refine Wr ?_; simp [h0,h0I,hus,hneI,hne'];refine WS_ret ?_; simp [h0,h0I,hus,hneI,hne']
set_option maxHeartbeats 4000000 in
theorem ri_rows {Q':Exit->St->Prop} {S:St} {k n W g6 g7:Nat} {xs vs:List V} {L:List (List Int)} {v:List Int} (hL:IsL k xs L) (hv:IsP k vs v) (hk:k<=2^12) (hx:xs.length=n) (hW:vs.length=W) (hW64:W<=64) (hok:okL L) (hwid:∀ a,a<n->(L.getD a []).length=W) (hn5:n<=5) (hd0:detZ n (gm L)≠0)
 (s0:S.σ 0= .p (.sl none xs)) (s1:S.σ 1= .p (.sl (some 2) vs)) (s6:S.σ 6= .ptr 6 g6 0) (h6:S.h 6=⟨g6,some (.box 28 [.b (zn (detZ n (gm L))),.sl none (uL (zl (detZ n (gm L))))])⟩) (s7:S.σ 7= .own 7 g7 0 0) (h7:S.h 7=⟨g7,some (.arr 28 (some 2) [])⟩) (hfr:∀ q,(S.h (q+1000)).o=none)
 (hQ:∀ (S':St) g',S'.σ 0= .p (.sl none xs)->S'.σ 1= .p (.sl (some 2) vs)->S'.σ 7= .own 7 g' 0 n->S'.h 7=⟨g',some (.arr 28 (some 2) (rowZ n (crX L v n W)))⟩->(∀ t,t<n->detZ n (crG L v W t)%detZ n (gm L)=0)->Q' .normal S')
 (hR:(∃ i,i<n/\detZ n (crG L v W i)%detZ n (gm L)≠0)->∀ S':St,S'.σ 4= .p (.sl (some 2) [])->S'.σ 5= .p (.i .i64 5)->Q' .ret S'):
 WS Tryz.prog 110 sc_ref14_In.snd.snd.snd.snd.fst Q' S:=by
 have hlen:=hL.len;have hLn:L.length=n:=by omega
 have hcase:n=0\/n=1\/n=2\/n=3\/n=4\/n=5:=by omega
 have hwid':∀ i,i<xs.length->(L.getD i []).length=W:=λi hi=>hwid i (by omega);have hg:=λ(h:Nat->HC) (hf:∀ q,q<=xs.length->(h (q+1000)).o=none)=>rgram hL hwid' (by omega) (by omega) (by omega) hf;have hc:=λ(h:Nat->HC) (G:Nat) (γ:Nat->Nat) (i:Nat) (H:Mat h 0 G xs.length xs.length (· +1) γ (crG L v W i))=>rcdet hL hok hv.pl hW64 hk H;have zD:=gdet_lim hL hok hk;have zC:=crdet_lim hL hok hv.pl hW64 hk;rw [hLn] at zD;simp only [hLn] at hc zC;simp only [hx] at hg hc;unfold sc_ref14_In;simp only [SC.snd,SC.fst];refine Wr ?_; simp;refine WS_block ?_;refine WS_loop (RiO xs vs L v n W g6) (λS=>n-nM 8 S) ⟨0,g7,by omega,by simp [s0],by simp [s1],by simp [s6],by simp [h6],by simp [s7],by simp [h7,rowZ],by simp,λq=>by simpa using hfr q,λt ht=>by omega⟩ ?_;clear s0 s1 s6 h6 s7 h7 hfr S;rintro S ⟨i,g7,hi,s0,s1,s6,h6,s7,h7,s8,hfr,hdv⟩;have d8:=nM_eq s8;by_cases hlt:i<n
 . have hltI:(i:Int)<(n:Int):=by omega
   have wi:=i64_succ i (by omega);refine Ws ?_; simp [s0,s8,hx,hltI];refine WS_cT (by simp [s0,s8,hx,hltI]) ?_;refine WS_skip ?_; simp [s0,s8,hx,hltI];refine WS_seq (WS_block (Wr ?_)); simp [s0,s8,hx,hltI];refine callX ?_;refine mcall _ (hg _ (λq _=>by simp [hfr])) (by simp) ?_;rintro H g svs hHn hHf ⟨G,γ,HMg,rfl⟩;simp [s0,s8,hx,hltI];have HM:=HMg.of_fp hHf;have hlow:∀ q,q<1000->H q=S.h q:=λq hq=>(hHn q (λh=>absurd (fpM_big _ h) (by omega))).trans (by simp);refine WS_abs (λS'=>S'.σ 0= .p (.sl none xs)/\S'.σ 1= .p (.sl (some 2) vs)/\S'.σ 6= .ptr 6 g6 0/\S'.h 6=S.h 6/\S'.σ 7= .own 7 g7 0 i/\S'.h 7=S.h 7/\S'.σ 8= .p (.i .i64 (i:Int))/\S'.σ 9= .own 1000 G 0 n/\Mat S'.h 0 G n n (· +1) γ (gm L)) ?_ ?_
   . exact ⟨by simp [s0],by simp [s1],by simp [s6],by simp [hlow],by simp [s7],by simp [hlow],by simp [s8],by simp,HM.congr λq=>by simp⟩
   clear HM hlow HMg hHn hHf H g;rintro S1 ⟨t0,t1,t6,k6,t7,k7,t8,t9,HM⟩;refine WS_seq ?_;refine ri_put hL hv hx hwid hW hlt (by omega) hW64 hk t0 t1 t8 t9 HM ?_;intro S2 HM2 hs2 hh2;have u0:=(hs2 0 (by omega)).trans t0;have u1:=(hs2 1 (by omega)).trans t1;have u6:=(hs2 6 (by omega)).trans t6;have u7:=(hs2 7 (by omega)).trans t7;have u8:=(hs2 8 (by omega)).trans t8;have u9:=(hs2 9 (by omega)).trans t9;have j6:=((hh2 6 (by omega)).trans k6).trans h6;have j7:=((hh2 7 (by omega)).trans k7).trans h7;have htop:=HM2.top;have dt:=hc _ G γ i HM2;have ex:=rexact (isZ_of (x:=detZ n (crG L v W i)) (k:=2^20) (zC i)) (isZ_of (x:=detZ n (gm L)) (k:=2^20) zD) (by omega);rw [exactR,if_neg hd0] at ex;have hsn:=rowZ_snoc (k:=i) (f:=crX L v n W);rw [show crX L v n W i=detZ n (crG L v W i) / detZ n (gm L) from rfl,Z_eq] at hsn;have hlr:=rowZ_length i (crX L v n W);show WS Tryz.prog 110 _ _ S2;by_cases hdiv:detZ n (crG L v W i)%detZ n (gm L)=0
   . rw [if_pos hdiv] at ex;obtain ⟨X,hX⟩:∃ X,X=rowZ i (crX L v n W):=⟨_,rfl⟩;rw [<- hX] at j7 hsn hlr;have htk:X.take i=X:=List.take_of_length_le (by omega);obtain ⟨D,hD⟩:∃ D,D=detZ n (gm L):=⟨_,rfl⟩;obtain ⟨C,hC⟩:∃ C,C=detZ n (crG L v W i):=⟨_,rfl⟩;obtain ⟨y,hy⟩:∃ y,y=C / D:=⟨_,rfl⟩;rw [<- hC,<-hD] at ex hsn;rw [<- hy] at ex hsn;rw [<- hD] at j6;rw [<- hC] at dt;have b1:(i+1)*32<=140737488355328:=app_bnd _ _ _ (by omega) (by omega) (by omega);have b2:i<=140737488355327:=by omega
     refine WS_seq (WS_regD [] ?_); simp [u0,u1,u6,u7,u8,u9,htop,htk,hlr,b1,b2];refine mcallD _ dt (by simp [fpM]) ⟨S2.h,_,rfl⟩ ?_;rintro H g svs hHn hHf rfl;have hlow:∀ q,q<1000->H q=S2.h q:=λq hq=>hHn q (λh=>absurd (fpM_big _ h) (by omega));have m6:=(hlow 6 (by omega)).trans j6;have m7:=(hlow 7 (by omega)).trans j7;simp [u0,u1,u6,u7,u8,u9,htop,htk,hlr,b1,b2,m6,m7];refine callD ex rfl ?_; simp [u0,u1,u6,u7,u8,u9,htop,htk,hlr,b1,b2,m6,m7];refine ⟨by rcases hcase with h | h | h | h | h | h<;>subst h<;>kernel_rfl,?_⟩;refine Ws ?_; simp [u0,u1,u6,u7,u8,u9,htop,htk,hlr,b1,b2,m6,m7];refine WS_cF (by simp [u0,u1,u6,u7,u8,u9,htop,htk,hlr,b1,b2,m6,m7]) ?_;refine WS_skip ?_; simp [u0,u1,u6,u7,u8,u9,htop,htk,hlr,b1,b2,m6,m7];refine WS_reg [] ?_; simp [u0,u1,u6,u7,u8,u9,htop,htk,hlr,b1,b2,m6,m7];refine WS_drop (λq=>decide (1000<=q)) ?_;refine WS_reg [] ?_; simp [u8,wi];refine ⟨⟨i+1,g7+1,by omega,by simp [u0],by simp [u1],by simp [u6],by simp [dropH,m6,hD],by simp,by simp [dropH,hsn],by simp,λq=>by simp [dropH],λt ht=>?_⟩,?_⟩
     . by_cases e:t=i
       . subst e; exact hdiv
       . exact hdv t (by omega)
     . rw [d8,nM_eq (i:=8) (n:=i+1) (by simp)]; omega
   . rw [if_neg hdiv] at ex;have hR':=hR ⟨i,hlt,hdiv⟩;obtain ⟨D,hD⟩:∃ D,D=detZ n (gm L):=⟨_,rfl⟩;obtain ⟨C,hC⟩:∃ C,C=detZ n (crG L v W i):=⟨_,rfl⟩;rw [<- hC,<-hD] at ex;rw [<- hD] at j6;rw [<- hC] at dt;refine WS_seq (WS_regD [] ?_); simp [u0,u1,u6,u7,u8,u9,htop];refine mcallD _ dt (by simp [fpM]) ⟨S2.h,_,rfl⟩ ?_;rintro H g svs hHn hHf rfl;have hlow:∀ q,q<1000->H q=S2.h q:=λq hq=>hHn q (λh=>absurd (fpM_big _ h) (by omega));have m6:=(hlow 6 (by omega)).trans j6;simp [u0,u1,u6,u7,u8,u9,htop,m6];refine callD ex rfl ?_; simp [u0,u1,u6,u7,u8,u9,htop,m6];refine ⟨by rcases hcase with h | h | h | h | h | h<;>subst h<;>kernel_rfl,?_⟩;refine Ws ?_; simp [u0,u1,u6,u7,u8,u9,htop,m6];refine WS_cT (by simp [u0,u1,u6,u7,u8,u9,htop,m6]) ?_;refine Wr ?_; simp [u0,u1,u6,u7,u8,u9,htop,m6];refine WS_ret ?_; simp [u0,u1,u6,u7,u8,u9,htop,m6];exact hR' _ (by simp) (by simp)
 . obtain rfl:i=n:=by omega
   have hltI:¬ (i:Int)<(i:Int):=by omega
   refine Ws ?_; simp [s0,s8,hx,hltI];refine WS_cF (by simp [s0,s8,hx,hltI]) ?_;refine WS_exit ?_; simp [s0,s8,hx,hltI];exact hQ _ g7 (by simp [s0]) (by simp [s1]) (by simp [s7]) (by simp [h7]) hdv
def RiC (xs vs:List V) (x:Nat->Int) (b:Nat->Nat->Int) (v:List Int) (n W g7:Nat) (S:St):Prop:=
 ∃ c,c<=W/\S.σ 0= .p (.sl none xs)/\S.σ 1= .p (.sl (some 2) vs)/\S.σ 7= .own 7 g7 0 n/\S.h 7=⟨g7,some (.arr 28 (some 2) (rowZ n x))⟩/\S.σ 13= .p (.i .i64 (c:Int))/\∀ u,u<c->smI x b u n=cf v u
theorem sign_zero (x:Int):x.sign=0↔x=0:=Int.sign_eq_zero_iff_zero
set_option maxHeartbeats 4000000 in
theorem ri_check {Q':Exit->St->Prop} {S:St} {k n W g7:Nat} {x:Nat->Int} {xs vs:List V} {L:List (List Int)} {v:List Int} (hL:IsL k xs L) (hv:IsP k vs v) (hk:k<=2^12) (hx:xs.length=n) (hW:vs.length=W) (hW64:W<=64) (hwid:∀ a,a<n->(L.getD a []).length=W) (hn:n<=64) (hxl:∀ t,t<n->zlen (x t)<=2^20)
 (s0:S.σ 0= .p (.sl none xs)) (s1:S.σ 1= .p (.sl (some 2) vs)) (s7:S.σ 7= .own 7 g7 0 n) (h7:S.h 7=⟨g7,some (.arr 28 (some 2) (rowZ n x))⟩)
 (hQ:∀ S':St,S'.σ 7= .own 7 g7 0 n->S'.h 7=⟨g7,some (.arr 28 (some 2) (rowZ n x))⟩->(∀ u,u<W->smI x (bOf L) u n=cf v u)->Q' .normal S')
 (hR:(∃ u,u<W/\smI x (bOf L) u n≠cf v u)->∀ S':St,S'.σ 4= .p (.sl (some 2) [])->S'.σ 5= .p (.i .i64 5)->Q' .ret S'):
 WS Tryz.prog 110 sc_ref14_In.snd.snd.snd.snd.snd.fst Q' S:=by
 have o0:=rof 0 (by omega) (by omega);obtain ⟨z0,hz0⟩:∃ z:Int,z=0:=⟨_,rfl⟩;rw [show Z 0=Z z0 by rw [hz0]] at o0;unfold sc_ref14_In;simp only [SC.snd,SC.fst];refine Wr ?_; simp;refine WS_block ?_;refine WS_loop (RiC xs vs x (bOf L) v n W g7) (λS=>W-nM 13 S) ⟨0,by omega,by simp [s0],by simp [s1],by simp [s7],by simp [h7],by simp,λt ht=>by omega⟩ ?_;clear s0 s1 s7 h7 S;rintro S ⟨c,hc,s0,s1,s7,h7,s13,heq⟩;have d13:=nM_eq s13;by_cases hlt:c<W
 . have hltI:(c:Int)<(W:Int):=by omega
   have wc:=i64_succ c (by omega);have hcv:c<vs.length:=by omega
   refine Ws ?_; simp [s0,s1,s13,hW,hltI];refine WS_cT (by simp [s0,s1,s13,hW,hltI]) ?_;refine WS_skip ?_; simp [s0,s1,s13,hW,hltI];refine WS_seq (WS_block (Wr ?_)); simp [s0,s1,s13,hW,hltI];refine callP o0 rfl ?_;simp [s0,s1,s13,hW,hltI];refine WS_abs (λS'=>S'.σ 0= .p (.sl none xs)/\S'.σ 1= .p (.sl (some 2) vs)/\S'.σ 7= .own 7 g7 0 n/\S'.h 7=⟨g7,some (.arr 28 (some 2) (rowZ n x))⟩/\S'.σ 13= .p (.i .i64 (c:Int))/\S'.σ 14= .ptr 14 ((S.h 14).g+1) 0/\S'.h 14=⟨(S.h 14).g+1,some (.box 28 [.b (zn z0),.sl none (uL (zl z0))])⟩) ?_ ?_
   . refine ⟨by simp [s0],by simp [s1],by simp [s7],by simp [h7],by simp [s13],by simp,by simp⟩
   obtain ⟨g14,hg14⟩:∃ g,g=(S.h 14).g+1:=⟨_,rfl⟩;rw [<- hg14];rintro S1 ⟨t0,t1,t7,k7,t13,t14,k14⟩;rw [hz0] at k14;refine WS_seq ?_;refine ri_sum hL hx hwid hlt hn hW64 hk hxl t0 t7 k7 t13 t14 k14 ?_;intro S2 j14 hs2 hh2;have u0:=(hs2 0 (by omega)).trans t0;have u1:=(hs2 1 (by omega)).trans t1;have u7:=(hs2 7 (by omega)).trans t7;have u13:=(hs2 13 (by omega)).trans t13;have u14:=(hs2 14 (by omega)).trans t14;have j7:=(hh2 7 (by omega)).trans k7;obtain ⟨b1,l1,e1,hz1,hzi1⟩:=hv.cell c hcv;have q2:=smI_len (x:=x) (b:=bOf L) (c:=c) (p:=2^20) (q:=2^12) n hxl (λu hu=>by
    obtain ⟨_,_,pu⟩:=hL.row u (by omega);exact Nat.le_trans (pu.pl c) hk)
   have cm:=rcmp (isZ_of (x:=smI x (bOf L) c n) (k:=2^22) (by omega)) ((hv.get c hcv).mono (show k<=2^22 by omega)) (by omega);rw [e1] at cm;have hcvI:(c:Int)<(vs.length:Int):=by omega
   have hsg:=sign_zero (smI x (bOf L) c n-cf v c);have hR':smI x (bOf L) c n≠cf v c->_:=λh=>hR ⟨c,hlt,h⟩;obtain ⟨a,ha⟩:∃ a,a=(smI x (bOf L) c n-cf v c).sign:=⟨_,rfl⟩;rw [<- ha] at cm hsg;obtain ⟨y,hy⟩:∃ y,y=smI x (bOf L) c n:=⟨_,rfl⟩;rw [<- hy] at j14 cm;show WS Tryz.prog 110 _ _ S2;by_cases h0:a=0
   . refine WS_seq (WS_regD [] ?_); simp [u0,u1,u7,u13,u14,j14,hcv,hcvI,hlt,hltI,hW,e1,h0];refine callD cm rfl ?_; simp [u0,u1,u7,u13,u14,j14,hcv,hcvI,hlt,hltI,hW,e1,h0];refine ⟨by kernel_rfl,?_⟩;refine WS_cF (by simp [u0,u1,u7,u13,u14,j14,hcv,hcvI,hlt,hltI,hW,e1,h0]) ?_;refine WS_skip ?_; simp [u0,u1,u7,u13,u14,j14,hcv,hcvI,hlt,hltI,hW,e1,h0];refine WS_reg [] ?_; simp [u13,wc];refine ⟨⟨c+1,by omega,by simp [u0],by simp [u1],by simp [u7],by simp [j7],by simp,λu hu=>?_⟩,?_⟩
     . by_cases e:u=c
       . subst e;have:=hsg.1 h0; omega
       . exact heq u (by omega)
     . rw [d13,nM_eq (i:=13) (n:=c+1) (by simp)]; omega
   . refine WS_seq (WS_regD [] ?_); simp [u0,u1,u7,u13,u14,j14,hcv,hcvI,hlt,hltI,hW,e1,h0];refine callD cm rfl ?_; simp [u0,u1,u7,u13,u14,j14,hcv,hcvI,hlt,hltI,hW,e1,h0];refine ⟨by kernel_rfl,?_⟩;refine WS_cT (by simp [u0,u1,u7,u13,u14,j14,hcv,hcvI,hlt,hltI,hW,e1,h0]) ?_;refine Wr ?_; simp [u0,u1,u7,u13,u14,j14,hcv,hcvI,hlt,hltI,hW,e1,h0];refine WS_ret ?_; simp [u0,u1,u7,u13,u14,j14,hcv,hcvI,hlt,hltI,hW,e1,h0];exact hR' (λh=>h0 (hsg.2 (by omega))) _ (by simp) (by simp)
 . obtain rfl:c=W:=by omega
   have hltI:¬ (c:Int)<(c:Int):=by omega
   refine Ws ?_; simp [s1,s13,hW,hltI];refine WS_cF (by simp [s1,s13,hW,hltI]) ?_;refine WS_exit ?_; simp [s1,s13,hW,hltI];exact hQ _ (by simp [s7]) (by simp [h7]) heq
set_option maxHeartbeats 4000000 in
theorem rin_main {S:St} {k n W:Nat} {xs vs:List V} {L:List (List Int)} {v:List Int} {res:List RV} (hL:IsL k xs L) (hv:IsP k vs v) (hk:k<=2^12) (hx:xs.length=n) (hW:vs.length=W) (hW64:W<=64) (hok:okL L) (hwid:∀ a,a<n->(L.getD a []).length=W) (hn5:n<=5) (hd0:detZ n (gm L)≠0)
 (h1:∀ x:Nat->Int,(∀ c,c<W->cf v c=smI x (bOf L) c n)->res=[.pure (.sl (some 2) (rowZ n x)),.pure (.i .i64 0)]) (h2:(¬ ∃ x:Nat->Int,∀ c,c<W->cf v c=smI x (bOf L) c n)->res=[.pure (.sl (some 2) []),.pure (.i .i64 5)])
 (s0:S.σ 0= .p (.sl none xs)) (s1:S.σ 1= .p (.sl (some 2) vs)) (hfr:∀ q,(S.h (q+1000)).o=none):
 WS Tryz.prog 110 sc_ref14_In.snd.snd (retQ [.tmp 4,.tmp 5] [] (· =res)) S:=by
 have hlen:=hL.len;have hLn:L.length=n:=by omega
 have hwid':∀ i,i<xs.length->(L.getD i []).length=W:=λi hi=>hwid i (by omega);have hg:=λ(h:Nat->HC) (hf:∀ q,q<=xs.length->(h (q+1000)).o=none)=>rgram hL hwid' (by omega) (by omega) (by omega) hf;have hd:=λ(h:Nat->HC) (G:Nat) (γ:Nat->Nat) (H:Mat h 0 G xs.length xs.length (· +1) γ (gm L))=>rgdet hL hok hk H;have zC:=crdet_lim hL hok hv.pl hW64 hk;simp only [hLn] at hd zC;simp only [hx] at hg hd;have hno:∀ S':St,S'.σ 4= .p (.sl (some 2) [])->S'.σ 5= .p (.i .i64 5)->(¬ ∃ x:Nat->Int,∀ c,c<W->cf v c=smI x (bOf L) c n)->retQ [.tmp 4,.tmp 5] [] (· =res) .ret S':=λS' e4 e5 hne=>by
  rw [h2 hne];simp [retQ,retP,e4,e5]
 obtain ⟨D,hD⟩:∃ D,D=detZ n (gm L):=⟨_,rfl⟩;simp only [<- hD] at hd;unfold sc_ref14_In;simp only [SC.snd,SC.fst];refine Wr ?_; simp [s0,s1];refine callX ?_;refine mcall _ (hg _ (λq _=>by simp [hfr])) (by simp) ?_;rintro H g svs hHn hHf ⟨G,γ,HMg,rfl⟩;have HM:=HMg.of_fp hHf;have htop:=HM.top;have hlow:∀ q,q<1000->H q=S.h q:=λq hq=>(hHn q (λh=>absurd (fpM_big _ h) (by omega))).trans (by simp);simp [s0,s1,htop];refine mcall _ (hd _ G γ HM) (by simp [fpM]) ?_;rintro H2 g2 svs2 hHn2 hHf2 rfl;have hlow2:∀ q,q<1000->H2 q=S.h q:=λq hq=>(hHn2 q (λh=>absurd (fpM_big _ h) (by omega))).trans (hlow q hq);simp [s0,s1,htop];refine WS_seq (WS_reg [7] ?_); simp [s0,s1,htop];refine WS_abs (λS'=>S'.σ 0= .p (.sl none xs)/\S'.σ 1= .p (.sl (some 2) vs)/\S'.σ 6= .ptr 6 ((S.h 6).g+1) 0/\S'.h 6=⟨(S.h 6).g+1,some (.box 28 [.b (zn D),.sl none (uL (zl D))])⟩/\S'.σ 7= .own 7 ((S.h 7).g+1) 0 0/\S'.h 7=⟨(S.h 7).g+1,some (.arr 28 (some 2) [])⟩) ?_ ?_
 . refine ⟨by simp [s0],by simp [s1],by simp [hlow2],by simp [hlow2],by simp [hlow2],by simp [hlow2]⟩
 clear hHn hHn2 hHf hHf2 HMg HM htop hlow hlow2 H H2 g g2;obtain ⟨g6,hg6⟩:∃ g,g=(S.h 6).g+1:=⟨_,rfl⟩;obtain ⟨g7,hg7⟩:∃ g,g=(S.h 7).g+1:=⟨_,rfl⟩;rw [<- hg6,<-hg7,hD];rintro S1 ⟨t0,t1,t6,k6,t7,k7⟩;refine WS_drop (λq=>decide (1000<=q)) ?_;refine WS_seq ?_;refine ri_rows (S:=⟨S1.σ,dropH (λq=>decide (1000<=q)) S1.h⟩) hL hv hk hx hW hW64 hok hwid hn5 hd0 t0 t1 t6 (by simp [dropH,k6]) t7 (by simp [dropH,k7]) (λq=>by simp [dropH]) ?_ ?_
 . intro S2 g' u0 u1 u7 j7 hdv;show WS Tryz.prog 110 _ _ S2;refine WS_seq ?_;have hxl:∀ t,t<n->zlen (crX L v n W t)<=2^20:=λt ht=>Nat.le_trans (zlen_div_le _ _ (hdv t ht)) (zC t);refine ri_check hL hv hk hx hW hW64 hwid (by omega) hxl u0 u1 u7 j7 ?_ ?_
   . intro S3 v7 z7 heq;show WS Tryz.prog 110 _ _ S3;rw [h1 (crX L v n W) λc hc=>(heq c hc).symm];have hlr:=rowZ_length n (crX L v n W);obtain ⟨X,hX⟩:∃ X,X=rowZ n (crX L v n W):=⟨_,rfl⟩;rw [<- hX] at z7 hlr ⊢;have htk:X.take n=X:=List.take_of_length_le (by omega);refine WS_frz 7 7 none ?_;simp [frzQ,v7,z7,hlr,htk];refine Wr ?_; simp;refine WS_ret ?_; simp
   . rintro ⟨u,hu,hne⟩ S' e4 e5;refine hno S' e4 e5 λ⟨x,hxx⟩=>hne ?_;rw [smI_congr λt ht=>(crX_eq hwid hd0 hxx ht).2];exact (hxx u hu).symm
 . rintro ⟨i,hi,hne⟩ S' e4 e5;exact hno S' e4 e5 λ⟨x,hxx⟩=>hne (crX_eq hwid hd0 hxx hi).1
set_option maxHeartbeats 4000000 in
theorem rin_yes {k n W:Nat} {xs vs:List V} {L:List (List Int)} {v:List Int} {res:List RV} (hL:IsL k xs L) (hv:IsP k vs v) (hk:k<=2^12) (hx:xs.length=n) (hW:vs.length=W) (hW64:W<=64) (hok:okL L) (hwid:∀ a,a<n->(L.getD a []).length=W) (hn5:n<=5) (hd0:detZ n (gm L)≠0)
 (bs:Spec Tryz.prog f_ref14_Basis [.sl none xs] (· =[.pure (.b true)]))
 (h1:∀ x:Nat->Int,(∀ c,c<W->cf v c=smI x (bOf L) c n)->res=[.pure (.sl (some 2) (rowZ n x)),.pure (.i .i64 0)]) (h2:(¬ ∃ x:Nat->Int,∀ c,c<W->cf v c=smI x (bOf L) c n)->res=[.pure (.sl (some 2) []),.pure (.i .i64 5)]):
 Spec Tryz.prog f_ref14_In [.sl none xs,.sl (some 2) vs] (· =res):=by
 have key:=λ(S:St)=>rin_main (S:=S) hL hv hk hx hW hW64 hok hwid hn5 hd0 h1 h2;refine spec_at Tryz.func48 ok_ref14_In [] rfl (by simp) ?_;unfold sc_ref14_In;by_cases h0:0<xs.length
 . have h0I:(0:Int)<(xs.length:Int):=by omega
   obtain ⟨us,hus,pu⟩:=hL.row 0 h0;have lu:us.length=vs.length:=by rw [pu.len,hwid 0 (by omega),hW]
   have luI:(us.length:Int)=(vs.length:Int):=by omega
   refine Wr ?_; simp [h0,h0I,hus,lu,luI];refine Ws ?_; simp [h0,h0I,hus,lu,luI];refine callP bs rfl ?_;simp [h0,h0I,hus,lu,luI];refine WS_cF (by simp [h0,h0I,hus,lu,luI]) ?_;refine WS_skip ?_; simp [h0,h0I,hus,lu,luI];refine key _ (by simp) (by simp) λq=>by simp
 . have h0I:¬ (0:Int)<(xs.length:Int):=by omega
   refine Wr ?_; simp [h0,h0I];refine Ws ?_; simp [h0,h0I];refine callP bs rfl ?_;simp [h0,h0I];refine WS_cF (by simp [h0,h0I]) ?_;refine WS_skip ?_; simp [h0,h0I];refine key _ (by simp) (by simp) λq=>by simp
theorem rowZ_PZ (n:Nat) (x:Nat->Int):rowZ n x=PZ ((List.range n).map x):=by simp [rowZ,PZ]
theorem ins_same {xs vs:List V} {L:List (List Int)} {v:List Int} (hL:IsL 2 xs L) (hv:IsP 2 vs v) (hn:xs.length<=5) (hw:∀ i,(L.getD i []).length<=7) (hvl:vs.length<=7):
 ∃ (l:List Int) (e:Int),PL (2^20) l/\l.length<=64/\Spec Tryz.prog f_lattice_In [.sl none xs,.sl (some 2) vs] (· =[.pure (.sl (some 2) (PZ l)),.pure (.i .i64 e)])/\Spec Tryz.prog f_ref14_In [.sl none xs,.sl (some 2) vs] (· =[.pure (.sl (some 2) (PZ l)),.pure (.i .i64 e)]):=by
 have hw40:∀ i,i<xs.length->(L.getD i []).length<=2^40:=λi _=>by have:=hw i; omega
 have hlen:=hL.len;have p0:PL (2^20) ([]:List Int):=λi=>by rw [cf_ge (by simp),zlen_zero]; omega
 obtain ⟨r,hr⟩:=boolP (okL L/\detZ L.length (gm L)≠0);have bs:=rbasis_at hL (by omega) (by omega) hw40 r hr;by_cases hbad:r=false\/(0<xs.length/\(L.getD 0 []).length≠vs.length)
 . refine ⟨[],1,p0,by simp,lin_no hL hv (by omega) (by omega) hw40 (by omega) ?_,rin_no hL r bs hbad⟩;rcases hbad with h | h
   . left;intro hh;have:=hr.2 ⟨hh.1,(basis_iff hh.1).1.1 hh.2⟩;rw [h] at this; cases this
   . exact .inr h
 . have hrt:r=true:=by
    cases r with
    | true=>rfl
    | false=>exact absurd (.inl rfl) hbad
   subst hrt;obtain ⟨ho,hd⟩:=hr.1 rfl;obtain ⟨n,hx⟩:∃ n,xs.length=n:=⟨_,rfl⟩;obtain ⟨W,hW⟩:∃ W,vs.length=W:=⟨_,rfl⟩;have hLn:L.length=n:=by omega
   have hwid:∀ a,a<n->(L.getD a []).length=W:=λa ha=>by
    have h1:(L.getD 0 []).length=vs.length:=Classical.byContradiction λh=>hbad (.inr ⟨by omega,h⟩);rw [(ho.2 a (by omega)).2,h1,hW]
   have hnz:∀ t,t<n->brM (gW L W) t t t≠0:=λt ht=>by
    have h1:=(basis_iff ho).1.2 hd;rw [hwid 0 (by omega)] at h1;exact h1 t (by omega)
   rw [hLn] at hd;have hK:∀ c,c<=n->kk 2 c<=2^18:=λc hc=>by
    have:c=0\/c=1\/c=2\/c=3\/c=4\/c=5:=by omega
    rcases this with h | h | h | h | h | h<;>subst h<;>decide
   by_cases hex:∃ x:Nat->Int,∀ c,c<W->cf v c=smI x (bOf L) c n
   . obtain ⟨x,hxx⟩:=hex;have h1:∀ x':Nat->Int,(∀ c,c<W->cf v c=smI x' (bOf L) c n)->[RV.pure (.sl (some 2) (PZ ((List.range n).map (crX L v n W)))),RV.pure (.i .i64 0)]=[RV.pure (.sl (some 2) (rowZ n x')),RV.pure (.i .i64 0)]:=λx' hx'=>by
      rw [<- rowZ_PZ,rowZ_congr λt ht=>(crX_eq hwid hd hx' ht).2]
     refine ⟨(List.range n).map (crX L v n W),0,λi=>?_,by simp; omega,lin_yes hL hv (by omega) (by omega) hx hW (by omega) ho hwid hnz hK h1 (λh=>absurd ⟨x,hxx⟩ h),rin_yes hL hv (by omega) hx hW (by omega) ho hwid (by omega) hd bs h1 (λh=>absurd ⟨x,hxx⟩ h)⟩;rw [cf_range];split
     . next h=>
       have h2:=crdet_lim hL ho hv.pl (show W<=64 by omega) (by omega) i;rw [hLn] at h2;exact Nat.le_trans (zlen_div_le _ _ (crX_eq hwid hd hxx h).1) h2
     . rw [zlen_zero]; omega
   . exact ⟨[],5,p0,by simp,lin_yes hL hv (by omega) (by omega) hx hW (by omega) ho hwid hnz hK (λx hxx=>absurd ⟨x,hxx⟩ hex) (λ_=>rfl),rin_yes hL hv (by omega) hx hW (by omega) ho hwid (by omega) hd bs (λx hxx=>absurd ⟨x,hxx⟩ hex) (λ_=>rfl)⟩
def LiI (Ms:V) (M:List (Bool × List Nat)) (S:St):Prop:=∃ i:Nat,i<=M.length/\S.σ 0= .p Ms/\S.σ 1= .p (.sl (some 2) (zL M))/\S.σ 5= .p (.b true)/\S.σ 6= .p (.i .i64 (i:Int))/\∀ p∈M.take i,p.2.length<=2
section
variable {b b':Nat->Nat->Int} {n w:Nat}
end
section
variable {b:Nat->Nat->Int} {n w:Nat}
end
end Go.Vw
