/- Polynomials over the integers. -/
import Derived.Test.YtfdjbmamidmgfaaGreatME
import Derived.Test.YtfdjbmamidmgfaaGreatMD
import Derived.Test.YtfdjbmamidmgfaaGreatPD
import Derived.Test.YtfdjbmamidmgfaaGreatS6
import Derived.Test.YtfdjbmamidmgfaaGreatPG
import Derived.Test.YtfdjbmamidmgfaaGreatMG
import Derived.Test.YtfdjbmamidmgfaaGreatPF
import Derived.Test.YtfdjbmamidmgfaaGreatS7
set_option linter.unusedVariables false
set_option linter.unusedSimpArgs false
namespace Go.Vw
open Go.Proofs Go.Py
structure PW (k:Nat) (M:List (Bool × List Nat)):Prop where
 len:M.length<=k
 each:∀ p∈M,ZW k p.2
theorem polys_eq (M:List (Bool × List Nat)):((M.map λp=>(p.1,p.2.map λx:Nat=>(x:Int))).map λp=>V.agg [.b p.1,.sl none (p.2.map λz=>V.i .u64 z)])=zL M:=by
 simp [zL,zv,uL]
def piL (M:List (Bool × List Nat)):List Int:=M.map λp=>zi p.1 p.2
def PZ (l:List Int):List V:=l.map Z
theorem PZ_length (l:List Int):(PZ l).length=l.length:=by simp [PZ]
def PL (k:Nat) (l:List Int):Prop:=∀ i,zlen (cf l i)<=k
theorem PL.eqp {k:Nat} {a b:List Int} (h:PL k a) (e:Eqp a b):PL k b:=λi=>by rw [<- e i]; exact h i
theorem pl_tr {k:Nat} {a:List Int} (h:PL k a):PL k (tr a):=h.eqp (cf_tr a).symm
structure IsP (k:Nat) (vs:List V) (l:List Int):Prop where
 len:vs.length=l.length
 get:∀ i (h:i<vs.length),IsZ k (vs[i]) (cf l i)
theorem IsP.mono {k m:Nat} {vs:List V} {l:List Int} (h:IsP k vs l) (hk:k<=m):IsP m vs l:=⟨h.len,λi hi=>(h.get i hi).mono hk⟩
theorem isP_zL {k:Nat} {M:List (Bool × List Nat)} (h:∀ p∈M,ZW k p.2):IsP k (zL M) (piL M):=by
 refine ⟨by simp [zL,piL],λi hi=>?_⟩;have hi':i<M.length:=by simpa [zL] using hi
 rw [cf_lt (by simpa [piL] using hi')];simp only [zL,piL,List.getElem_map];exact isZ_zv (h _ (List.getElem_mem _))
theorem isP_PZ {k:Nat} {l:List Int} (h:PL k l):IsP k (PZ l) l:=by
 refine ⟨by simp [PZ],λi hi=>?_⟩;have hi':i<l.length:=by simpa [PZ] using hi
 have:=h i;rw [cf_lt hi'] at this ⊢;simp only [PZ,List.getElem_map];exact isZ_Z this
theorem IsP.pl {k:Nat} {vs:List V} {l:List Int} (h:IsP k vs l):PL k l:=λi=>by
 by_cases hi:i<vs.length
 . exact (h.get i hi).zlen
 . rw [cf_ge (by have:=h.len; omega),zlen_zero]; omega
theorem IsP.take {k:Nat} {vs:List V} {l:List Int} (h:IsP k vs l) (n:Nat):IsP k (vs.take n) (l.take n):=by
 refine ⟨by have:=h.len; simp [this],λi hi=>?_⟩;simp only [List.length_take] at hi;rw [cf_take,if_pos (by omega),List.getElem_take];exact h.get i (by omega)
theorem IsP.cell {k:Nat} {vs:List V} {l:List Int} (h:IsP k vs l) (i:Nat) (hi:i<vs.length):∃ n d,vs[i]= .agg [.b n,.sl none (uL d)]/\ZW k d/\zi n d=cf l i:=by
 obtain ⟨n,d,e,hz,hx⟩:=h.get i hi;exact ⟨n,d,e,hz,hx⟩
theorem PZ_get (l:List Int) (i:Nat) (h:i<(PZ l).length):(PZ l)[i]= .agg [.b (zn (cf l i)),.sl none (uL (zl (cf l i)))]:=by
 have hi':i<l.length:=by simpa [PZ] using h
 rw [cf_lt hi'];simp only [PZ,List.getElem_map];rfl
theorem range_cf (l:List Int) (m:Nat) (hm:m<=l.length):(List.range m).map (cf l)=l.take m:=by
 refine ext_cf (by simp; omega) λi=>?_;rw [cf_range,cf_take]
theorem range_fill (g:Nat->V) (z:V) {k n:Nat} (h:k<n):((List.range k).map g++List.replicate (n-k) z).set k (g k)=(List.range (k+1)).map g++List.replicate (n-(k+1)) z:=by
 obtain ⟨j,hj⟩:∃ j,n-k=j+1:=⟨n-k-1,by omega⟩;rw [hj,show n-(k+1)=j by omega,List.range_succ,List.map_append,List.set_append_right _ _ (by simp)];simp [List.replicate_succ]
def EaS (n:Nat) (vs:List V) (f:FuncId) (caps:List V) (g:Nat->V) (S:St):Prop:=∃ k:Nat,k<=n/\S.σ 1= .p (.clo f caps)/\S.σ 5= .own 10 1 0 n/\S.σ 11= .p (.sl (some 2) vs)/\S.σ 12= .p (.i .i64 (n:Int))/\S.σ 13= .p (.i .i64 (k:Int))/\
 S.h 10=⟨1,some (.arr 28 (some 2) ((List.range k).map g++List.replicate (n-k) (.agg [.b false,.sl none []])))⟩
attribute [local simp] zv V.fits fillOk fillV Z_eq
theorem each_vv {vs:List V} (hn:vs.length<=2^40) (hv:∀ i (h:i<vs.length),∃ n d,vs[i]= .agg [.b n,.sl none (uL d)]) (f:FuncId) (caps:List V) (g:Nat->V) (hg:∀ i,i<vs.length->∃ n d,g i= .agg [.b n,.sl none (uL d)])
 (hF:∀ i (h:i<vs.length),Spec Tryz.prog f ([.i .i64 (i:Int),vs[i]]++caps) (· =[.pure (g i)])):
 Spec Tryz.prog f_zpoly_each_api_Int_api_Int [.sl (some 2) vs,.clo f caps] (· =[.own 28 (some 2) ((List.range vs.length).map g)]):=by
 obtain ⟨n,hnn⟩:∃ n,n=vs.length:=⟨_,rfl⟩;rw [<- hnn];rw [<- hnn] at hn;refine spec_at Tryz.func72 ok_zpoly_each_api_Int_api_Int [true] rfl (by simp) ?_;unfold sc_zpoly_each_api_Int_api_Int;refine Wr ?_; simp [hnn.symm];refine Wr ?_; simp [hnn.symm];refine ⟨by omega,?_⟩;refine Ws ?_; simp [hnn.symm];refine WS_block ?_;refine WS_loop (EaS n vs f caps g) (λS=>n-nM 13 S) ⟨0,by omega,rfl,rfl,rfl,rfl,rfl,by simp⟩ ?_;rintro S ⟨k,hk,s1,s5,s11,s12,s13,h10⟩;have d13:=nM_eq s13;by_cases hlt:k<n
 . have hk':k<vs.length:=by omega
   obtain ⟨b,d,hvk⟩:=hv k hk';have sp:=hF k hk';rw [hvk] at sp;obtain ⟨b2,d2,hgk⟩:=hg k hk';have w1:=i64_succ k (by omega);have hltI:(k:Int)<(n:Int):=by omega
   have hset:=range_fill g (.agg [.b false,.sl none []]) hlt;obtain ⟨W,hW⟩:∃ W,W=(List.range k).map g++List.replicate (n-k) (V.agg [.b false,.sl none []]):=⟨_,rfl⟩;have hpl:W.length=n:=by rw [hW]; simp; omega
   rw [<- hW] at hset h10;rw [hgk] at sp hset;refine Wr ?_; simp [s1,s5,s11,s12,s13,h10,hlt,hltI,hk',hvk,w1,hpl,hset];refine WS_seq ?_;refine WS_cT (by simp [s1,s5,s11,s12,s13,h10,hlt,hltI,hk',hvk,w1,hpl,hset]) ?_;refine WS_skip ?_; simp [s1,s5,s11,s12,s13,h10,hlt,hltI,hk',hvk,w1,hpl,hset];refine WS_seq (WS_block (Wr ?_)); simp [s1,s5,s11,s12,s13,h10,hlt,hltI,hk',hvk,w1,hpl,hset];refine WS_reg [] ?_; simp [s1,s5,s11,s12,s13,h10,hlt,hltI,hk',hvk,w1,hpl,hset];refine callK sp ?_; simp [s1,s5,s11,s12,s13,h10,hlt,hltI,hk',hvk,w1,hpl,hset];refine WS_reg [] ?_; simp [s1,s5,s11,s12,s13,h10,hlt,hltI,hk',hvk,w1,hpl,hset];refine ⟨⟨k+1,by omega,by simp [s1],by simp [s5],by simp [s11],by simp [s12],by simp,by simp [hset]⟩,?_⟩;show n-nM 13 _<n-nM 13 S;rw [d13,nM_eq (i:=13) (n:=k+1) (by simp)];omega
 . obtain rfl:k=n:=by omega
   have hltI:¬ (k:Int)<(k:Int):=by omega
   have hfull:(List.range k).map g++List.replicate (k-k) (V.agg [.b false,.sl none []])=(List.range k).map g:=by simp
   rw [hfull] at h10;have hpt:((List.range k).map g).take k=(List.range k).map g:=List.take_of_length_le (by simp);obtain ⟨W,hW⟩:∃ W,W=(List.range k).map g:=⟨_,rfl⟩;have hpl:W.length=k:=by rw [hW]; simp
   rw [<- hW] at h10 hpt ⊢;refine Wr ?_; simp [s1,s5,s11,s12,s13,h10,hltI,hpl,hpt];refine WS_seq ?_;refine WS_cF (by simp [s1,s5,s11,s12,s13,h10,hltI,hpl,hpt]) ?_;refine WS_exit ?_; simp [s1,s5,s11,s12,s13,h10,hltI,hpl,hpt];refine Wr ?_; simp [s1,s5,s11,s12,s13,h10,hltI,hpl,hpt];refine WS_ret ?_; simp [s1,s5,s11,s12,s13,h10,hltI,hpl,hpt]
theorem each_zz {vs:List V} (hn:vs.length<=2^40) (hv:∀ i (h:i<vs.length),∃ n d,vs[i]= .agg [.b n,.sl none (uL d)]) (f:FuncId) (caps:List V) (g:Nat->Int)
 (hF:∀ i (h:i<vs.length),Spec Tryz.prog f ([.i .i64 (i:Int),vs[i]]++caps) (· =[.pure (Z (g i))])):
 Spec Tryz.prog f_zpoly_each_api_Int_api_Int [.sl (some 2) vs,.clo f caps] (· =[.own 28 (some 2) (PZ ((List.range vs.length).map g))]):=by
 have:=each_vv hn hv f caps (λi=>Z (g i)) (λi _=>⟨_,_,rfl⟩) hF;rw [PZ,List.map_map];exact this
theorem norm1 {k:Nat} {v:V} {x:Int} (hv:IsZ k v x) (hk:k<=2^40) (i:Int):Spec Tryz.prog f_zpoly_Norm_1 [.i .i64 i,v] (· =[.pure (Z x)]):=by
 have nm:=znorm hv hk;obtain ⟨n,l,rfl,h,hx⟩:=hv;refine spec_at Tryz.func80 ok_zpoly_Norm_1 [] rfl (by simp) ?_;unfold sc_zpoly_Norm_1;refine Wr ?_; simp;refine Wr ?_; simp;refine callK nm ?_; simp;refine WS_ret ?_; simp
def NoS (vs:List V) (l:List Int) (S:St):Prop:=∃ m:Nat,m<=vs.length/\S.σ 0= .p (.sl (some 2) (vs.take m))/\∀ i,m<=i->cf l i=0
def slL (i:Nat) (S:St):Nat:=match S.σ i with | .p (.sl _ xs)=>xs.length | _=>0
theorem slL_eq {i:Nat} {S:St} {sz:Option Nat} {xs:List V} (h:S.σ i= .p (.sl sz xs)):slL i S=xs.length:=by simp only [slL,h]
theorem pnorm {k:Nat} {vs:List V} {l:List Int} (hv:IsP k vs l) (hk:k<=2^40) (hn:vs.length<=2^40):Spec Tryz.prog f_zpoly_Norm [.sl (some 2) vs] (· =[.own 28 (some 2) (PZ (tr l))]):=by
 refine spec_at Tryz.func28 ok_zpoly_Norm [true] rfl (by simp) ?_;unfold sc_zpoly_Norm;refine Wr ?_; simp;refine WS_seq (WS_block ?_);refine WS_loop (NoS vs l) (slL 0) ⟨vs.length,Nat.le_refl _,by simp,λi hi=>cf_ge (by have:=hv.len; omega)⟩ ?_;rintro S ⟨m,hm,s0,hz⟩;have d0:=slL_eq s0;have hlen:(vs.take m).length=m:=by simp; omega
 rw [hlen] at d0;have fin:(m=0\/cf l (m-1)≠0)->Spec Tryz.prog f_zpoly_each_api_Int_api_Int [.sl (some 2) (vs.take m),.clo f_zpoly_Norm_1 []] (· =[.own 28 (some 2) (PZ (tr l))]):=by
  intro h;have ea:=each_zz (vs:=vs.take m) (by omega) (λi h=>by
   obtain ⟨b,d,e,_⟩:=(hv.take m).cell i h;exact ⟨b,d,e⟩) f_zpoly_Norm_1 [] (cf l) (λi h=>by
   have hi:i<m:=by omega
   have hz:=(hv.take m).get i h;rw [cf_take,if_pos hi] at hz;exact norm1 hz hk _)
  rw [hlen,range_cf l m (by have:=hv.len; omega),<-tr_take (by have:=hv.len; omega) hz h] at ea;exact ea
 cases m with
 | zero=>
  have ea:=fin (.inl rfl);refine Ws ?_; simp [s0,hlen];refine WS_cF (by simp [s0,hlen]) ?_;refine WS_exit ?_; simp [s0,hlen];refine Wr ?_; simp [s0,hlen];refine callK ea ?_; simp [s0,hlen];refine WS_ret ?_; simp [s0,hlen]
 | succ j=>
  have hj:j<vs.length:=by omega
  obtain ⟨b,d,hvj,hzw,hzi⟩:=hv.cell j hj;have sg:=zsign (isZ_zv (n:=b) hzw) hk;rw [hzi] at sg;have w1:=i64_nat j (by omega);have hlen1:(vs.take (j+1)).length=j+1:=hlen;by_cases h0:cf l j=0
  . rw [h0,Int.sign_zero] at sg;refine Ws ?_; simp [s0,hlen1,w1,hj,hvj];refine ⟨by omega,?_⟩;refine callK sg ?_; simp [s0,hlen1,w1,hj,hvj];refine WS_cT (by simp [s0,hlen1,w1,hj,hvj]) ?_;refine WS_skip ?_; simp [s0,hlen1,w1,hj,hvj];refine WS_block (WS_reg [] ?_); simp [s0,hlen1,w1,hj,hvj];refine ⟨by omega,⟨j,by omega,by simp [List.take_take],λi hi=>?_⟩,?_⟩
    . rcases Nat.lt_or_ge j i with h | h
      . exact hz i h
      . rw [show i=j by omega]; exact h0
    . rw [d0,slL_eq (i:=0) (sz:=some 2) (xs:=vs.take j) (by simp [List.take_take])];simp;omega
  . have hs:¬ (cf l j).sign=0:=by rw [Int.sign_eq_zero_iff_zero]; exact h0
    have ea:=fin (.inr h0);refine Ws ?_; simp [s0,hlen1,w1,hj,hvj,hs];refine ⟨by omega,?_⟩;refine callK sg ?_; simp [s0,hlen1,w1,hj,hvj,hs];refine WS_cF (by simp [s0,hlen1,w1,hj,hvj,hs]) ?_;refine WS_exit ?_; simp [s0,hlen1,w1,hj,hvj,hs];refine Wr ?_; simp [s0,hlen1,w1,hj,hvj,hs];refine callK ea ?_; simp [s0,hlen1,w1,hj,hvj,hs];refine WS_ret ?_; simp [s0,hlen1,w1,hj,hvj,hs]
theorem own_plain {f:FuncId} {args:List V} {T:TypeId} {sz:Option Nat} {xs:List V} (h:Spec Tryz.prog f args (· =[.own T sz xs])):Spec Tryz.prog f args (· =[.pure (.sl sz xs)]):=
 h.plain λr e=>by rw [e]; rfl
def SaS (l:List Int) (S:St):Prop:=∃ i:Nat,i<=l.length/\S.σ 0= .p (.sl (some 2) (PZ l))/\S.σ 1= .p (.sl (some 2) (PZ l))/\S.σ 5= .p (.i .i64 (i:Int))
theorem psame (l:List Int) (hp:PL (2^40) l) (hn:l.length<=2^40):Spec Tryz.prog f_ref10_Same [.sl (some 2) (PZ l),.sl (some 2) (PZ l)] (· =[.pure (.b true)]):=by
 have hpl:=PZ_length l;refine spec_at Tryz.func53 ok_ref10_Same [] rfl (by simp) ?_;unfold sc_ref10_Same;refine Wr ?_; simp [hpl];refine Ws ?_; simp [hpl];refine WS_cF (by simp [hpl]) ?_;refine WS_skip ?_; simp [hpl];refine Ws ?_; simp [hpl];refine WS_block ?_;refine WS_loop (SaS l) (λS=>l.length-nM 5 S) ⟨0,by omega,rfl,rfl,rfl⟩ ?_;rintro S ⟨i,hi,s0,s1,s5⟩;have d5:=nM_eq s5;by_cases hlt:i<l.length
 . have hget:=PZ_get l i (by omega);have sa:=zsame (cf l i) (hp i);have hltI:(i:Int)<(l.length:Int):=by omega
   have wi:=i64_succ i (by omega);obtain ⟨O,hO⟩:∃ O,O=PZ l:=⟨_,rfl⟩;have hOl:i<O.length:=by rw [hO,hpl]; exact hlt
   have hg2:O[i]= .agg [.b (zn (cf l i)),.sl none (uL (zl (cf l i)))]:=by simp only [hO]; exact hget
   rw [<- hO] at hpl s0 s1;refine Ws ?_; simp [s0,s1,s5,hlt,hltI,hpl,wi,hg2];refine WS_cT (by simp [s0,s1,s5,hlt,hltI,hpl,wi,hg2]) ?_;refine WS_skip ?_; simp [s0,s1,s5,hlt,hltI,hpl,wi,hg2];refine WS_seq (WS_block (WS_seq (WS_regD [] ?_))); simp [s0,s1,s5,hlt,hltI,hpl,wi,hg2];refine callD sa rfl ?_; simp [s0,s1,s5,hlt,hltI,hpl,wi,hg2];refine ⟨rfl,?_⟩;refine WS_cF (by simp [s0,s1,s5,hlt,hltI,hpl,wi,hg2]) ?_;refine WS_skip ?_; simp [s0,s1,s5,hlt,hltI,hpl,wi,hg2];refine WS_reg [] ?_; simp [s0,s1,s5,hlt,hltI,hpl,wi,hg2];refine ⟨⟨i+1,by omega,by simp [s0,hO],by simp [s1,hO],by simp⟩,?_⟩;show l.length-nM 5 _<l.length-nM 5 S;rw [d5,nM_eq (i:=5) (n:=i+1) (by simp)];omega
 . obtain rfl:i=l.length:=by omega
   have hltI:¬ (l.length:Int)<(l.length:Int):=by omega
   refine Ws ?_; simp [s0,s1,s5,hpl,hltI];refine WS_cF (by simp [s0,s1,s5,hpl,hltI]) ?_;refine WS_exit ?_; simp [s0,s1,s5,hpl,hltI];refine Wr ?_; simp [s0,s1,s5,hpl,hltI];refine WS_ret ?_; simp [s0,s1,s5,hpl,hltI]
def smR (w:Nat) (M:List (Bool × List Nat)):Bool:=M.all λp=>decide (p.2.length<=w)
def smB (n w:Nat) (Ms:List (List (Bool × List Nat))):Bool:=Ms.all λM=>decide (M.length<=n) && smR w M
def mL (Ms:List (List (Bool × List Nat))):List V:=Ms.map λM=>.sl (some 2) (zL M)
theorem smB_false {n w:Nat} {Ms:List (List (Bool × List Nat))} {M:List (Bool × List Nat)} (hM:M∈Ms) (h:(decide (M.length<=n) && smR w M)=false):smB n w Ms=false:=by
 rw [smB,List.all_eq_false];exact ⟨M,hM,by rw [h]; simp⟩
theorem smB_snoc {n w:Nat} {Ms:List (List (Bool × List Nat))} {M:List (Bool × List Nat)} (h:smB n w Ms=true) (h1:M.length<=n) (h2:smR w M=true):smB n w (Ms++[M])=true:=by
 rw [smB] at h ⊢;rw [List.all_append,h];simp [h1,h2]
theorem smR_snoc {w:Nat} {M:List (Bool × List Nat)} {p:Bool × List Nat} (h:smR w M=true) (h1:p.2.length<=w):smR w (M++[p])=true:=by
 rw [smR] at h ⊢;rw [List.all_append,h];simp [h1]
def Sml (l:List Int):Prop:=∀ x∈l,-9223372036854775808<=x/\x<=9223372036854775807
instance (l:List Int):Decidable (Sml l):=inferInstanceAs (Decidable (∀ x∈l,_))
def exV (x y:Int):Int:=if y=0 then 0 else if x%y=0 then x / y else 0
theorem exactR_exV (x y:Int):∃ e:Int,exactR x y=[.pure (Z (exV x y)),.pure (.i .i64 e)]:=by
 unfold exactR exV;split
 . exact ⟨_,rfl⟩
 . split
   . exact ⟨_,rfl⟩
   . exact ⟨_,rfl⟩
end Go.Vw
