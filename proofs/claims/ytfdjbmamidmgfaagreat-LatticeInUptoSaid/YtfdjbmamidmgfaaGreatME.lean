/- Integers: common divisors, powers, roots. -/
import Derived.Test.YtfdjbmamidmgfaaGreatMD
import Derived.Test.YtfdjbmamidmgfaaGreatMB
import Derived.Test.YtfdjbmamidmgfaaGreatMA
set_option linter.unusedVariables false
set_option linter.unusedSimpArgs false
namespace Go.Vw
open Go.Proofs
def vM (xs:List V):Nat:=Nm.val 18446744073709551616 (xs.map λ| .i _ n=>n.toNat | _=>0)
theorem vM_eq (l:List Nat):vM (uL l)=Nm.val 18446744073709551616 l:=by
 simp only [vM,uL,List.map_map];congr 1;have:((λ| V.i _ n=>n.toNat | _=>0) ∘ λx:Nat=>V.i .u64 (x:Int))=id:=by funext x; simp
 rw [this,List.map_id]
def slM (i:Nat) (S:St):Nat:=match S.σ i with | .p (.sl _ xs)=>vM xs | _=>0
def bxM (i:Nat) (S:St):Nat:=match (S.h i).o with | some (.box _ [_,.sl _ xs])=>vM xs | _=>0
theorem slM_eq {i:Nat} {S:St} {l:List Nat} (h:S.σ i= .p (U l)):slM i S=Nm.val 18446744073709551616 l:=by simp only [slM,h,U,vM_eq]
theorem bxM_eq {i g t:Nat} {S:St} {n:V} {l:List Nat} (h:S.h i=⟨g,some (.box t [n,.sl none (uL l)])⟩):bxM i S=Nm.val 18446744073709551616 l:=by simp only [bxM,h,vM_eq]
def GcdZ (g K:Nat) (S:St):Prop:=∃ x y:Nat,S.σ 5= .p (U (Nm.dig 18446744073709551616 x))/\S.σ 6= .p (U (Nm.dig 18446744073709551616 y))/\x<18446744073709551616^K/\y<18446744073709551616^K/\Nat.gcd x y=g/\
 S.σ 4= .ptr 4 1 0/\S.h 4=⟨1,some (.box 28 [.b false,.sl none []])⟩
def GcdR (g K:Nat) (S:St):Prop:=∃ x y:Int,S.h 5=⟨1,some (.box 28 [.b (zn x),.sl none (uL (zl x))])⟩/\S.h 6=⟨1,some (.box 28 [.b (zn y),.sl none (uL (zl y))])⟩/\zlen x<=K/\zlen y<=K/\0<=x/\0<=y/\Int.gcd x y=g/\
 S.σ 5= .ptr 5 1 0/\S.σ 6= .ptr 6 1 0/\S.σ 4= .ptr 4 1 0/\S.h 4=⟨1,some (.box 28 [.b false,.sl none []])⟩
theorem gcd_step {x y g:Nat} (h:Nat.gcd x y=g):Nat.gcd y (x%y)=g:=by
 rw [<- h,Nat.gcd_comm x y,Nat.gcd_comm y (x%y)];exact (Nat.gcd_rec y x).symm
attribute [local simp] zv V.fits fillOk fillV Z_eq
theorem zgcd {k:Nat} {v w:V} {x y:Int} (hv:IsZ k v x) (hw:IsZ k w y) (hk:k<=2^33):Spec Tryz.prog f_zint_Gcd [v,w] (· =[.pure (Z (Int.gcd x y:Int))]):=by
 obtain ⟨n1,l1,rfl,h1,rfl⟩:=hv;obtain ⟨n2,l2,rfl,h2,rfl⟩:=hw;have c1:=h1.len;have c2:=h2.len;have m1:=nnorm_spec l1 (by omega);have m2:=nnorm_spec l2 (by omega);rw [<- Nm.dig_val (by omega) h1.dl] at m1;rw [<- Nm.dig_val (by omega) h2.dl] at m2;have v1:=lt_zlen' (isZ_zv (n:=n1) h1).zlen;have v2:=lt_zlen' (isZ_zv (n:=n2) h2).zlen;have eg:Int.gcd (zi n1 l1) (zi n2 l2)=Nat.gcd (Nm.val 18446744073709551616 l1) (Nm.val 18446744073709551616 l2):=by rw [Int.gcd,zi_abs,zi_abs]
 rw [zi_abs] at v1 v2;obtain ⟨g,hg⟩:∃ g,g=Int.gcd (zi n1 l1) (zi n2 l2):=⟨_,rfl⟩;rw [<- hg] at eg ⊢;obtain ⟨a,ha⟩:∃ a,a=Nm.val 18446744073709551616 l1:=⟨_,rfl⟩;obtain ⟨b,hb⟩:∃ a,a=Nm.val 18446744073709551616 l2:=⟨_,rfl⟩;rw [<- ha] at m1 v1 eg;rw [<- hb] at m2 v2 eg;refine spec_at Tryz.func74 ok_zint_Gcd [] rfl (by simp) ?_;unfold sc_zint_Gcd;refine Wr ?_; simp;refine WS_seq (WS_regD [] ?_); simp;refine callD m1 rfl ?_; simp;refine callD m2 rfl ?_; simp;refine ⟨rfl,?_⟩;refine WS_seq (WS_block ?_);refine WS_loop (GcdZ g k) (slM 6) ⟨a,b,rfl,rfl,v1,v2,eg.symm,rfl,rfl⟩ ?_;rintro S ⟨x,y,s5,s6,hx,hy,hxy,s4,h4⟩;have dx:=slM_eq s6;rw [Nm.val_dig (by omega)] at dx;have lx:=Nm.dig_length_le (B:=18446744073709551616) (by omega) hx;have ly:=Nm.dig_length_le (B:=18446744073709551616) (by omega) hy;by_cases h0:y=0
 . subst h0;rw [Nat.gcd_zero_right] at hxy;subst hxy;have mk:=made_spec false (Nm.dig 18446744073709551616 x) ⟨Nm.dig_lt (by omega) _,by omega⟩;have e:zi false (Nm.dig 18446744073709551616 x)=(x:Int):=by simp [zi,Nm.val_dig]
   rw [e] at mk;refine Ws ?_; simp [s5,s6,s4,h4,U,Nm.dig_zero];refine WS_cF (by simp [s5,s6,s4,h4,U,Nm.dig_zero]) ?_;refine WS_exit ?_; simp [s5,s6,s4,h4,U,Nm.dig_zero];refine Wr ?_; simp [s5,s6,s4,h4,U,Nm.dig_zero];refine callK mk ?_; simp [s5,s6,s4,h4,U,Nm.dig_zero];refine WS_ret ?_; simp [s5,s6,s4,h4,U,Nm.dig_zero]
 . have dv:=ndiv_spec (Nm.dig 18446744073709551616 x) (Nm.dig 18446744073709551616 y) (Nm.dig_lt (by omega) _) (Nm.dig_lt (by omega) _) (by omega) (by omega) (by rw [Nm.val_dig (by omega)]; exact h0);rw [Nm.val_dig (by omega),Nm.val_dig (by omega)] at dv;have hp:=Nm.dig_length_pos (B:=18446744073709551616) (by omega) h0;have hr:=Nat.mod_lt x (show 0<y by omega);refine Ws ?_; simp [s5,s6,s4,h4,U,hp];refine WS_cT (by simp [s5,s6,s4,h4,U,hp]) ?_;refine WS_skip ?_; simp [s5,s6,s4,h4,U,hp];refine WS_block (Wr ?_); simp [s5,s6,s4,h4,U,hp];refine callK dv ?_; simp [s5,s6,s4,h4,U,hp];refine WS_reg [] ?_; simp [s5,s6,s4,h4,U,hp];refine ⟨⟨y,x%y,by simp [s6,U],by simp [U],hy,by omega,gcd_step hxy,by simp [s4],by simp [h4]⟩,?_⟩;rw [dx,slM_eq (l:=Nm.dig 18446744073709551616 (x%y)) (by simp [U]),Nm.val_dig (by omega)];exact hr
theorem rgcd {k:Nat} {v w:V} {x y:Int} (hv:IsZ k v x) (hw:IsZ k w y) (hk:k<=2^33):Spec Tryz.prog f_ref02_Gcd [v,w] (· =[.pure (Z (Int.gcd x y:Int))]):=by
 have a1:=rabs hv (by omega);have a2:=rabs hw (by omega);have z1:=hv.zlen;have z2:=hw.zlen;obtain ⟨n1,l1,rfl,h1,rfl⟩:=hv;obtain ⟨n2,l2,rfl,h2,rfl⟩:=hw;obtain ⟨g,hg⟩:∃ g,g=Int.gcd (zi n1 l1) (zi n2 l2):=⟨_,rfl⟩;have eg:Int.gcd ((zi n1 l1).natAbs:Int) ((zi n2 l2).natAbs:Int)=g:=by rw [hg]; simp [Int.gcd]
 have w1:zlen ((zi n1 l1).natAbs:Int)<=k:=Nat.le_trans (zlen_le (by simp)) z1;have w2:zlen ((zi n2 l2).natAbs:Int)<=k:=Nat.le_trans (zlen_le (by simp)) z2;rw [<- hg];obtain ⟨a,ha⟩:∃ a:Int,a=((zi n1 l1).natAbs:Int):=⟨_,rfl⟩;obtain ⟨b,hb⟩:∃ a:Int,a=((zi n2 l2).natAbs:Int):=⟨_,rfl⟩;rw [<- ha] at a1 eg w1;rw [<- hb] at a2 eg w2;refine spec_at Tryz.func185 ok_ref02_Gcd [] rfl (by simp) ?_;unfold sc_ref02_Gcd;refine Wr ?_; simp;refine Wr ?_; simp;refine callK a1 ?_; simp;refine Wr ?_; simp;refine callK a2 ?_; simp;refine WS_seq (WS_block ?_);refine WS_loop (GcdR g k) (bxM 6) ⟨a,b,rfl,rfl,w1,w2,by omega,by omega,eg,rfl,rfl,rfl,rfl⟩ ?_;rintro S ⟨x,y,h5,h6,lx,ly,px,py,hxy,s5,s6,s4,h4⟩;have dx:=bxM_eq h6;rw [zl,Nm.val_dig (by omega)] at dx;have sg:=rsign (isZ_Z ly) (by omega);by_cases h0:y=0
 . subst h0;have hxy:x=(g:Int):=by rw [Int.gcd_zero_right] at hxy; omega
   subst hxy;refine Ws ?_; simp [s5,s6,s4,h4,h5,h6];refine callK sg ?_; simp [s5,s6,s4,h4,h5,h6];refine WS_cF (by simp [s5,s6,s4,h4,h5,h6]) ?_;refine WS_exit ?_; simp [s5,s6,s4,h4,h5,h6];refine Wr ?_; simp [s5,s6,s4,h4,h5,h6];refine WS_ret ?_; simp [s5,s6,s4,h4,h5,h6]
 . have dv:=rdivz (isZ_Z lx) (isZ_Z ly) (by omega) h0;have hr:=Int.emod_lt_of_pos x (show 0<y by omega);have hr0:=Int.emod_nonneg x h0;have sp:y.sign=1:=Int.sign_eq_one_of_pos (by omega);rw [sp] at sg;refine Ws ?_; simp [s5,s6,s4,h4,h5,h6];refine callK sg ?_; simp [s5,s6,s4,h4,h5,h6];refine WS_cT (by simp [s5,s6,s4,h4,h5,h6]) ?_;refine WS_skip ?_; simp [s5,s6,s4,h4,h5,h6];refine WS_block (Wr ?_); simp [s5,s6,s4,h4,h5,h6];refine callK dv ?_; simp [s5,s6,s4,h4,h5,h6];refine Wr ?_; simp [s5,s6,s4,h4,h5,h6];refine WS_reg [] ?_; simp [s5,s6,s4,h4,h5,h6];refine ⟨⟨y,x%y,by simp,by simp,ly,Nat.le_trans (zlen_emod x y h0) ly,py,hr0,?_,by simp [s5],by simp [s6],by simp [s4],by simp [h4]⟩,?_⟩
   . rw [<- hxy,Int.gcd_comm x y,Int.gcd,Int.gcd,Int.natAbs_emod_of_nonneg px];exact gcd_step rfl |>.trans (Nat.gcd_comm _ _)
   . rw [dx,bxM_eq (g:=1) (t:=28) (n:=.b (zn (x%y))) (l:=zl (x%y)) (by simp),zl,Nm.val_dig (by omega)];omega
theorem gcd_len {x y:Int} {k:Nat} (hx:zlen x<=k) (hy:zlen y<=k):zlen (Int.gcd x y:Int)<=k:=by
 by_cases h0:x=0
 . subst h0; rw [Int.gcd_zero_left]; exact Nat.le_trans (zlen_le (by simp)) hy
 . have:=Int.gcd_le_natAbs_left (b:=y) h0;exact Nat.le_trans (zlen_le (by simpa using this)) hx
def nM (i:Nat) (S:St):Nat:=match S.σ i with | .p (.i _ n)=>n.toNat | _=>0
theorem nM_eq {i:Nat} {S:St} {n:Nat} (h:S.σ i= .p (.i .i64 (n:Int))):nM i S=n:=by simp only [nM,h]; omega
end Go.Vw
