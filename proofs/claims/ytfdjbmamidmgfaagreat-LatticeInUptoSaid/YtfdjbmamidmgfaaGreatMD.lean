/- Integers: sums, products, division, texts. -/
import Derived.Test.YtfdjbmamidmgfaaGreatMC
import Derived.Test.YtfdjbmamidmgfaaGreatS3
set_option linter.unusedVariables false
set_option linter.unusedSimpArgs false
namespace Go.Vw
open Go.Proofs
def zv (n:Bool) (l:List Nat):V:=.agg [.b n,.sl none (uL l)]
def zi (n:Bool) (l:List Nat):Int:=if n then -(Nm.val 18446744073709551616 l:Int) else (Nm.val 18446744073709551616 l:Int)
def zn (z:Int):Bool:=decide (z<0)
def zl (z:Int):List Nat:=Nm.dig 18446744073709551616 z.natAbs
def Z (z:Int):V:=zv (zn z) (zl z)
structure ZW (k:Nat) (l:List Nat):Prop where
 dl:Nm.Dl 18446744073709551616 l
 len:l.length<=k
theorem ZW.mono {k m:Nat} {l:List Nat} (h:ZW k l) (hk:k<=m):ZW m l:=⟨h.dl,Nat.le_trans h.len hk⟩
theorem zi_abs (n:Bool) (l:List Nat):(zi n l).natAbs=Nm.val 18446744073709551616 l:=by cases n<;>simp [zi]
theorem zi_Z (z:Int):zi (zn z) (zl z)=z:=by
 unfold zi zn zl;rw [Nm.val_dig (by omega)];by_cases h:z<0
 . rw [decide_eq_true h,if_pos rfl]; omega
 . rw [decide_eq_false h,if_neg (by simp)]; omega
theorem zl_dl (z:Int):Nm.Dl 18446744073709551616 (zl z):=Nm.dig_lt (by omega) _
theorem zl_val (z:Int):Nm.val 18446744073709551616 (zl z)=z.natAbs:=Nm.val_dig (by omega) _
theorem zl_zi (n:Bool) {l:List Nat} (hl:Nm.Dl 18446744073709551616 l):zl (zi n l)=Nm.trim l:=by rw [zl,zi_abs,Nm.dig_val (by omega) hl]
theorem zn_zi (n:Bool) {l:List Nat} (hl:Nm.Dl 18446744073709551616 l):zn (zi n l)=(n && decide (0<(Nm.trim l).length)):=by
 rw [<- Nm.dig_val (by omega) hl];have h1:= @Nm.dig_length_pos 18446744073709551616 (by omega) (Nm.val 18446744073709551616 l);by_cases h0:Nm.val 18446744073709551616 l=0
 . rw [h0];cases n<;>simp [zn,zi,h0,Nm.dig_zero]
 . have:=h1 h0;cases n<;>simp [zn,zi,this]<;>omega
theorem zl_nil:zl 0=[]:=rfl
theorem zl_pos {z:Int} (h:z≠0):0<(zl z).length:=Nm.dig_length_pos (by omega) (by omega)
theorem Z_eq (z:Int):Z z= .agg [.b (zn z),.sl none (uL (zl z))]:=rfl
theorem made_spec (n:Bool) (l:List Nat) (hl:ZW (2^40) l):Spec Tryz.prog f_zint_made [.b n,.sl none (uL l)] (· =[.pure (Z (zi n l))]):=by
 refine spec_at Tryz.func86 ok_zint_made [] rfl (by simp) ?_;unfold sc_zint_made;have nn:=nnorm_spec l hl.len;have e1:=zl_zi n hl.dl;have e2:=zn_zi n hl.dl;rw [Z_eq,e1,e2];obtain ⟨t,ht⟩:∃ t,t=Nm.trim l:=⟨_,rfl⟩;rw [<- ht] at nn ⊢;refine Wr ?_; simp;refine Wr ?_; simp;refine callK nn ?_; simp [U];refine Wr ?_;cases n<;>simp [fillOk,fillV,V.fits]
 . refine WS_ret ?_; simp
 . refine WS_ret ?_; simp
theorem znorm_spec (n:Bool) (l:List Nat) (hl:ZW (2^40) l):Spec Tryz.prog f_zint_Norm [zv n l] (· =[.pure (Z (zi n l))]):=by
 refine spec_at Tryz.func81 ok_zint_Norm [] rfl (by simp) ?_;unfold sc_zint_Norm;have m:=made_spec n l hl;rw [Z_eq] at m ⊢;obtain ⟨zn',hzn⟩:∃ t,t=zn (zi n l):=⟨_,rfl⟩;obtain ⟨zl',hzl⟩:∃ t,t=zl (zi n l):=⟨_,rfl⟩;rw [<- hzn,<-hzl] at m ⊢;refine Wr ?_; simp [zv];refine Wr ?_; simp;refine callK m ?_; simp [V.fits];refine WS_ret ?_; simp
theorem zneg_spec (n:Bool) (l:List Nat) (hl:ZW (2^40) l):Spec Tryz.prog f_zint_Neg [zv n l] (· =[.pure (Z (-zi n l))]):=by
 refine spec_at Tryz.func33 ok_zint_Neg [] rfl (by simp) ?_;unfold sc_zint_Neg;have m:=made_spec (!n) l hl;rw [show zi (!n) l= -zi n l by cases n<;>simp [zi]] at m;rw [Z_eq] at m ⊢;obtain ⟨zn',hzn⟩:∃ t,t=zn (-zi n l):=⟨_,rfl⟩;obtain ⟨zl',hzl⟩:∃ t,t=zl (-zi n l):=⟨_,rfl⟩;rw [<- hzn,<-hzl] at m ⊢;refine Wr ?_; simp [zv];refine Wr ?_; simp;refine callK m ?_; simp [V.fits];refine WS_ret ?_; simp
theorem zw_dig {m:Nat} {k:Nat} (h:m<18446744073709551616^k):ZW k (Nm.dig 18446744073709551616 m):=⟨Nm.dig_lt (by omega) _,Nm.dig_length_le (by omega) h⟩
theorem zadd_spec (n1 n2:Bool) (l1 l2:List Nat) (h1:ZW (2^37) l1) (h2:ZW (2^37) l2):Spec Tryz.prog f_zint_Add [zv n1 l1,zv n2 l2] (· =[.pure (Z (zi n1 l1+zi n2 l2))]):=by
 refine spec_at Tryz.func82 ok_zint_Add [] rfl (by simp) ?_;unfold sc_zint_Add;have c1:=h1.len;have c2:=h2.len;obtain ⟨K,hK⟩:∃ K:Nat,K=2^37:=⟨_,rfl⟩;have v1:=Nat.lt_of_lt_of_le (Nm.val_lt h1.dl) (Nat.pow_le_pow_right (n:=18446744073709551616) (by omega) (show l1.length<=K by omega));have v2:=Nat.lt_of_lt_of_le (Nm.val_lt h2.dl) (Nat.pow_le_pow_right (n:=18446744073709551616) (by omega) (show l2.length<=K by omega));have ad:=add_spec l1 l2 h1.dl h2.dl (by omega) (by omega);have cm:=ncmp_spec l1 l2 h1.dl h2.dl (by omega) (by omega);have s12:=sub_spec l1 l2 h1.dl h2.dl (by omega) (by omega);have s21:=sub_spec l2 l1 h2.dl h1.dl (by omega) (by omega);obtain ⟨a,ha⟩:∃ a,a=Nm.val 18446744073709551616 l1:=⟨_,rfl⟩;obtain ⟨b,hb⟩:∃ a,a=Nm.val 18446744073709551616 l2:=⟨_,rfl⟩;rw [<- ha] at v1 ad cm s12 s21;rw [<- hb] at v2 ad cm s12 s21;have mk:∀ (n:Bool) (m:Nat),m<=a+b->Spec Tryz.prog f_zint_made [.b n,.sl none (uL (Nm.dig 18446744073709551616 m))] (· =[.pure (Z (if n then -(m:Int) else (m:Int)))]):=by
  intro n m hm;have:=made_spec n (Nm.dig 18446744073709551616 m) ((zw_dig (k:=K+1) (by rw [Nat.pow_succ]; omega)).mono (by omega))
  rwa [zi,Nm.val_dig (by omega)] at this
 have e1:zi n1 l1=if n1 then -(a:Int) else (a:Int):=by rw [ha]; rfl
 have e2:zi n2 l2=if n2 then -(b:Int) else (b:Int):=by rw [hb]; rfl
 rw [e1,e2];clear e1 e2 v1 v2 ha hb;refine Wr ?_; simp [zv];by_cases hs:n1=n2
 . subst hs;have m:=mk n1 (a+b) (Nat.le_refl _);rw [show (if n1=true then -((a+b:Nat):Int) else ((a+b:Nat):Int))=(if n1=true then -(a:Int) else (a:Int))+(if n1=true then -(b:Int) else (b:Int)) by cases n1<;>simp<;>omega] at m;rw [Z_eq] at m ⊢;obtain ⟨zn',hzn⟩:∃ t,t=zn ((if n1=true then -(a:Int) else (a:Int))+(if n1=true then -(b:Int) else (b:Int))):=⟨_,rfl⟩;obtain ⟨zl',hzl⟩:∃ t,t=zl ((if n1=true then -(a:Int) else (a:Int))+(if n1=true then -(b:Int) else (b:Int))):=⟨_,rfl⟩;rw [<- hzn,<-hzl] at m ⊢;refine Ws ?_; simp;refine WS_cT (by simp) ?_;refine WS_seq (WS_regD [] ?_); simp;refine callD ad rfl ?_; simp [U];refine callD m rfl ?_; simp [V.fits];refine ⟨rfl,?_⟩;refine WS_ret ?_; simp
 . have hs':(n1 == n2)=false:=by simpa using hs
   have key:∃ (n:Bool) (m:Nat),m<=a+b/\((if n1=true then -(a:Int) else (a:Int))+(if n2=true then -(b:Int) else (b:Int)))=(if n then -(m:Int) else (m:Int))/\((a<b/\n=n2/\m=b-a)\/(¬ a<b/\n=n1/\m=a-b)):=by
    by_cases h:a<b
    . exact ⟨n2,b-a,by omega,by cases n1<;>cases n2<;>simp at hs<;>simp<;>omega,.inl ⟨h,rfl,rfl⟩⟩
    . exact ⟨n1,a-b,by omega,by cases n1<;>cases n2<;>simp at hs<;>simp<;>omega,.inr ⟨h,rfl,rfl⟩⟩
   obtain ⟨n,m,hm,he,hc⟩:=key;rw [he];have mm:=mk n m hm;rw [Z_eq] at mm ⊢;obtain ⟨zn',hzn⟩:∃ t,t=zn (if n=true then -(m:Int) else (m:Int)):=⟨_,rfl⟩;obtain ⟨zl',hzl⟩:∃ t,t=zl (if n=true then -(m:Int) else (m:Int)):=⟨_,rfl⟩;rw [<- hzn,<-hzl] at mm ⊢;obtain ⟨D,hD⟩:∃ D,D=Nm.dig 18446744073709551616 m:=⟨_,rfl⟩;rw [<- hD] at mm;refine Ws ?_; simp [hs'];refine WS_cF (by simp) ?_;refine WS_skip ?_; simp;refine Ws ?_; simp;refine callK cm ?_;rcases hc with ⟨h,rfl,rfl⟩ | ⟨h,rfl,rfl⟩
   . rw [if_pos (by omega),<-hD] at s21;rw [show Nm.cmpN a b= -1 by unfold Nm.cmpN; rw [if_pos h]];simp;refine WS_cT (by simp) ?_;refine WS_reg [] ?_; simp [V.fits];refine Wr ?_; simp;refine callK s21 ?_; simp [U];refine Wr ?_; simp;refine callK mm ?_; simp [V.fits];refine WS_ret ?_; simp
   . rw [if_pos (by omega),<-hD] at s12;have ec:¬ Nm.cmpN a b<0:=by unfold Nm.cmpN; rw [if_neg h]; split<;>omega
     simp [ec];refine WS_cF (by simp) ?_;refine WS_skip ?_; simp;refine Wr ?_; simp;refine callK s12 ?_; simp [U];refine Wr ?_; simp;refine callK mm ?_; simp [V.fits];refine WS_ret ?_; simp
def IsZ (k:Nat) (v:V) (z:Int):Prop:=∃ n l,v=zv n l/\ZW k l/\zi n l=z
def zlen (z:Int):Nat:=(zl z).length
theorem IsZ.mono {k m:Nat} {v:V} {z:Int} (h:IsZ k v z) (hk:k<=m):IsZ m v z:=by
 obtain ⟨n,l,h1,h2,h3⟩:=h;exact ⟨n,l,h1,h2.mono hk,h3⟩
theorem isZ_zv {k:Nat} {n:Bool} {l:List Nat} (h:ZW k l):IsZ k (zv n l) (zi n l):=⟨n,l,rfl,h,rfl⟩
theorem isZ_Z {k:Nat} {z:Int} (h:zlen z<=k):IsZ k (Z z) z:=⟨zn z,zl z,rfl,⟨zl_dl z,h⟩,zi_Z z⟩
theorem Z_zero:V.agg [.b false,.sl none []]=Z 0:=rfl
theorem zlen_lt {z:Int} {k:Nat} (h:z.natAbs<18446744073709551616^k):zlen z<=k:=Nm.dig_length_le (by omega) h
theorem lt_zlen (z:Int):z.natAbs<18446744073709551616^zlen z:=by
 have:=Nm.val_lt (zl_dl z)
 rwa [zl_val] at this
theorem lt_zlen' {z:Int} {k:Nat} (h:zlen z<=k):z.natAbs<18446744073709551616^k:=Nat.lt_of_lt_of_le (lt_zlen z) (Nat.pow_le_pow_right (by omega) h)
theorem zlen_le {x y:Int} (h:x.natAbs<=y.natAbs):zlen x<=zlen y:=zlen_lt (Nat.lt_of_le_of_lt h (lt_zlen y))
theorem IsZ.zlen {k:Nat} {v:V} {z:Int} (h:IsZ k v z):zlen z<=k:=by
 obtain ⟨n,l,rfl,h2,rfl⟩:=h;have:=Nm.trim_length_le l;unfold Vw.zlen;rw [zl_zi n h2.dl];have:=h2.len;omega
theorem zlen_neg (x:Int):zlen (-x)=zlen x:=by simp [zlen,zl]
theorem zlen_add (x y:Int):zlen (x+y)<=max (zlen x) (zlen y)+1:=by
 refine zlen_lt ?_;have h1:=lt_zlen' (Nat.le_max_left (zlen x) (zlen y));have h2:=lt_zlen' (Nat.le_max_right (zlen x) (zlen y));rw [Nat.pow_succ];omega
theorem zlen_sub (x y:Int):zlen (x-y)<=max (zlen x) (zlen y)+1:=by
 have:=zlen_add x (-y)
 rwa [zlen_neg] at this
theorem zlen_mul (x y:Int):zlen (x*y)<=zlen x+zlen y:=by
 refine zlen_lt ?_;rw [Int.natAbs_mul,Nat.pow_add];exact Nat.mul_lt_mul'' (lt_zlen x) (lt_zlen y)
theorem zlen_zero:zlen 0=0:=rfl
theorem zlen_one:zlen 1<=1:=zlen_lt (by decide)
theorem zlen_small {x:Int} (h:x.natAbs<18446744073709551616):zlen x<=1:=zlen_lt (by simpa using h)
attribute [local simp] zv V.fits fillOk fillV Z_eq
theorem znorm {k:Nat} {v:V} {x:Int} (hv:IsZ k v x) (hk:k<=2^40):Spec Tryz.prog f_zint_Norm [v] (· =[.pure (Z x)]):=by
 obtain ⟨n,l,rfl,h,rfl⟩:=hv;exact znorm_spec n l (h.mono hk)
theorem zneg {k:Nat} {v:V} {x:Int} (hv:IsZ k v x) (hk:k<=2^40):Spec Tryz.prog f_zint_Neg [v] (· =[.pure (Z (-x))]):=by
 obtain ⟨n,l,rfl,h,rfl⟩:=hv;exact zneg_spec n l (h.mono hk)
theorem zadd {k:Nat} {v w:V} {x y:Int} (hv:IsZ k v x) (hw:IsZ k w y) (hk:k<=2^37):Spec Tryz.prog f_zint_Add [v,w] (· =[.pure (Z (x+y))]):=by
 obtain ⟨n,l,rfl,h,rfl⟩:=hv;obtain ⟨n',l',rfl,h',rfl⟩:=hw;exact zadd_spec n n' l l' (h.mono hk) (h'.mono hk)
theorem zsub {k:Nat} {v w:V} {x y:Int} (hv:IsZ k v x) (hw:IsZ k w y) (hk:k<=2^37):Spec Tryz.prog f_zint_Sub [v,w] (· =[.pure (Z (x-y))]):=by
 have ng:=zneg hw (by omega);have hl:=hw.zlen;have ad:=zadd hv (isZ_Z (z:= -y) (k:=k) (by rw [zlen_neg]; exact hl)) hk;rw [<- Int.sub_eq_add_neg] at ad;obtain ⟨n,l,rfl,h,rfl⟩:=hv;obtain ⟨n',l',rfl,h',rfl⟩:=hw;refine spec_at Tryz.func85 ok_zint_Sub [] rfl (by simp) ?_;unfold sc_zint_Sub;simp only [zv] at ng ad;refine Wr ?_; simp;refine WS_seq (WS_regD [] ?_); simp;refine callD ng rfl ?_; simp;refine callD ad rfl ?_; simp;refine ⟨rfl,?_⟩;refine WS_ret ?_; simp
theorem zmul {k:Nat} {v w:V} {x y:Int} (hv:IsZ k v x) (hw:IsZ k w y) (hk:k<=2^28):Spec Tryz.prog f_zint_Mul [v,w] (· =[.pure (Z (x*y))]):=by
 obtain ⟨n,l,rfl,h,rfl⟩:=hv;obtain ⟨n',l',rfl,h',rfl⟩:=hw;have c1:=h.len;have c2:=h'.len;have mu:=mul_spec l l' h.dl h'.dl (by omega) (by omega);have hlt:Nm.val 18446744073709551616 l*Nm.val 18446744073709551616 l'<18446744073709551616^(l.length+l'.length):=by rw [Nat.pow_add]; exact Nat.mul_lt_mul'' (Nm.val_lt h.dl) (Nm.val_lt h'.dl)
 have mk:=made_spec (n != n') (Nm.dig 18446744073709551616 (Nm.val 18446744073709551616 l*Nm.val 18446744073709551616 l')) ((zw_dig hlt).mono (by omega));have he:zi (n != n') (Nm.dig 18446744073709551616 (Nm.val 18446744073709551616 l*Nm.val 18446744073709551616 l'))=zi n l*zi n' l':=by
  simp only [zi,Nm.val_dig (show 2<=18446744073709551616 by omega)];cases n<;>cases n'<;>simp [Int.neg_mul,Int.mul_neg]
 rw [he] at mk;refine spec_at Tryz.func60 ok_zint_Mul [] rfl (by simp) ?_;unfold sc_zint_Mul;refine Wr ?_; simp [U];refine WS_seq (WS_regD [] ?_); simp [U];refine callD mu rfl ?_; simp [U];refine callD mk rfl ?_; simp [U];refine ⟨rfl,?_⟩;refine WS_ret ?_; simp [U]
theorem u64_neg_i64 {n:Int} (h:n<0) (h2: -9223372036854775808<=n):IntKind.u64.wrap (-IntKind.u64.wrap n)=(n.natAbs:Int):=by
 rw [IntKind.wrap_u64,IntKind.wrap_u64]; omega
theorem u64_i64 {n:Int} (h:0<=n) (h2:n<=9223372036854775807):IntKind.u64.wrap n=(n.natAbs:Int):=by
 rw [IntKind.wrap_u64]; omega
theorem zof (n:Int) (h1: -9223372036854775808<=n) (h2:n<=9223372036854775807):Spec Tryz.prog f_zint_Of [.i .i64 n] (· =[.pure (Z n)]):=by
 refine spec_at Tryz.func59 ok_zint_Of [] rfl (by simp) ?_;unfold sc_zint_Of;have hd:ZW (2^40) [n.natAbs]:=⟨Nm.Dl.cons (by omega) (Nm.Dl.nil _),by simp⟩;by_cases h:n<0
 . have mk:=made_spec true [n.natAbs] hd;rw [show zi true [n.natAbs]=n by simp [zi,Nm.val]; omega,show uL [n.natAbs]=[V.i .u64 (n.natAbs:Int)] from rfl] at mk;have e:=u64_neg_i64 h h1;refine Wr ?_; simp [h,e];refine Ws ?_; simp [h,e];refine WS_cT (by simp [h,e]) ?_;refine Wr ?_; simp [h,e];refine callK mk ?_; simp [h,e];refine WS_ret ?_; simp [h,e]
 . have mk:=made_spec false [n.natAbs] hd;rw [show zi false [n.natAbs]=n by simp [zi,Nm.val]; omega,show uL [n.natAbs]=[V.i .u64 (n.natAbs:Int)] from rfl] at mk;have e:=u64_i64 (by omega) h2;refine Wr ?_; simp [h,e];refine Ws ?_; simp [h,e];refine WS_cF (by simp [h,e]) ?_;refine WS_skip ?_; simp [h,e];refine Wr ?_; simp [h,e];refine callK mk ?_; simp [h,e];refine WS_ret ?_; simp [h,e]
theorem sign_lt {x:Int} (h:x<0):x.sign= -1:=Int.sign_eq_neg_one_of_neg h
theorem sign_gt {x:Int} (h:0<x):x.sign=1:=Int.sign_eq_one_of_pos h
theorem zn_false {x:Int} (h:0<=x):zn x=false:=decide_eq_false (by omega)
theorem zn_true {x:Int} (h:x<0):zn x=true:=decide_eq_true h
theorem zsign {k:Nat} {v:V} {x:Int} (hv:IsZ k v x) (hk:k<=2^40):Spec Tryz.prog f_zint_Sign [v] (· =[.pure (.i .i64 x.sign)]):=by
 have nn:=znorm hv hk;obtain ⟨n,l,rfl,h,rfl⟩:=hv;refine spec_at Tryz.func79 ok_zint_Sign [] rfl (by simp) ?_;unfold sc_zint_Sign;obtain ⟨x,hx⟩:∃ x,x=zi n l:=⟨_,rfl⟩;rw [<- hx] at nn ⊢;by_cases h1:x<0
 . have e1:=zn_true h1;rw [sign_lt h1];refine Wr ?_; simp [e1,i64_int];refine Wr ?_; simp [e1,i64_int];refine callK nn ?_; simp [e1,i64_int];refine Wr ?_; simp [e1,i64_int];refine WS_seq (WS_block (WS_seq (WS_block (WS_seq (WS_block (WS_seq (Ws ?_))))))); simp [e1,i64_int];refine WS_cT (by simp [e1,i64_int]) ?_;refine WS_exit ?_; simp [e1,i64_int];refine WS_reg [] ?_; simp [e1,i64_int];refine Wr ?_; simp [e1,i64_int];refine WS_exit ?_; simp [e1,i64_int];refine Wr ?_; simp [e1,i64_int];refine WS_ret ?_; simp [e1,i64_int]
 . have e1:=zn_false (x:=x) (by omega);by_cases h2:x=0
   . subst h2;refine Wr ?_; simp [e1,zl_nil];refine Wr ?_; simp [e1,zl_nil];refine callK nn ?_; simp [e1,zl_nil];refine Wr ?_; simp [e1,zl_nil];refine WS_seq (WS_block (WS_seq (WS_block (WS_seq (WS_block (WS_seq (Ws ?_))))))); simp [e1,zl_nil];refine WS_cF (by simp [e1,zl_nil]) ?_;refine WS_skip ?_; simp [e1,zl_nil];refine Wr ?_; simp [e1,zl_nil];refine WS_cF (by simp [e1,zl_nil]) ?_;refine WS_skip ?_; simp [e1,zl_nil];refine WS_exit ?_; simp [e1,zl_nil];refine Wr ?_; simp [e1,zl_nil];refine WS_ret ?_; simp [e1,zl_nil]
   . have hp:=zl_pos h2;have hp':(0:Int)<((zl x).length:Int):=by omega
     rw [sign_gt (by omega)];refine Wr ?_; simp [e1,hp,i64_int];refine Wr ?_; simp [e1,hp,i64_int];refine callK nn ?_; simp [e1,hp,i64_int];refine Wr ?_; simp [e1,hp,i64_int];refine WS_seq (WS_block (WS_seq (WS_block (WS_seq (WS_block (WS_seq (Ws ?_))))))); simp [e1,hp,i64_int];refine WS_cF (by simp [e1,hp,i64_int]) ?_;refine WS_skip ?_; simp [e1,hp,i64_int];refine Wr ?_; simp [e1,hp,i64_int];refine WS_cT (by simp [e1,hp,i64_int]) ?_;refine WS_exit ?_; simp [e1,hp,i64_int];refine Wr ?_; simp [e1,hp,i64_int];refine WS_exit ?_; simp [e1,hp,i64_int];refine Wr ?_; simp [e1,hp,i64_int];refine WS_ret ?_; simp [e1,hp,i64_int]
theorem zcmp {k:Nat} {v w:V} {x y:Int} (hv:IsZ k v x) (hw:IsZ k w y) (hk:k<=2^37):Spec Tryz.prog f_zint_Cmp [v,w] (· =[.pure (.i .i64 (x-y).sign)]):=by
 have sb:=zsub hv hw hk;have hl:=zlen_sub x y;have h1:=hv.zlen;have h2:=hw.zlen;have sg:=zsign (isZ_Z (z:=x-y) (k:=k+1) (by omega)) (by omega);obtain ⟨n,l,rfl,h,rfl⟩:=hv;obtain ⟨n',l',rfl,h',rfl⟩:=hw;simp only [zv] at sb sg;refine spec_at Tryz.func32 ok_zint_Cmp [] rfl (by simp) ?_;unfold sc_zint_Cmp;refine Wr ?_; simp;refine Wr ?_; simp;refine callK sb ?_; simp;refine callK sg ?_; simp;refine WS_ret ?_; simp
theorem rnorm {k:Nat} {v:V} {x:Int} (hv:IsZ k v x) (hk:k<=2^40):Spec Tryz.prog f_ref02_Norm [v] (· =[.pure (Z x)]):=by
 obtain ⟨n,l,rfl,h,rfl⟩:=hv;have h:=h.mono hk;refine spec_at Tryz.func58 ok_ref02_Norm [] rfl (by simp) ?_;unfold sc_ref02_Norm;have nn:=rnorm_spec l h.len;have e1:=zl_zi n h.dl;have e2:=zn_zi n h.dl;rw [Z_eq,e1,e2];obtain ⟨t,ht⟩:∃ t,t=Nm.trim l:=⟨_,rfl⟩;rw [<- ht] at nn ⊢;cases n
 . refine Wr ?_; simp [U];refine Wr ?_; simp [U];refine callK nn ?_; simp [U];refine Wr ?_; simp [U];refine WS_ret ?_; simp [U]
 . refine Wr ?_; simp [U];refine Wr ?_; simp [U];refine callK nn ?_; simp [U];refine Wr ?_; simp [U];refine WS_ret ?_; simp [U]
theorem rneg {k:Nat} {v:V} {x:Int} (hv:IsZ k v x) (hk:k<=2^40):Spec Tryz.prog f_ref02_Neg [v] (· =[.pure (Z (-x))]):=by
 obtain ⟨n,l,rfl,h,rfl⟩:=hv;have nn:=rnorm (isZ_zv (n:= !n) h) hk;rw [show zi (!n) l= -zi n l by cases n<;>simp [zi]] at nn;simp only [zv] at nn;refine spec_at Tryz.func120 ok_ref02_Neg [] rfl (by simp) ?_;unfold sc_ref02_Neg;refine Wr ?_; simp;refine Wr ?_; simp;refine callK nn ?_; simp;refine WS_ret ?_; simp
theorem rabs {k:Nat} {v:V} {x:Int} (hv:IsZ k v x) (hk:k<=2^40):Spec Tryz.prog f_ref02_Abs [v] (· =[.pure (Z (x.natAbs:Int))]):=by
 obtain ⟨n,l,rfl,h,rfl⟩:=hv;have nn:=rnorm (isZ_zv (n:=false) h) hk;rw [show zi false l=((zi n l).natAbs:Int) by rw [zi_abs]; rfl] at nn;simp only [zv] at nn;refine spec_at Tryz.func211 ok_ref02_Abs [] rfl (by simp) ?_;unfold sc_ref02_Abs;refine Wr ?_; simp;refine Wr ?_; simp;refine callK nn ?_; simp;refine WS_ret ?_; simp
theorem rof (n:Int) (h1: -9223372036854775808<=n) (h2:n<=9223372036854775807):Spec Tryz.prog f_ref02_Of [.i .i64 n] (· =[.pure (Z n)]):=by
 refine spec_at Tryz.func65 ok_ref02_Of [] rfl (by simp) ?_;unfold sc_ref02_Of;have hd:ZW (2^40) [n.natAbs]:=⟨Nm.Dl.cons (by omega) (Nm.Dl.nil _),by simp⟩;by_cases h:n<0
 . have mk:=rnorm (isZ_zv (n:=true) hd) (Nat.le_refl _);rw [show zi true [n.natAbs]=n by simp [zi,Nm.val]; omega] at mk;simp only [zv,show uL [n.natAbs]=[V.i .u64 (n.natAbs:Int)] from rfl] at mk;have e:IntKind.u64.wrap (IntKind.i64.wrap (-n))=(n.natAbs:Int):=by rw [IntKind.wrap_u64,IntKind.wrap_i64]; omega
   refine Wr ?_; simp [h,e];refine Ws ?_; simp [h,e];refine WS_cT (by simp [h,e]) ?_;refine Wr ?_; simp [h,e];refine callK mk ?_; simp [h,e];refine WS_ret ?_; simp [h,e]
 . have mk:=rnorm (isZ_zv (n:=false) hd) (Nat.le_refl _);rw [show zi false [n.natAbs]=n by simp [zi,Nm.val]; omega] at mk;simp only [zv,show uL [n.natAbs]=[V.i .u64 (n.natAbs:Int)] from rfl] at mk;have e:=u64_i64 (by omega) h2;refine Wr ?_; simp [h,e];refine Ws ?_; simp [h,e];refine WS_cF (by simp [h,e]) ?_;refine WS_skip ?_; simp [h,e];refine Wr ?_; simp [h,e];refine callK mk ?_; simp [h,e];refine WS_ret ?_; simp [h,e]
theorem rsign {k:Nat} {v:V} {x:Int} (hv:IsZ k v x) (hk:k<=2^40):Spec Tryz.prog f_ref02_Sign [v] (· =[.pure (.i .i64 x.sign)]):=by
 have nn:=rnorm hv hk;obtain ⟨n,l,rfl,h,rfl⟩:=hv;refine spec_at Tryz.func57 ok_ref02_Sign [] rfl (by simp) ?_;unfold sc_ref02_Sign;obtain ⟨x,hx⟩:∃ x,x=zi n l:=⟨_,rfl⟩;rw [<- hx] at nn ⊢;by_cases h1:x<0
 . have e1:=zn_true h1;rw [sign_lt h1];refine Wr ?_; simp [e1];refine Wr ?_; simp [e1];refine callK nn ?_; simp [e1];refine Ws ?_; simp [e1];refine WS_cT (by simp [e1]) ?_;refine Wr ?_; simp [e1];refine WS_ret ?_; simp [e1]
 . have e1:=zn_false (x:=x) (by omega);by_cases h2:x=0
   . subst h2;refine Wr ?_; simp [e1,zl_nil];refine Wr ?_; simp [e1,zl_nil];refine callK nn ?_; simp [e1,zl_nil];refine Ws ?_; simp [e1,zl_nil];refine WS_cF (by simp [e1,zl_nil]) ?_;refine WS_skip ?_; simp [e1,zl_nil];refine Ws ?_; simp [e1,zl_nil];refine WS_cF (by simp [e1,zl_nil]) ?_;refine WS_skip ?_; simp [e1,zl_nil];refine Wr ?_; simp [e1,zl_nil];refine WS_ret ?_; simp [e1,zl_nil]
   . have hp:=zl_pos h2;rw [sign_gt (by omega)];refine Wr ?_; simp [e1,hp];refine Wr ?_; simp [e1,hp];refine callK nn ?_; simp [e1,hp];refine Ws ?_; simp [e1,hp];refine WS_cF (by simp [e1,hp]) ?_;refine WS_skip ?_; simp [e1,hp];refine Ws ?_; simp [e1,hp];refine WS_cT (by simp [e1,hp]) ?_;refine Wr ?_; simp [e1,hp];refine WS_ret ?_; simp [e1,hp]
theorem radd {k:Nat} {v w:V} {x y:Int} (hv:IsZ k v x) (hw:IsZ k w y) (hk:k<=2^37):Spec Tryz.prog f_ref02_Add [v,w] (· =[.pure (Z (x+y))]):=by
 obtain ⟨n1,l1,rfl,h1,rfl⟩:=hv;obtain ⟨n2,l2,rfl,h2,rfl⟩:=hw;refine spec_at Tryz.func91 ok_ref02_Add [] rfl (by simp) ?_;unfold sc_ref02_Add;have c1:=h1.len;have c2:=h2.len;have v1:=Nat.lt_of_lt_of_le (Nm.val_lt h1.dl) (Nat.pow_le_pow_right (n:=18446744073709551616) (by omega) c1);have v2:=Nat.lt_of_lt_of_le (Nm.val_lt h2.dl) (Nat.pow_le_pow_right (n:=18446744073709551616) (by omega) c2);have ad:=radd_spec l1 l2 h1.dl h2.dl (by omega) (by omega);have s12:=rsub_spec l1 l2 h1.dl h2.dl (by omega) (by omega);have s21:=rsub_spec l2 l1 h2.dl h1.dl (by omega) (by omega);obtain ⟨a,ha⟩:∃ a,a=Nm.val 18446744073709551616 l1:=⟨_,rfl⟩;obtain ⟨b,hb⟩:∃ a,a=Nm.val 18446744073709551616 l2:=⟨_,rfl⟩;rw [<- ha] at v1 ad s12 s21;rw [<- hb] at v2 ad s12 s21;have mk:∀ (n:Bool) (m:Nat),m<=a+b->Spec Tryz.prog f_ref02_Norm [.agg [.b n,.sl none (uL (Nm.dig 18446744073709551616 m))]] (· =[.pure (Z (if n then -(m:Int) else (m:Int)))]):=by
  intro n m hm;have:=rnorm (isZ_zv (n:=n) ((zw_dig (m:=m) (k:=k+1) (by rw [Nat.pow_succ]; omega)).mono (show k+1<=2^40 by omega))) (Nat.le_refl _)
  rwa [zi,Nm.val_dig (by omega)] at this
 have e1:zi n1 l1=if n1 then -(a:Int) else (a:Int):=by rw [ha]; rfl
 have e2:zi n2 l2=if n2 then -(b:Int) else (b:Int):=by rw [hb]; rfl
 rw [e1,e2];clear e1 e2 v1 v2 ha hb;by_cases hs:n1=n2
 . subst hs;have m:=mk n1 (a+b) (Nat.le_refl _);rw [show (if n1=true then -((a+b:Nat):Int) else ((a+b:Nat):Int))=(if n1=true then -(a:Int) else (a:Int))+(if n1=true then -(b:Int) else (b:Int)) by cases n1<;>simp<;>omega] at m;obtain ⟨z,hz⟩:∃ z,z=(if n1=true then -(a:Int) else (a:Int))+(if n1=true then -(b:Int) else (b:Int)):=⟨_,rfl⟩;rw [<- hz] at m ⊢;refine Wr ?_; simp [U];refine Ws ?_; simp [U];refine WS_cT (by simp [U]) ?_;refine WS_seq (WS_regD [] ?_); simp [U];refine callD ad rfl ?_; simp [U];refine callD m rfl ?_; simp [U];refine ⟨rfl,?_⟩;refine WS_ret ?_; simp [U]
 . have hs':(n1 == n2)=false:=by simpa using hs
   have key:∃ (n:Bool) (m:Nat),m<=a+b/\((if n1=true then -(a:Int) else (a:Int))+(if n2=true then -(b:Int) else (b:Int)))=(if n then -(m:Int) else (m:Int))/\((a<b/\n=n2/\m=b-a)\/(¬ a<b/\n=n1/\m=a-b)):=by
    by_cases h:a<b
    . exact ⟨n2,b-a,by omega,by cases n1<;>cases n2<;>simp at hs<;>simp<;>omega,.inl ⟨h,rfl,rfl⟩⟩
    . exact ⟨n1,a-b,by omega,by cases n1<;>cases n2<;>simp at hs<;>simp<;>omega,.inr ⟨h,rfl,rfl⟩⟩
   obtain ⟨n,m,hm,he,hc⟩:=key;rw [he];have mm:=mk n m hm;obtain ⟨z,hz⟩:∃ z,z=(if n=true then -(m:Int) else (m:Int)):=⟨_,rfl⟩;rw [<- hz] at mm ⊢;obtain ⟨D,hD⟩:∃ D,D=Nm.dig 18446744073709551616 m:=⟨_,rfl⟩;rw [<- hD] at mm;rcases hc with ⟨h,rfl,rfl⟩ | ⟨h,rfl,rfl⟩
   . rw [if_pos (by omega),<-hD] at s21;rw [if_neg (by omega)] at s12;refine Wr ?_; simp [hs',U];refine Ws ?_; simp [hs',U];refine WS_cF (by simp [hs',U]) ?_;refine WS_skip ?_; simp [hs',U];refine Wr ?_; simp [hs',U];refine callK s12 ?_; simp [hs',U];refine Ws ?_; simp [hs',U];refine WS_cF (by simp [hs',U]) ?_;refine WS_skip ?_; simp [hs',U];refine Wr ?_; simp [hs',U];refine callK s21 ?_; simp [hs',U];refine Wr ?_; simp [hs',U];refine callK mm ?_; simp [hs',U];refine WS_ret ?_; simp [hs',U]
   . rw [if_pos (by omega),<-hD] at s12;refine Wr ?_; simp [hs',U];refine Ws ?_; simp [hs',U];refine WS_cF (by simp [hs',U]) ?_;refine WS_skip ?_; simp [hs',U];refine Wr ?_; simp [hs',U];refine callK s12 ?_; simp [hs',U];refine Ws ?_; simp [hs',U];refine WS_cT (by simp [hs',U]) ?_;refine Wr ?_; simp [hs',U];refine callK mm ?_; simp [hs',U];refine WS_ret ?_; simp [hs',U]
theorem rsub {k:Nat} {v w:V} {x y:Int} (hv:IsZ k v x) (hw:IsZ k w y) (hk:k<=2^37):Spec Tryz.prog f_ref02_Sub [v,w] (· =[.pure (Z (x-y))]):=by
 have ng:=rneg hw (by omega);have hl:=hw.zlen;have ad:=radd hv (isZ_Z (z:= -y) (k:=k) (by rw [zlen_neg]; exact hl)) hk;rw [<- Int.sub_eq_add_neg] at ad;obtain ⟨n,l,rfl,h,rfl⟩:=hv;obtain ⟨n',l',rfl,h',rfl⟩:=hw;refine spec_at Tryz.func121 ok_ref02_Sub [] rfl (by simp) ?_;unfold sc_ref02_Sub;simp only [zv] at ng ad;refine Wr ?_; simp;refine WS_seq (WS_regD [] ?_); simp;refine callD ng rfl ?_; simp;refine callD ad rfl ?_; simp;refine ⟨rfl,?_⟩;refine WS_ret ?_; simp
theorem rcmp {k:Nat} {v w:V} {x y:Int} (hv:IsZ k v x) (hw:IsZ k w y) (hk:k<=2^37):Spec Tryz.prog f_ref02_Cmp [v,w] (· =[.pure (.i .i64 (x-y).sign)]):=by
 have sb:=rsub hv hw hk;have hl:=zlen_sub x y;have h1:=hv.zlen;have h2:=hw.zlen;have sg:=rsign (isZ_Z (z:=x-y) (k:=k+1) (by omega)) (by omega);obtain ⟨n,l,rfl,h,rfl⟩:=hv;obtain ⟨n',l',rfl,h',rfl⟩:=hw;simp only [zv] at sb sg;refine spec_at Tryz.func94 ok_ref02_Cmp [] rfl (by simp) ?_;unfold sc_ref02_Cmp;refine Wr ?_; simp;refine Wr ?_; simp;refine callK sb ?_; simp;refine callK sg ?_; simp;refine WS_ret ?_; simp
theorem rmul {k:Nat} {v w:V} {x y:Int} (hv:IsZ k v x) (hw:IsZ k w y) (hk:k<=2^28):Spec Tryz.prog f_ref02_Mul [v,w] (· =[.pure (Z (x*y))]):=by
 obtain ⟨n,l,rfl,h,rfl⟩:=hv;obtain ⟨n',l',rfl,h',rfl⟩:=hw;have c1:=h.len;have c2:=h'.len;have mu:=rmul_spec l l' h.dl h'.dl (by omega) (by omega);have hlt:Nm.val 18446744073709551616 l*Nm.val 18446744073709551616 l'<18446744073709551616^(l.length+l'.length):=by rw [Nat.pow_add]; exact Nat.mul_lt_mul'' (Nm.val_lt h.dl) (Nm.val_lt h'.dl)
 have mk:=rnorm (isZ_zv (n:=n != n') ((zw_dig hlt).mono (show l.length+l'.length<=2^40 by omega))) (Nat.le_refl _);have he:zi (n != n') (Nm.dig 18446744073709551616 (Nm.val 18446744073709551616 l*Nm.val 18446744073709551616 l'))=zi n l*zi n' l':=by
  simp only [zi,Nm.val_dig (show 2<=18446744073709551616 by omega)];cases n<;>cases n'<;>simp [Int.neg_mul,Int.mul_neg]
 rw [he] at mk;simp only [zv] at mk;refine spec_at Tryz.func92 ok_ref02_Mul [] rfl (by simp) ?_;unfold sc_ref02_Mul;refine Wr ?_; simp [U];refine WS_seq (WS_regD [] ?_); simp [U];refine callD mu rfl ?_; simp [U];refine callD mk rfl ?_; simp [U];refine ⟨rfl,?_⟩;refine WS_ret ?_; simp [U]
theorem zsame (x:Int) (hl:zlen x<=2^40):Spec Tryz.prog f_ref02_Same [Z x,Z x] (· =[.pure (.b true)]):=by
 have sm:=rsame_spec (zl x) hl;refine spec_at Tryz.func18 ok_ref02_Same [] rfl (by simp) ?_;unfold sc_ref02_Same;refine Wr ?_; simp [U];refine Wr ?_; simp [U];refine callK sm ?_; simp [U];refine WS_ret ?_; simp [U]
theorem ediv_abs {a b:Int} {n1 n2:Bool} {A B:Nat} (ha:a=if n1 then -(A:Int) else (A:Int)) (hb:b=if n2 then -(B:Int) else (B:Int)) (hB:B≠0):
 (n1=true->A%B≠0->a / b=(if n1 != n2 then -((A / B+1:Nat):Int) else ((A / B+1:Nat):Int))/\a%b=((B-A%B:Nat):Int))/\
 ((n1=false\/A%B=0)->a / b=(if n1 != n2 then -((A / B:Nat):Int) else ((A / B:Nat):Int))/\a%b=((A%B:Nat):Int)):=by
 have hdm:=Nat.div_add_mod A B;have hlt:=Nat.mod_lt A (Nat.pos_of_ne_zero hB);have key:∀ (x q r:Int),r+(B:Int)*q=x->0<=r->r<B->x / B=q/\x%B=r:=λx q r h1 h2 h3=>(Int.ediv_emod_unique (by omega)).2 ⟨h1,h2,h3⟩;have hAB:(A:Int)=(B:Int)*((A / B:Nat):Int)+((A%B:Nat):Int):=by
  rw [<- Int.natCast_mul,<-Int.natCast_add,hdm]
 obtain ⟨q,hq⟩:∃ q,q=A / B:=⟨_,rfl⟩;obtain ⟨r,hr⟩:∃ q,q=A%B:=⟨_,rfl⟩;rw [<- hq,<-hr] at hAB ⊢;rw [<- hr] at hlt;refine ⟨λh1 h2=>?_,λh=>?_⟩
 . subst h1;simp only [if_true] at ha;have:=key a (-((q+1:Nat):Int)) ((B-r:Nat):Int) (by
    rw [ha,hAB,Int.natCast_add,Int.mul_neg,Int.mul_add];rw [Int.natCast_sub (by omega)];simp only [Int.natCast_one,Int.mul_one];omega) (by omega) (by omega)
   cases n2 with
   | false=>
    simp only [Bool.false_eq_true,if_false] at hb;rw [hb];exact ⟨this.1,this.2⟩
   | true=>
    simp only [if_true] at hb;rw [hb,Int.ediv_neg,Int.emod_neg];refine ⟨?_,this.2⟩;rw [this.1]; simp
 . have:a / B=(if n1 then -((q:Nat):Int) else (q:Int))/\a%B=(r:Int):=by
    cases n1 with
    | false=>
     simp only [Bool.false_eq_true,if_false] at ha ⊢;exact key a q r (by rw [ha,hAB]; omega) (by omega) (by omega)
    | true=>
     have hr0:r=0:=by rcases h with h | h; · cases h
                      . exact h
     simp only [if_true] at ha ⊢;exact key a (-(q:Int)) r (by rw [ha,hAB,hr0,Int.mul_neg]; simp) (by omega) (by omega)
   cases n2 with
   | false=>
    simp only [Bool.false_eq_true,if_false] at hb;rw [hb];refine ⟨?_,this.2⟩;rw [this.1];cases n1<;>simp
   | true=>
    simp only [if_true] at hb;rw [hb,Int.ediv_neg,Int.emod_neg];refine ⟨?_,this.2⟩;rw [this.1];cases n1<;>simp
theorem ediv_natAbs_le (a b:Int):(a / b).natAbs<=a.natAbs+1/\(b≠0->(a%b).natAbs<b.natAbs):=by
 refine ⟨?_,λh=>?_⟩
 . have:=Int.natAbs_ediv_le_natAbs a b;omega
 . have h1:=Int.emod_nonneg a h;have h2:=Int.emod_lt a h;omega
theorem zlen_ediv (a b:Int):zlen (a / b)<=zlen a:=zlen_le (Int.natAbs_ediv_le_natAbs a b)
theorem zlen_emod (a b:Int) (h:b≠0):zlen (a%b)<=zlen b:=zlen_le (Nat.le_of_lt ((ediv_natAbs_le a b).2 h))
theorem zdiv_zero {k:Nat} {v w:V} {x:Int} (hv:IsZ k v x) (hw:IsZ k w 0) (hk:k<=2^35):Spec Tryz.prog f_zint_Div [v,w] (· =[.pure (Z 0),.pure (Z 0),.pure (.i .i64 3)]):=by
 obtain ⟨n,l,rfl,h,hx⟩:=hv;obtain ⟨n',l',rfl,h',hy⟩:=hw;have c1:=h.len;have c2:=h'.len;have e0:Nm.val 18446744073709551616 l'=0:=by rw [<- zi_abs n',hy]; rfl
 have dv:=ndiv_zero l l' h.dl h'.dl (by omega) (by omega) e0;refine spec_at Tryz.func119 ok_zint_Div [] rfl (by simp) ?_;unfold sc_zint_Div;refine Wr ?_; simp [U,zn_false,zl_nil];refine Wr ?_; simp [U,zn_false,zl_nil];refine callK dv ?_; simp [U,zn_false,zl_nil];refine Ws ?_; simp [U,zn_false,zl_nil];refine WS_cT (by simp [U,zn_false,zl_nil]) ?_;refine Wr ?_; simp [U,zn_false,zl_nil];refine WS_ret ?_; simp [U,zn_false,zl_nil]
theorem zdiv {k:Nat} {v w:V} {x y:Int} (hv:IsZ k v x) (hw:IsZ k w y) (hk:k<=2^35) (hy:y≠0):Spec Tryz.prog f_zint_Div [v,w] (· =[.pure (Z (x / y)),.pure (Z (x%y)),.pure (.i .i64 0)]):=by
 obtain ⟨n,l,rfl,h,rfl⟩:=hv;obtain ⟨n',l',rfl,h',rfl⟩:=hw;have c1:=h.len;have c2:=h'.len;have v1:=Nat.lt_of_lt_of_le (Nm.val_lt h.dl) (Nat.pow_le_pow_right (n:=18446744073709551616) (by omega) c1);have v2:=Nat.lt_of_lt_of_le (Nm.val_lt h'.dl) (Nat.pow_le_pow_right (n:=18446744073709551616) (by omega) c2);have h0:Nm.val 18446744073709551616 l'≠0:=by
  intro e;refine hy ?_;simp [zi,e]
 have dv:=ndiv_spec l l' h.dl h'.dl (by omega) (by omega) h0;obtain ⟨ed1,ed2⟩:=ediv_abs (a:=zi n l) (b:=zi n' l') (n1:=n) (n2:=n') (A:=Nm.val 18446744073709551616 l) (B:=Nm.val 18446744073709551616 l') rfl rfl h0;have sb:=λ(r:List Nat) (hr:Nm.Dl 18446744073709551616 r) (lr:r.length<=2^40)=>sub_spec l' r h'.dl hr (by omega) lr;obtain ⟨A,hA⟩:∃ a,a=Nm.val 18446744073709551616 l:=⟨_,rfl⟩;obtain ⟨B,hB⟩:∃ a,a=Nm.val 18446744073709551616 l':=⟨_,rfl⟩;rw [<- hA] at v1 dv ed1 ed2;rw [<- hB] at v2 h0 dv ed1 ed2 sb;have hml:=Nat.mod_lt A (Nat.pos_of_ne_zero h0);have hq1:A / B<=A:=Nat.div_le_self _ _;have mk:∀ (n:Bool) (m:Nat),m<18446744073709551616^(k+1)->Spec Tryz.prog f_zint_made [.b n,.sl none (uL (Nm.dig 18446744073709551616 m))] (· =[.pure (Z (if n then -(m:Int) else (m:Int)))]):=by
  intro n m hm;have:=made_spec n (Nm.dig 18446744073709551616 m) ((zw_dig hm).mono (by omega))
  rwa [zi,Nm.val_dig (by omega)] at this
 have hp1:18446744073709551616^(k+1)=18446744073709551616^k*18446744073709551616:=Nat.pow_succ ..;have lq:=zw_dig (m:=A / B) (k:=k) (by omega);have lr:=zw_dig (m:=A%B) (k:=k) (by omega);refine spec_at Tryz.func119 ok_zint_Div [] rfl (by simp) ?_;unfold sc_zint_Div;by_cases hc:n=true/\A%B≠0
 . obtain ⟨rfl,hr⟩:=hc;obtain ⟨eq,er⟩:=ed1 rfl hr;rw [eq,er];have ad:=add_spec (Nm.dig 18446744073709551616 (A / B)) [1] lq.dl (Nm.Dl.cons (by omega) (Nm.Dl.nil _)) (by have:=lq.len; omega) (by simp);rw [Nm.val_dig (by omega),show Nm.val 18446744073709551616 [1]=1 from rfl,show U [1]= .sl none [V.i .u64 1] from rfl] at ad;have sb:=sb _ lr.dl (by have:=lr.len; omega);rw [Nm.val_dig (by omega),if_pos (by omega)] at sb;have mq:=mk (true != n') (A / B+1) (by omega);have hb1:(true != n')= !n':=by cases n'<;>rfl
   have mr:=mk false (B-A%B) (by omega);have hrp:=Nm.dig_length_pos (B:=18446744073709551616) (by omega) hr;obtain ⟨q,hqd⟩:∃ a,a=A / B:=⟨_,rfl⟩;obtain ⟨r,hrd⟩:∃ a,a=A%B:=⟨_,rfl⟩;rw [<- hqd] at dv ad mq ⊢;rw [<- hrd] at dv sb mr hrp ⊢;obtain ⟨zq,hzq⟩:∃ z,z=(if (true != n')=true then -((q+1:Nat):Int) else ((q+1:Nat):Int)):=⟨_,rfl⟩;rw [<- hzq] at mq ⊢;obtain ⟨zr,hzr⟩:∃ z,z=((B-r:Nat):Int):=⟨_,rfl⟩;rw [if_neg (by simp),<-hzr] at mr;rw [<- hzr];clear hzq hzr;rw [hb1] at mq;refine Wr ?_; simp [U,hrp];refine Wr ?_; simp [U,hrp];refine callK dv ?_; simp [U,hrp];refine Ws ?_; simp [U,hrp];refine WS_cF (by simp [U,hrp]) ?_;refine WS_skip ?_; simp [U,hrp];refine Ws ?_; simp [U,hrp];refine WS_cT (by simp [U,hrp]) ?_;refine Wr ?_; simp [U,hrp];refine callK ad ?_; simp [U,hrp];refine WS_reg [] ?_; simp [U,hrp];refine callK sb ?_; simp [U,hrp];refine Wr ?_; simp [U,hrp];refine callK mq ?_; simp [U,hrp];refine callK mr ?_; simp [U,hrp];refine WS_ret ?_; simp [U,hrp]
 . obtain ⟨eq,er⟩:=ed2 (by
    by_cases h1:n=true
    . exact .inr (Decidable.not_not.1 λh2=>hc ⟨h1,h2⟩)
    . exact .inl (by simpa using h1))
   rw [eq,er];have mq:=mk (n != n') (A / B) (by omega);have mr:=mk false (A%B) (by omega);have hrp:n=true->Nm.dig 18446744073709551616 (A%B)=[]:=λh1=>by rw [Nm.dig_nil (by omega)]; exact Decidable.not_not.1 λh2=>hc ⟨h1,h2⟩
   obtain ⟨q,hqd⟩:∃ a,a=A / B:=⟨_,rfl⟩;obtain ⟨r,hrd⟩:∃ a,a=A%B:=⟨_,rfl⟩;rw [<- hqd] at dv mq ⊢;rw [<- hrd] at dv mr hrp ⊢;obtain ⟨zq,hzq⟩:∃ z,z=(if (n != n')=true then -((q:Nat):Int) else ((q:Nat):Int)):=⟨_,rfl⟩;rw [<- hzq] at mq ⊢;obtain ⟨zr,hzr⟩:∃ z,z=((r:Nat):Int):=⟨_,rfl⟩;rw [if_neg (by simp),<-hzr] at mr;rw [<- hzr];clear hzq hzr;cases n with
   | true=>
    have hrp:=hrp rfl;rw [hrp,uL_nil] at mr;rw [hrp] at dv;rw [show (true != n')= !n' by cases n'<;>rfl] at mq;refine Wr ?_; simp [U];refine Wr ?_; simp [U];refine callK dv ?_; simp [U];refine Ws ?_; simp [U];refine WS_cF (by simp [U]) ?_;refine WS_skip ?_; simp [U];refine Ws ?_; simp [U];refine WS_cF (by simp [U]) ?_;refine WS_skip ?_; simp [U];refine Wr ?_; simp [U];refine callK mq ?_; simp [U];refine callK mr ?_; simp [U];refine WS_ret ?_; simp [U]
   | false=>
    rw [show (false != n')=n' by cases n'<;>rfl] at mq;refine Wr ?_; simp [U];refine Wr ?_; simp [U];refine callK dv ?_; simp [U];refine Ws ?_; simp [U];refine WS_cF (by simp [U]) ?_;refine WS_skip ?_; simp [U];refine Ws ?_; simp [U];refine WS_cF (by simp [U]) ?_;refine WS_skip ?_; simp [U];refine Wr ?_; simp [U];refine callK mq ?_; simp [U];refine callK mr ?_; simp [U];refine WS_ret ?_; simp [U]
theorem rdivz_zero {k:Nat} {v w:V} {x:Int} (hv:IsZ k v x) (hw:IsZ k w 0) (hk:k<=2^34):Spec Tryz.prog f_ref02_Div [v,w] (· =[.pure (Z 0),.pure (Z 0),.pure (.i .i64 3)]):=by
 obtain ⟨n,l,rfl,h,hx⟩:=hv;obtain ⟨n',l',rfl,h',hy⟩:=hw;have c1:=h.len;have c2:=h'.len;have e0:Nm.val 18446744073709551616 l'=0:=by rw [<- zi_abs n',hy]; rfl
 have dv:=rdiv_zero l l' h'.dl (by omega) e0;refine spec_at Tryz.func160 ok_ref02_Div [] rfl (by simp) ?_;unfold sc_ref02_Div;refine Wr ?_; simp [U,zn_false,zl_nil];refine Wr ?_; simp [U,zn_false,zl_nil];refine callK dv ?_; simp [U,zn_false,zl_nil];refine Ws ?_; simp [U,zn_false,zl_nil];refine WS_cT (by simp [U,zn_false,zl_nil]) ?_;refine Wr ?_; simp [U,zn_false,zl_nil];refine WS_ret ?_; simp [U,zn_false,zl_nil]
theorem rdivz {k:Nat} {v w:V} {x y:Int} (hv:IsZ k v x) (hw:IsZ k w y) (hk:k<=2^34) (hy:y≠0):Spec Tryz.prog f_ref02_Div [v,w] (· =[.pure (Z (x / y)),.pure (Z (x%y)),.pure (.i .i64 0)]):=by
 obtain ⟨n,l,rfl,h,rfl⟩:=hv;obtain ⟨n',l',rfl,h',rfl⟩:=hw;have c1:=h.len;have c2:=h'.len;have v1:=Nat.lt_of_lt_of_le (Nm.val_lt h.dl) (Nat.pow_le_pow_right (n:=18446744073709551616) (by omega) c1);have v2:=Nat.lt_of_lt_of_le (Nm.val_lt h'.dl) (Nat.pow_le_pow_right (n:=18446744073709551616) (by omega) c2);have h0:Nm.val 18446744073709551616 l'≠0:=by
  intro e;refine hy ?_;simp [zi,e]
 have dv:=rdiv_spec l l' h.dl h'.dl (by omega) (by omega) h0;obtain ⟨ed1,ed2⟩:=ediv_abs (a:=zi n l) (b:=zi n' l') (n1:=n) (n2:=n') (A:=Nm.val 18446744073709551616 l) (B:=Nm.val 18446744073709551616 l') rfl rfl h0;have sb:=λ(r:List Nat) (hr:Nm.Dl 18446744073709551616 r) (lr:r.length<=2^38)=>rsub_spec l' r h'.dl hr (by omega) lr;obtain ⟨A,hA⟩:∃ a,a=Nm.val 18446744073709551616 l:=⟨_,rfl⟩;obtain ⟨B,hB⟩:∃ a,a=Nm.val 18446744073709551616 l':=⟨_,rfl⟩;rw [<- hA] at v1 dv ed1 ed2;rw [<- hB] at v2 h0 dv ed1 ed2 sb;have hml:=Nat.mod_lt A (Nat.pos_of_ne_zero h0);have hq1:A / B<=A:=Nat.div_le_self _ _;have mk:∀ (n:Bool) (m:Nat),m<18446744073709551616^(k+1)->Spec Tryz.prog f_ref02_Norm [.agg [.b n,.sl none (uL (Nm.dig 18446744073709551616 m))]] (· =[.pure (Z (if n then -(m:Int) else (m:Int)))]):=by
  intro n m hm;have:=rnorm (isZ_zv (n:=n) ((zw_dig hm).mono (show k+1<=2^40 by omega))) (Nat.le_refl _)
  rwa [zi,Nm.val_dig (by omega)] at this
 have hp1:18446744073709551616^(k+1)=18446744073709551616^k*18446744073709551616:=Nat.pow_succ ..;have lq:=zw_dig (m:=A / B) (k:=k) (by omega);have lr:=zw_dig (m:=A%B) (k:=k) (by omega);refine spec_at Tryz.func160 ok_ref02_Div [] rfl (by simp) ?_;unfold sc_ref02_Div;by_cases hc:n=true/\A%B≠0
 . obtain ⟨rfl,hr⟩:=hc;obtain ⟨eq,er⟩:=ed1 rfl hr;rw [eq,er];have ad:=radd_spec (Nm.dig 18446744073709551616 (A / B)) [1] lq.dl (Nm.Dl.cons (by omega) (Nm.Dl.nil _)) (by have:=lq.len; omega) (by simp);rw [Nm.val_dig (by omega),show Nm.val 18446744073709551616 [1]=1 from rfl,show U [1]= .sl none [V.i .u64 1] from rfl] at ad;have sb:=sb _ lr.dl (by have:=lr.len; omega);rw [Nm.val_dig (by omega),if_pos (by omega)] at sb;have mq:=mk (true != n') (A / B+1) (by omega);have hb1:(true != n')= !n':=by cases n'<;>rfl
   have mr:=mk false (B-A%B) (by omega);have hrp:=Nm.dig_length_pos (B:=18446744073709551616) (by omega) hr;obtain ⟨q,hqd⟩:∃ a,a=A / B:=⟨_,rfl⟩;obtain ⟨r,hrd⟩:∃ a,a=A%B:=⟨_,rfl⟩;rw [<- hqd] at dv ad mq ⊢;rw [<- hrd] at dv sb mr hrp ⊢;obtain ⟨zq,hzq⟩:∃ z,z=(if (true != n')=true then -((q+1:Nat):Int) else ((q+1:Nat):Int)):=⟨_,rfl⟩;rw [<- hzq] at mq ⊢;obtain ⟨zr,hzr⟩:∃ z,z=((B-r:Nat):Int):=⟨_,rfl⟩;rw [if_neg (by simp),<-hzr] at mr;rw [<- hzr];clear hzq hzr;rw [hb1] at mq;refine Wr ?_; simp [U,hrp];refine Wr ?_; simp [U,hrp];refine callK dv ?_; simp [U,hrp];refine Ws ?_; simp [U,hrp];refine WS_cF (by simp [U,hrp]) ?_;refine WS_skip ?_; simp [U,hrp];refine Ws ?_; simp [U,hrp];refine WS_cT (by simp [U,hrp]) ?_;refine Wr ?_; simp [U,hrp];refine callK ad ?_; simp [U,hrp];refine WS_reg [] ?_; simp [U,hrp];refine callK sb ?_; simp [U,hrp];refine Wr ?_; simp [U,hrp];refine callK mq ?_; simp [U,hrp];refine callK mr ?_; simp [U,hrp];refine WS_ret ?_; simp [U,hrp]
 . obtain ⟨eq,er⟩:=ed2 (by
    by_cases h1:n=true
    . exact .inr (Decidable.not_not.1 λh2=>hc ⟨h1,h2⟩)
    . exact .inl (by simpa using h1))
   rw [eq,er];have mq:=mk (n != n') (A / B) (by omega);have mr:=mk false (A%B) (by omega);have hrp:n=true->Nm.dig 18446744073709551616 (A%B)=[]:=λh1=>by rw [Nm.dig_nil (by omega)]; exact Decidable.not_not.1 λh2=>hc ⟨h1,h2⟩
   obtain ⟨q,hqd⟩:∃ a,a=A / B:=⟨_,rfl⟩;obtain ⟨r,hrd⟩:∃ a,a=A%B:=⟨_,rfl⟩;rw [<- hqd] at dv mq ⊢;rw [<- hrd] at dv mr hrp ⊢;obtain ⟨zq,hzq⟩:∃ z,z=(if (n != n')=true then -((q:Nat):Int) else ((q:Nat):Int)):=⟨_,rfl⟩;rw [<- hzq] at mq ⊢;obtain ⟨zr,hzr⟩:∃ z,z=((r:Nat):Int):=⟨_,rfl⟩;rw [if_neg (by simp),<-hzr] at mr;rw [<- hzr];clear hzq hzr;cases n with
   | true=>
    have hrp:=hrp rfl;rw [hrp,uL_nil] at mr;rw [hrp] at dv;rw [show (true != n')= !n' by cases n'<;>rfl] at mq;refine Wr ?_; simp [U];refine Wr ?_; simp [U];refine callK dv ?_; simp [U];refine Ws ?_; simp [U];refine WS_cF (by simp [U]) ?_;refine WS_skip ?_; simp [U];refine Ws ?_; simp [U];refine WS_cF (by simp [U]) ?_;refine WS_skip ?_; simp [U];refine Wr ?_; simp [U];refine callK mq ?_; simp [U];refine callK mr ?_; simp [U];refine WS_ret ?_; simp [U]
   | false=>
    rw [show (false != n')=n' by cases n'<;>rfl] at mq;refine Wr ?_; simp [U];refine Wr ?_; simp [U];refine callK dv ?_; simp [U];refine Ws ?_; simp [U];refine WS_cF (by simp [U]) ?_;refine WS_skip ?_; simp [U];refine Ws ?_; simp [U];refine WS_cF (by simp [U]) ?_;refine WS_skip ?_; simp [U];refine Wr ?_; simp [U];refine callK mq ?_; simp [U];refine callK mr ?_; simp [U];refine WS_ret ?_; simp [U]
def exactR (x y:Int):List RV:=if y=0 then [.pure (Z 0),.pure (.i .i64 3)] else if x%y=0 then [.pure (Z (x / y)),.pure (.i .i64 0)] else [.pure (Z 0),.pure (.i .i64 4)]
theorem zexact {k:Nat} {v w:V} {x y:Int} (hv:IsZ k v x) (hw:IsZ k w y) (hk:k<=2^35):Spec Tryz.prog f_zint_Exact [v,w] (· =exactR x y):=by
 by_cases h0:y=0
 . subst h0;have dv:=zdiv_zero hv hw hk;rw [exactR,if_pos rfl];obtain ⟨n,l,rfl,h,rfl⟩:=hv;obtain ⟨n',l',rfl,h',hy⟩:=hw;simp only [zv] at dv;refine spec_at Tryz.func64 ok_zint_Exact [] rfl (by simp) ?_;unfold sc_zint_Exact;refine Wr ?_; simp [zn_false,zl_nil];refine Wr ?_; simp [zn_false,zl_nil];refine callK dv ?_; simp [zn_false,zl_nil];refine WS_seq (WS_block (Wr ?_)); simp [zn_false,zl_nil];refine WS_cT (by simp [zn_false,zl_nil]) ?_;refine Wr ?_; simp [zn_false,zl_nil];refine WS_ret ?_; simp [zn_false,zl_nil]
 . have dv:=zdiv hv hw hk h0;have hlr:=zlen_emod x y h0;have hy:=hw.zlen;have sg:=zsign (isZ_Z (z:=x%y) (k:=k) (by omega)) (by omega);rw [exactR,if_neg h0];obtain ⟨n,l,rfl,h,rfl⟩:=hv;obtain ⟨n',l',rfl,h',rfl⟩:=hw;simp only [zv] at dv;have hnn:=Int.emod_nonneg (zi n l) h0;obtain ⟨q,hq⟩:∃ q,q=zi n l / zi n' l':=⟨_,rfl⟩;obtain ⟨r,hr⟩:∃ q,q=zi n l%zi n' l':=⟨_,rfl⟩;rw [<- hq,<-hr] at dv ⊢;rw [<- hr] at sg hnn;refine spec_at Tryz.func64 ok_zint_Exact [] rfl (by simp) ?_;unfold sc_zint_Exact;by_cases hr0:r=0
   . rw [if_pos hr0];rw [hr0,Int.sign_zero] at sg;rw [hr0] at dv;refine Wr ?_; simp;refine Wr ?_; simp;refine callK dv ?_; simp;refine WS_seq (WS_block (Wr ?_)); simp;refine WS_cF (by simp) ?_;refine Wr ?_; simp;refine callK sg ?_; simp;refine WS_cF (by simp) ?_;refine WS_skip ?_; simp;refine Wr ?_; simp;refine WS_ret ?_; simp
   . rw [if_neg hr0];rw [sign_gt (by omega)] at sg;refine Wr ?_; simp [zn_false,zl_nil];refine Wr ?_; simp [zn_false,zl_nil];refine callK dv ?_; simp [zn_false,zl_nil];refine WS_seq (WS_block (Wr ?_)); simp [zn_false,zl_nil];refine WS_cF (by simp [zn_false,zl_nil]) ?_;refine Wr ?_; simp [zn_false,zl_nil];refine callK sg ?_; simp [zn_false,zl_nil];refine WS_cT (by simp [zn_false,zl_nil]) ?_;refine Wr ?_; simp [zn_false,zl_nil];refine WS_ret ?_; simp [zn_false,zl_nil]
theorem rexact {k:Nat} {v w:V} {x y:Int} (hv:IsZ k v x) (hw:IsZ k w y) (hk:k<=2^34):Spec Tryz.prog f_ref02_Exact [v,w] (· =exactR x y):=by
 by_cases h0:y=0
 . subst h0;have dv:=rdivz_zero hv hw hk;rw [exactR,if_pos rfl];obtain ⟨n,l,rfl,h,rfl⟩:=hv;obtain ⟨n',l',rfl,h',hy⟩:=hw;simp only [zv] at dv;refine spec_at Tryz.func109 ok_ref02_Exact [] rfl (by simp) ?_;unfold sc_ref02_Exact;refine Wr ?_; simp [zn_false,zl_nil];refine Wr ?_; simp [zn_false,zl_nil];refine callK dv ?_; simp [zn_false,zl_nil];refine Ws ?_; simp [zn_false,zl_nil];refine WS_cT (by simp [zn_false,zl_nil]) ?_;refine Wr ?_; simp [zn_false,zl_nil];refine WS_ret ?_; simp [zn_false,zl_nil]
 . have dv:=rdivz hv hw hk h0;have hlr:=zlen_emod x y h0;have hy:=hw.zlen;have sg:=rsign (isZ_Z (z:=x%y) (k:=k) (by omega)) (by omega);rw [exactR,if_neg h0];obtain ⟨n,l,rfl,h,rfl⟩:=hv;obtain ⟨n',l',rfl,h',rfl⟩:=hw;simp only [zv] at dv;have hnn:=Int.emod_nonneg (zi n l) h0;obtain ⟨q,hq⟩:∃ q,q=zi n l / zi n' l':=⟨_,rfl⟩;obtain ⟨r,hr⟩:∃ q,q=zi n l%zi n' l':=⟨_,rfl⟩;rw [<- hq,<-hr] at dv ⊢;rw [<- hr] at sg hnn;refine spec_at Tryz.func109 ok_ref02_Exact [] rfl (by simp) ?_;unfold sc_ref02_Exact;by_cases hr0:r=0
   . rw [if_pos hr0];rw [hr0,Int.sign_zero] at sg;rw [hr0] at dv;refine Wr ?_; simp;refine Wr ?_; simp;refine callK dv ?_; simp;refine Ws ?_; simp;refine WS_cF (by simp) ?_;refine WS_skip ?_; simp;refine Ws ?_; simp;refine callK sg ?_; simp;refine WS_cF (by simp) ?_;refine WS_skip ?_; simp;refine Wr ?_; simp;refine WS_ret ?_; simp
   . rw [if_neg hr0];rw [sign_gt (by omega)] at sg;refine Wr ?_; simp [zn_false,zl_nil];refine Wr ?_; simp [zn_false,zl_nil];refine callK dv ?_; simp [zn_false,zl_nil];refine Ws ?_; simp [zn_false,zl_nil];refine WS_cF (by simp [zn_false,zl_nil]) ?_;refine WS_skip ?_; simp [zn_false,zl_nil];refine Ws ?_; simp [zn_false,zl_nil];refine callK sg ?_; simp [zn_false,zl_nil];refine WS_cT (by simp [zn_false,zl_nil]) ?_;refine Wr ?_; simp [zn_false,zl_nil];refine WS_ret ?_; simp [zn_false,zl_nil]
theorem bmk_append (a b:List UInt8):(⟨a.toArray⟩:ByteArray)++⟨b.toArray⟩=⟨(a++b).toArray⟩:=by
 refine ByteArray.ext ?_;rw [ByteArray.data_append]; simp
theorem bmk_size (a:List UInt8):(⟨a.toArray⟩:ByteArray).size=a.length:=by simp [ByteArray.size]
def tx (l:List UInt8):V:=.s ⟨l.toArray⟩
def zT (x:Int):List UInt8:=if x<0 then 45::Nm.decT x.natAbs else Nm.decT x.natAbs
theorem ztext {k:Nat} {v:V} {x:Int} (hv:IsZ k v x) (hk:k<=2^35):Spec Tryz.prog f_zint_Text [v] (· =[.pure (tx (zT x))]):=by
 have sg:=zsign hv (by omega);obtain ⟨n,l,rfl,h,rfl⟩:=hv;have c:=h.len;have tt:=ntext_spec l h.dl (by omega);have hlt:=Nm.decT_length (Nm.val_lt h.dl);simp only [zv] at sg;refine spec_at Tryz.func55 ok_zint_Text [] rfl (by simp) ?_;unfold sc_zint_Text;by_cases hx:zi n l<0
 . rw [sign_lt hx] at sg;have e:tx (zT (zi n l))= .s (⟨#[45]⟩++⟨(Nm.decT (Nm.val 18446744073709551616 l)).toArray⟩):=by
    rw [zT,if_pos hx,zi_abs,tx];exact congrArg V.s (bmk_append [45] _).symm
   rw [e];obtain ⟨T,hT⟩:∃ T,T=Nm.decT (Nm.val 18446744073709551616 l):=⟨_,rfl⟩;rw [<- hT] at tt hlt ⊢;have hsz:=bmk_size T;have hmx:((1+T.length:Nat):Int)<=IntKind.i64.max:=by simp [IntKind.max,IntKind.signed,IntKind.bits]; omega
   obtain ⟨B,hB⟩:∃ B:ByteArray,B=⟨T.toArray⟩:=⟨_,rfl⟩;rw [<- hB] at tt hsz ⊢;rw [<- hsz] at hmx;have hmx':(((⟨#[45]⟩:ByteArray).size+B.size:Nat):Int)<=IntKind.i64.max:=hmx;have cat:abin .add (.s ⟨#[45]⟩) (.s B)=some (True,.s (⟨#[45]⟩++B)):=by rw [abin_cat]; simp only [hmx']
   refine Wr ?_; simp [U,cat];refine Ws ?_; simp [U,cat];refine callK sg ?_; simp [U,cat];refine WS_cT (by simp [U,cat]) ?_;refine Wr ?_; simp [U,cat];refine callK tt ?_; simp [U,cat];refine WS_ret ?_; simp [U,cat]
 . have e:tx (zT (zi n l))= .s ⟨(Nm.decT (Nm.val 18446744073709551616 l)).toArray⟩:=by rw [zT,if_neg hx,zi_abs]; rfl
   rw [e];have hs:¬ (zi n l).sign<0:=by
    rcases Int.lt_or_eq_of_le (Int.not_lt.1 hx) with h | h
    . rw [sign_gt h]; omega
    . rw [<- h]; simp
   refine Wr ?_; simp [U,hs];refine Ws ?_; simp [U,hs];refine callK sg ?_; simp [U,hs];refine WS_cF (by simp [U,hs]) ?_;refine WS_skip ?_; simp [U,hs];refine Wr ?_; simp [U,hs];refine callK tt ?_; simp [U,hs];refine WS_ret ?_; simp [U,hs]
def zL (L:List (Bool × List Nat)):List V:=L.map λp=>zv p.1 p.2
theorem isZ_of {x:Int} {k:Nat} (h:zlen x<=k):IsZ k (Z x) x:=isZ_Z h
end Go.Vw
