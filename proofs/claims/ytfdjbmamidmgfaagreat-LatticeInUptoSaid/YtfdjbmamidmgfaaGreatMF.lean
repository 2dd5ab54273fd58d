/- Fractions. -/
import Derived.Test.YtfdjbmamidmgfaaGreatME
import Derived.Test.YtfdjbmamidmgfaaGreatS3
import Derived.Test.YtfdjbmamidmgfaaGreatS4
import Derived.Lib.Bytealg
import Derived.Test.YtfdjbmamidmgfaaGreatMD
import Derived.Test.YtfdjbmamidmgfaaGreatS5
set_option linter.unusedVariables false
set_option linter.unusedSimpArgs false
namespace Go.Vw
open Go.Proofs
def rv (n:Bool) (l d:List Nat):V:=.agg [.b n,.sl none (uL l),.sl none (uL d)]
def qd (n:Nat):List Nat:=Nm.dig 18446744073709551616 n
def Q (q:Rat):V:=rv (zn q.num) (zl q.num) (qd q.den)
theorem Q_eq (q:Rat):Q q= .agg [.b (zn q.num),.sl none (uL (zl q.num)),.sl none (uL (qd q.den))]:=rfl
def rq (n:Bool) (l d:List Nat):Rat:=mkRat (zi n l) (Nm.val 18446744073709551616 d)
def IsQ (k:Nat) (v:V) (q:Rat):Prop:=∃ n l d,v=rv n l d/\ZW k l/\ZW k d/\rq n l d=q
structure QL (k:Nat) (q:Rat):Prop where
 num:zlen q.num<=k
 den:zlen (q.den:Int)<=k
theorem QL.mono {k m:Nat} {q:Rat} (h:QL k q) (hk:k<=m):QL m q:=⟨Nat.le_trans h.num hk,Nat.le_trans h.den hk⟩
theorem IsQ.mono {k m:Nat} {v:V} {q:Rat} (h:IsQ k v q) (hk:k<=m):IsQ m v q:=by
 obtain ⟨n,l,d,h1,h2,h3,h4⟩:=h;exact ⟨n,l,d,h1,h2.mono hk,h3.mono hk,h4⟩
theorem qd_zl (n:Nat):qd n=zl (n:Int):=by simp [qd,zl]
theorem isQ_Q {k:Nat} {q:Rat} (h:QL k q):IsQ k (Q q) q:=by
 refine ⟨zn q.num,zl q.num,qd q.den,rfl,⟨zl_dl _,h.num⟩,⟨Nm.dig_lt (by omega) _,by rw [qd_zl]; exact h.den⟩,?_⟩;rw [rq,zi_Z,qd,Nm.val_dig (by omega),Rat.mkRat_self]
theorem zlen_abs {x:Int} {y:Nat} (h:x.natAbs=y):zlen (y:Int)=zlen x:=by simp [zlen,zl,h]
theorem divInt_num {x y:Int} (hy:y≠0):(Rat.divInt x y).num=if y<0 then -(x / (Int.gcd x y:Int)) else x / (Int.gcd x y:Int):=by
 rw [Rat.num_divInt,Int.gcd_comm y x];split
 . rw [Int.sign_eq_neg_one_of_neg (by omega),Int.neg_one_mul,Int.neg_ediv_of_dvd (Int.gcd_dvd_left _ _)]
 . rw [Int.sign_eq_one_of_pos (by omega),Int.one_mul]
theorem divInt_den {x y:Int} (hy:y≠0):(Rat.divInt x y).den=(y / (Int.gcd x y:Int)).natAbs:=by
 rw [Rat.den_divInt,if_neg hy,Int.natAbs_ediv_of_dvd (Int.gcd_dvd_right _ _),Int.gcd_comm y x];rfl
theorem divInt_len {x y:Int} {k:Nat} (hx:zlen x<=k) (hy:zlen y<=k):QL (k+1) (Rat.divInt x y):=by
 by_cases h0:y=0
 . subst h0;rw [Rat.divInt_zero];exact ⟨by rw [Rat.zero_num,zlen_zero]; omega,by have:=zlen_one; rw [show ((0:Rat).den:Int)=1 by rfl]; omega⟩
 . refine ⟨?_,?_⟩
   . rw [divInt_num h0];split
     . rw [zlen_neg]; have:=zlen_ediv x (Int.gcd x y:Int); omega
     . have:=zlen_ediv x (Int.gcd x y:Int); omega
   . rw [zlen_abs (divInt_den h0).symm]; have:=zlen_ediv y (Int.gcd x y:Int); omega
theorem mkRat_len {x:Int} {d:Nat} {k:Nat} (hx:zlen x<=k) (hy:zlen (d:Int)<=k):QL (k+1) (mkRat x d):=by
 rw [<- Rat.divInt_ofNat]; exact divInt_len hx hy
theorem IsQ.ql {k:Nat} {v:V} {q:Rat} (h:IsQ k v q):QL (k+1) q:=by
 obtain ⟨n,l,d,rfl,h1,h2,rfl⟩:=h;refine mkRat_len (isZ_zv (n:=n) h1).zlen ?_;have:=(isZ_zv (n:=false) h2).zlen
 rwa [show zi false d=(Nm.val 18446744073709551616 d:Int) by simp [zi]] at this
theorem gcd_ne {x y:Int} (h0:y≠0):(Int.gcd x y:Int)≠0:=by
 intro h;have hg:Int.gcd x y=0:=by omega
 exact h0 (Int.gcd_eq_zero_iff.1 hg).2
theorem zn_div {x y:Int} (h0:y≠0):zn (y / (Int.gcd x y:Int))=decide (y<0):=by
 have g0:=gcd_ne (x:=x) h0;have gp:(0:Int)<(Int.gcd x y:Int):=by omega
 rw [zn];congr 1;have hm:=Int.mul_ediv_cancel' (Int.gcd_dvd_right x y);apply propext;constructor
 . intro h;rw [<- hm];exact Int.mul_neg_of_pos_of_neg gp h
 . intro h;by_cases h':y / (Int.gcd x y:Int)<0
   . exact h'
   . have:=Int.mul_nonneg (Int.le_of_lt gp) (Int.not_lt.1 h');omega
def makeR (x y:Int):List RV:=if y=0 then [.pure (rv false [] []),.pure (.i .i64 3)] else [.pure (Q (Rat.divInt x y)),.pure (.i .i64 0)]
attribute [local simp] zv V.fits fillOk fillV Z_eq rv Q_eq
set_option maxHeartbeats 1000000 in
theorem zmake {k:Nat} {v w:V} {x y:Int} (hv:IsZ k v x) (hw:IsZ k w y) (hk:k<=2^33):Spec Tryz.prog f_rat_Make [v,w] (· =makeR x y):=by
 have sg:=zsign hw (by omega);have gd:=zgcd hv hw hk;have q1:=hv.zlen;have q2:=hw.zlen;have gl:=gcd_len q1 q2;have ex1:=zexact hv (isZ_of gl) (by omega);have ex2:=zexact hw (isZ_of gl) (by omega);have dv1:x%(Int.gcd x y:Int)=0:=Int.emod_eq_zero_of_dvd (Int.gcd_dvd_left _ _);have dv2:y%(Int.gcd x y:Int)=0:=Int.emod_eq_zero_of_dvd (Int.gcd_dvd_right _ _);have ql:=zlen_ediv x (Int.gcd x y:Int);obtain ⟨n1,l1,rfl,h1,rfl⟩:=hv;obtain ⟨n2,l2,rfl,h2,rfl⟩:=hw;obtain ⟨x,hx⟩:∃ x,x=zi n1 l1:=⟨_,rfl⟩;obtain ⟨y,hy⟩:∃ x,x=zi n2 l2:=⟨_,rfl⟩;rw [<- hx,<-hy] at gd gl ex1 ex2 dv1 dv2 ql ⊢;rw [<- hy] at sg q2;rw [<- hx] at q1;refine spec_at Tryz.func197 ok_rat_Make [] rfl (by simp) ?_;unfold sc_rat_Make;by_cases h0:y=0
 . rw [makeR,if_pos h0];rw [h0,Int.sign_zero] at sg;refine Wr ?_; simp [uL_nil];refine Ws ?_; simp [uL_nil];refine callK sg ?_; simp [uL_nil];refine WS_cT (by simp [uL_nil]) ?_;refine Wr ?_; simp [uL_nil];refine WS_ret ?_; simp [uL_nil]
 . have hs:y.sign≠0:=by rw [Ne,Int.sign_eq_zero_iff_zero]; exact h0
   have g0:=gcd_ne (x:=x) h0;rw [exactR,if_neg g0,if_pos dv1] at ex1;rw [exactR,if_neg g0,if_pos dv2] at ex2;have hn:=divInt_num (x:=x) h0;have hd:=divInt_den (x:=x) h0;have hsg:=zn_div (x:=x) h0;have ng:=zneg (isZ_of (x:=x / (Int.gcd x y:Int)) (k:=k) (by omega)) (by omega);rw [makeR,if_neg h0];have hz:qd (Rat.divInt x y).den=zl (y / (Int.gcd x y:Int)):=by rw [qd,hd]; rfl
   rw [Q_eq,hz];obtain ⟨p,hp⟩:∃ p,p=(Rat.divInt x y).num:=⟨_,rfl⟩;rw [<- hp] at hn ⊢;obtain ⟨g,hg⟩:∃ g:Int,g=(Int.gcd x y:Int):=⟨_,rfl⟩;rw [<- hg] at gd ex1 ex2 hn hsg ng ⊢;by_cases hneg:y<0
   . rw [if_pos hneg] at hn;rw [<- hn] at ng;rw [decide_eq_true hneg] at hsg;refine Wr ?_; simp [hs,hsg];refine Ws ?_; simp [hs,hsg];refine callK sg ?_; simp [hs,hsg];refine WS_cF (by simp [hs,hsg]) ?_;refine WS_skip ?_; simp [hs,hsg];refine Wr ?_; simp [hs,hsg];refine callK gd ?_; simp [hs,hsg];refine Wr ?_; simp [hs,hsg];refine callK ex1 ?_; simp [hs,hsg];refine Wr ?_; simp [hs,hsg];refine callK ex2 ?_; simp [hs,hsg];refine Ws ?_; simp [hs,hsg];refine WS_cT (by simp [hs,hsg]) ?_;refine WS_reg [] ?_; simp [hs,hsg];refine callK ng ?_; simp [hs,hsg];refine Wr ?_; simp [hs,hsg];refine WS_ret ?_; simp [hs,hsg]
   . rw [if_neg hneg] at hn;rw [decide_eq_false hneg] at hsg;refine Wr ?_; simp [hs,hsg,hn];refine Ws ?_; simp [hs,hsg,hn];refine callK sg ?_; simp [hs,hsg,hn];refine WS_cF (by simp [hs,hsg,hn]) ?_;refine WS_skip ?_; simp [hs,hsg,hn];refine Wr ?_; simp [hs,hsg,hn];refine callK gd ?_; simp [hs,hsg,hn];refine Wr ?_; simp [hs,hsg,hn];refine callK ex1 ?_; simp [hs,hsg,hn];refine Wr ?_; simp [hs,hsg,hn];refine callK ex2 ?_; simp [hs,hsg,hn];refine Ws ?_; simp [hs,hsg,hn];refine WS_cF (by simp [hs,hsg,hn]) ?_;refine WS_skip ?_; simp [hs,hsg,hn];refine Wr ?_; simp [hs,hsg,hn];refine WS_ret ?_; simp [hs,hsg,hn]
set_option maxHeartbeats 1000000 in
theorem rmake {k:Nat} {v w:V} {x y:Int} (hv:IsZ k v x) (hw:IsZ k w y) (hk:k<=2^33):Spec Tryz.prog f_ref03_Make [v,w] (· =makeR x y):=by
 have sg:=rsign hw (by omega);have gd:=rgcd hv hw hk;have q1:=hv.zlen;have q2:=hw.zlen;have gl:=gcd_len q1 q2;have ex1:=λh=>rdivz hv (isZ_of gl) (by omega) h;have ex2:=λh=>rdivz hw (isZ_of gl) (by omega) h;have ql:=zlen_ediv x (Int.gcd x y:Int);obtain ⟨n1,l1,rfl,h1,rfl⟩:=hv;obtain ⟨n2,l2,rfl,h2,rfl⟩:=hw;obtain ⟨x,hx⟩:∃ x,x=zi n1 l1:=⟨_,rfl⟩;obtain ⟨y,hy⟩:∃ x,x=zi n2 l2:=⟨_,rfl⟩;rw [<- hx,<-hy] at gd gl ex1 ex2 ql ⊢;rw [<- hy] at sg q2;rw [<- hx] at q1;refine spec_at Tryz.func195 ok_ref03_Make [] rfl (by simp) ?_;unfold sc_ref03_Make;by_cases h0:y=0
 . rw [makeR,if_pos h0];rw [h0,Int.sign_zero] at sg;refine Wr ?_; simp [uL_nil];refine Ws ?_; simp [uL_nil];refine callK sg ?_; simp [uL_nil];refine WS_cT (by simp [uL_nil]) ?_;refine Wr ?_; simp [uL_nil];refine WS_ret ?_; simp [uL_nil]
 . have hs:y.sign≠0:=by rw [Ne,Int.sign_eq_zero_iff_zero]; exact h0
   have g0:=gcd_ne (x:=x) h0;have ex1:=ex1 g0;have ex2:=ex2 g0;have hn:=divInt_num (x:=x) h0;have hd:=divInt_den (x:=x) h0;have hsg:=zn_div (x:=x) h0;have ng:=rneg (isZ_of (x:=x / (Int.gcd x y:Int)) (k:=k) (by omega)) (by omega);rw [makeR,if_neg h0];have hz:qd (Rat.divInt x y).den=zl (y / (Int.gcd x y:Int)):=by rw [qd,hd]; rfl
   rw [Q_eq,hz];obtain ⟨p,hp⟩:∃ p,p=(Rat.divInt x y).num:=⟨_,rfl⟩;rw [<- hp] at hn ⊢;obtain ⟨g,hg⟩:∃ g:Int,g=(Int.gcd x y:Int):=⟨_,rfl⟩;rw [<- hg] at gd ex1 ex2 hn hsg ng ⊢;by_cases hneg:y<0
   . rw [if_pos hneg] at hn;rw [<- hn] at ng;rw [decide_eq_true hneg] at hsg;refine Wr ?_; simp [hs,hsg];refine Ws ?_; simp [hs,hsg];refine callK sg ?_; simp [hs,hsg];refine WS_cF (by simp [hs,hsg]) ?_;refine WS_skip ?_; simp [hs,hsg];refine Wr ?_; simp [hs,hsg];refine callK gd ?_; simp [hs,hsg];refine Wr ?_; simp [hs,hsg];refine callK ex1 ?_; simp [hs,hsg];refine Wr ?_; simp [hs,hsg];refine callK ex2 ?_; simp [hs,hsg];refine Ws ?_; simp [hs,hsg];refine WS_cT (by simp [hs,hsg]) ?_;refine WS_reg [] ?_; simp [hs,hsg];refine callK ng ?_; simp [hs,hsg];refine Wr ?_; simp [hs,hsg];refine WS_ret ?_; simp [hs,hsg]
   . rw [if_neg hneg] at hn;rw [decide_eq_false hneg] at hsg;refine Wr ?_; simp [hs,hsg,hn];refine Ws ?_; simp [hs,hsg,hn];refine callK sg ?_; simp [hs,hsg,hn];refine WS_cF (by simp [hs,hsg,hn]) ?_;refine WS_skip ?_; simp [hs,hsg,hn];refine Wr ?_; simp [hs,hsg,hn];refine callK gd ?_; simp [hs,hsg,hn];refine Wr ?_; simp [hs,hsg,hn];refine callK ex1 ?_; simp [hs,hsg,hn];refine Wr ?_; simp [hs,hsg,hn];refine callK ex2 ?_; simp [hs,hsg,hn];refine Ws ?_; simp [hs,hsg,hn];refine WS_cF (by simp [hs,hsg,hn]) ?_;refine WS_skip ?_; simp [hs,hsg,hn];refine Wr ?_; simp [hs,hsg,hn];refine WS_ret ?_; simp [hs,hsg,hn]
theorem qd_one:qd 1=[1]:=by rw [qd,Nm.dig_pos (by omega) (by omega),Nat.mod_eq_of_lt (by omega),Nat.div_eq_of_lt (by omega),Nm.dig_zero]
theorem qd_dl (n:Nat):Nm.Dl 18446744073709551616 (qd n):=Nm.dig_lt (by omega) _
theorem qd_val (n:Nat):Nm.val 18446744073709551616 (qd n)=n:=Nm.val_dig (by omega) _
theorem qd_len (n:Nat):(qd n).length=zlen (n:Int):=by rw [qd_zl]; rfl
theorem isQ_mk {k:Nat} {p:Int} {D:Nat} (hp:zlen p<=k) (hD:zlen (D:Int)<=k):IsQ k (rv (zn p) (zl p) (qd D)) (mkRat p D):=
 ⟨zn p,zl p,qd D,rfl,⟨zl_dl _,hp⟩,⟨qd_dl _,by rw [qd_len]; exact hD⟩,by rw [rq,zi_Z,qd_val]⟩
theorem Q_int (n:Int):Q (n:Rat)=rv (zn n) (zl n) [1]:=by
 show rv (zn n) (zl n) (qd 1)=_;rw [qd_one]
def wholeR (q:Rat):List RV:=if q.den=1 then [.pure (Z q.num),.pure (.b true)] else [.pure (Z 0),.pure (.b false)]
def divR (q r:Rat):List RV:=if r=0 then [.pure (rv false [] []),.pure (.i .i64 3)] else [.pure (Q (q / r)),.pure (.i .i64 0)]
theorem qden {k:Nat} {n:Bool} {l d:List Nat} (h:ZW k d) (hk:k<=2^40):Spec Tryz.prog f_rat_den [rv n l d] (· =[.pure (Z (Nm.val 18446744073709551616 d:Int))]):=by
 have nm:=znorm (isZ_zv (n:=false) h) hk;rw [show zi false d=(Nm.val 18446744073709551616 d:Int) by simp [zi]] at nm;refine spec_at Tryz.func198 ok_rat_den [] rfl (by simp) ?_;unfold sc_rat_den;refine Wr ?_; simp;refine Wr ?_; simp;refine callK nm ?_; simp;refine WS_ret ?_; simp
theorem qden_Q {k:Nat} {q:Rat} (h:QL k q) (hk:k<=2^40):Spec Tryz.prog f_rat_den [Q q] (· =[.pure (Z (q.den:Int))]):=by
 have:=qden (n:=zn q.num) (l:=zl q.num) (d:=qd q.den) (k:=k) ⟨qd_dl _,by rw [qd_len]; exact h.den⟩ hk
 rwa [qd_val] at this
theorem qof (n:Int) (h1: -9223372036854775808<=n) (h2:n<=9223372036854775807):Spec Tryz.prog f_rat_Of [.i .i64 n] (· =[.pure (Q (n:Rat))]):=by
 have zo:=zof n h1 h2;rw [Q_int];have e1:uL [1]=[V.i .u64 1]:=rfl;refine spec_at Tryz.func200 ok_rat_Of [] rfl (by simp) ?_;unfold sc_rat_Of;refine Wr ?_; simp [e1];refine Wr ?_; simp [e1];refine callK zo ?_; simp [e1];refine WS_ret ?_; simp [e1]
theorem qnorm {k:Nat} {v:V} {q:Rat} (hv:IsQ k v q) (hk:k<=2^33):Spec Tryz.prog f_rat_Norm [v] (· =[.pure (Q q)]):=by
 obtain ⟨n,l,d,rfl,h1,h2,rfl⟩:=hv;have dn:=qden (n:=n) (l:=l) h2 (by omega);have iz:=(isZ_zv (n:=false) h2).zlen;rw [show zi false d=(Nm.val 18446744073709551616 d:Int) by simp [zi]] at iz;have mk:=zmake (isZ_zv (n:=n) h1) (isZ_of iz) hk;have o0:=qof 0 (by omega) (by omega);rw [Rat.intCast_zero] at o0;have hq:rq n l d=mkRat (zi n l) (Nm.val 18446744073709551616 d):=rfl;obtain ⟨D,hD⟩:∃ D,D=Nm.val 18446744073709551616 d:=⟨_,rfl⟩;rw [<- hD] at dn mk hq;obtain ⟨r,hr⟩:∃ r,r=rq n l d:=⟨_,rfl⟩;rw [<- hr] at hq ⊢;refine spec_at Tryz.func164 ok_rat_Norm [] rfl (by simp) ?_;unfold sc_rat_Norm;by_cases h0:D=0
 . subst h0;rw [Rat.mkRat_zero] at hq;rw [makeR,if_pos (by rfl)] at mk;subst hq;refine Wr ?_; simp;refine WS_seq (WS_regD [] ?_); simp;refine callD dn rfl ?_; simp;refine callD mk rfl ?_; simp;refine ⟨rfl,?_⟩;refine Ws ?_; simp;refine WS_cT (by simp) ?_;refine Wr ?_; simp;refine callK o0 ?_; simp;refine WS_ret ?_; simp
 . rw [makeR,if_neg (by omega),Rat.divInt_ofNat,<-hq] at mk;refine Wr ?_; simp;refine WS_seq (WS_regD [] ?_); simp;refine callD dn rfl ?_; simp;refine callD mk rfl ?_; simp;refine ⟨rfl,?_⟩;refine Ws ?_; simp;refine WS_cF (by simp) ?_;refine WS_skip ?_; simp;refine Wr ?_; simp;refine WS_ret ?_; simp
theorem qsign {k:Nat} {v:V} {q:Rat} (hv:IsQ k v q) (hk:k<=2^33):Spec Tryz.prog f_rat_Sign [v] (· =[.pure (.i .i64 q.num.sign)]):=by
 have nm:=qnorm hv hk;have ql:=hv.ql;have sg:=zsign (isZ_of ql.num) (by omega);obtain ⟨n,l,d,rfl,h1,h2,hq⟩:=hv;refine spec_at Tryz.func113 ok_rat_Sign [] rfl (by simp) ?_;unfold sc_rat_Sign;refine Wr ?_; simp;refine Wr ?_; simp;refine callK nm ?_; simp;refine callK sg ?_; simp;refine WS_ret ?_; simp
theorem nmul_Q {k:Nat} {q r:Rat} (hq:QL k q) (hr:QL k r) (hk:k<=2^28):Spec Tryz.prog f_nat_Mul [U (qd q.den),U (qd r.den)] (· =[.pure (U (qd (q.den*r.den)))]):=by
 have h:=nmul_spec (max (Nm.trim (qd q.den)).length (Nm.trim (qd r.den)).length) (qd q.den) (qd r.den) (qd_dl _) (qd_dl _) (by rw [qd_len]; have:=hq.den; omega) (by rw [qd_len]; have:=hr.den; omega) (by omega) (by omega);rw [qd_val,qd_val] at h;exact h
theorem qmul_mk (q r:Rat):mkRat (q.num*r.num) (q.den*r.den)=q*r:=by
 rw [<- Rat.mkRat_mul_mkRat,Rat.mkRat_self,Rat.mkRat_self]
theorem natlen_mul (a b:Nat):zlen ((a*b:Nat):Int)<=zlen (a:Int)+zlen (b:Int):=by rw [Int.natCast_mul]; exact zlen_mul _ _
theorem qmul {k:Nat} {v w:V} {q r:Rat} (hv:IsQ k v q) (hw:IsQ k w r) (hk:k<=2^26):Spec Tryz.prog f_rat_Mul [v,w] (· =[.pure (Q (q*r))]):=by
 have n1:=qnorm hv (by omega);have n2:=qnorm hw (by omega);have q1:=hv.ql;have q2:=hw.ql;have mu:=zmul (isZ_of q1.num) (isZ_of q2.num) (by omega);have md:=nmul_Q q1 q2 (by omega);have nm:=qnorm (isQ_mk (k:=2*k+2) (p:=q.num*r.num) (D:=q.den*r.den) (by have:=zlen_mul q.num r.num; have:=q1.num; have:=q2.num; omega) (by have:=natlen_mul q.den r.den; have:=q1.den; have:=q2.den; omega)) (by omega);rw [qmul_mk] at nm;obtain ⟨n1',l1,d1,rfl,h1,h1',_⟩:=hv;obtain ⟨n2',l2,d2,rfl,h2,h2',_⟩:=hw;refine spec_at Tryz.func163 ok_rat_Mul [] rfl (by simp) ?_;unfold sc_rat_Mul;refine Wr ?_; simp [U];refine WS_seq (WS_regD [] ?_); simp [U];refine callD n1 rfl ?_; simp [U];refine callD n2 rfl ?_; simp [U];refine ⟨rfl,?_⟩;refine WS_seq (WS_regD [] ?_); simp [U];refine callD mu rfl ?_; simp [U];refine callD md rfl ?_; simp [U];refine callD nm rfl ?_; simp [U];refine ⟨rfl,?_⟩;refine WS_ret ?_; simp [U]
theorem qdiv_mk {q r:Rat}:Rat.divInt (q.num*r.den) (r.num*q.den)=q / r:=by
 rw [Int.mul_comm r.num,<-Rat.divInt_mul_divInt,Rat.num_divInt_den,Rat.div_def,<-Rat.inv_divInt,Rat.num_divInt_den]
theorem qdiv {k:Nat} {v w:V} {q r:Rat} (hv:IsQ k v q) (hw:IsQ k w r) (hk:k<=2^26):Spec Tryz.prog f_rat_Div [v,w] (· =divR q r):=by
 have n1:=qnorm hv (by omega);have n2:=qnorm hw (by omega);have q1:=hv.ql;have q2:=hw.ql;have d1:=qden_Q q1 (by omega);have d2:=qden_Q q2 (by omega);have m1:=zmul (isZ_of q1.num) (isZ_of q2.den) (by omega);have m2:=zmul (isZ_of q2.num) (isZ_of q1.den) (by omega);have mk:=zmake (isZ_of (k:=2*k+2) (x:=q.num*(r.den:Int)) (by have:=zlen_mul q.num r.den; have:=q1.num; have:=q2.den; omega)) (isZ_of (k:=2*k+2) (x:=r.num*(q.den:Int)) (by have:=zlen_mul r.num q.den; have:=q2.num; have:=q1.den; omega)) (by omega);have hR:makeR (q.num*(r.den:Int)) (r.num*(q.den:Int))=divR q r:=by
  have hd:(q.den:Int)≠0:=by have:=q.den_nz; omega
  by_cases h0:r=0
  . subst h0;rw [makeR,if_pos (by rw [Rat.zero_num,Int.zero_mul]),divR,if_pos rfl]
  . rw [makeR,if_neg (by rw [Int.mul_eq_zero]; rintro (h | h); exact h0 (Rat.num_eq_zero.1 h); exact hd h),divR,if_neg h0,qdiv_mk]
 rw [hR] at mk;have hx:∃ p e,divR q r=[.pure p,.pure (.i .i64 e)]/\∃ a b c,p=rv a b c:=by
  unfold divR;split
  . exact ⟨_,_,rfl,_,_,_,rfl⟩
  . exact ⟨_,_,rfl,_,_,_,rfl⟩
 obtain ⟨p,e,hp,a,b,c,rfl⟩:=hx;rw [hp] at mk ⊢;obtain ⟨n1',l1,d1',rfl,h1,h1',_⟩:=hv;obtain ⟨n2',l2,d2',rfl,h2,h2',_⟩:=hw;refine spec_at Tryz.func161 ok_rat_Div [] rfl (by simp) ?_;unfold sc_rat_Div;refine Wr ?_; simp;refine WS_seq (WS_regD [] ?_); simp;refine callD n1 rfl ?_; simp;refine callD n2 rfl ?_; simp;refine ⟨rfl,?_⟩;refine WS_seq (WS_regD [] ?_); simp;refine callD d2 rfl ?_; simp;refine callD m1 rfl ?_; simp;refine callD d1 rfl ?_; simp;refine callD m2 rfl ?_; simp;refine callD mk rfl ?_; simp;refine ⟨rfl,?_⟩;refine WS_ret ?_; simp
theorem cmpN_one {n:Nat} (h:n≠0):(Nm.cmpN n 1=0)↔n=1:=by
 unfold Nm.cmpN;constructor
 . intro h; split at h
   . omega
   . split at h<;>omega
 . rintro rfl; simp
theorem qwhole {k:Nat} {v:V} {q:Rat} (hv:IsQ k v q) (hk:k<=2^33):Spec Tryz.prog f_rat_Whole [v] (· =wholeR q):=by
 have nm:=qnorm hv hk;have ql:=hv.ql;have cm:=ncmp_spec (qd q.den) [1] (qd_dl _) (by intro x hx; simp at hx; omega) (by rw [qd_len]; have:=ql.den; omega) (by simp);rw [qd_val,show Nm.val 18446744073709551616 [1]=1 by simp [Nm.val]] at cm;have c1:=cmpN_one q.den_nz;obtain ⟨n,l,d,rfl,h1,h2,_⟩:=hv;have e1:U [1]= .sl none [V.i .u64 1]:=rfl;rw [e1] at cm;refine spec_at Tryz.func112 ok_rat_Whole [] rfl (by simp) ?_;unfold sc_rat_Whole;by_cases h:q.den=1
 . rw [wholeR,if_pos h];have c2:=c1.2 h;rw [c2] at cm;refine Wr ?_; simp [U];refine Wr ?_; simp [U];refine callK nm ?_; simp [U];refine Ws ?_; simp [U];refine callK cm ?_; simp [U];refine WS_cF (by simp [U]) ?_;refine WS_skip ?_; simp [U];refine Wr ?_; simp [U];refine WS_ret ?_; simp [U]
 . rw [wholeR,if_neg h];have c2:¬ Nm.cmpN q.den 1=0:=λe=>h (c1.1 e);refine Wr ?_; simp [U,c2,Z_zero];refine Wr ?_; simp [U,c2,Z_zero];refine callK nm ?_; simp [U,c2,Z_zero];refine Ws ?_; simp [U,c2,Z_zero];refine callK cm ?_; simp [U,c2,Z_zero];refine WS_cT (by simp [U,c2,Z_zero]) ?_;refine Wr ?_; simp [U,c2,Z_zero];refine WS_ret ?_; simp [U,c2,Z_zero]
theorem qadd_mk (q r:Rat):mkRat (q.num*r.den+r.num*q.den) (q.den*r.den)=q+r:=by
 rw [<- Rat.mkRat_add_mkRat _ _ q.den_nz r.den_nz,Rat.mkRat_self,Rat.mkRat_self]
theorem qsub_mk (q r:Rat):mkRat (q.num*r.den-r.num*q.den) (q.den*r.den)=q-r:=by
 rw [Rat.sub_eq_add_neg,<-qadd_mk,Rat.neg_num,Rat.neg_den,Int.neg_mul,Int.sub_eq_add_neg]
theorem qjoin1 {k:Nat} {a b:Int} (ha:zlen a<=k) (hb:zlen b<=k) (hk:k<=2^37) (m:Bool):Spec Tryz.prog f_rat_joined_1 [Z a,Z b,.ref none (.b m)] (· =[.pure (Z (if m then a-b else a+b))]):=by
 have ad:=zadd (isZ_of ha) (isZ_of hb) hk;have sb:=zsub (isZ_of ha) (isZ_of hb) hk;refine spec_at Tryz.func214 ok_rat_joined_1 [] rfl (by simp) ?_;unfold sc_rat_joined_1;cases m with
 | true=>
  refine Wr ?_; simp;refine Ws ?_; simp;refine WS_cT (by simp) ?_;refine Wr ?_; simp;refine callK sb ?_; simp;refine WS_ret ?_; simp
 | false=>
  refine Wr ?_; simp;refine Ws ?_; simp;refine WS_cF (by simp) ?_;refine WS_skip ?_; simp;refine Wr ?_; simp;refine callK ad ?_; simp;refine WS_ret ?_; simp
theorem qcrossed {k:Nat} {v w:V} {q r:Rat} (hv:IsQ k v q) (hw:IsQ k w r) (hk:k<=2^26) (f:Nat) (caps:List V) (c:Int)
 (hf:Spec Tryz.prog f (Z (q.num*(r.den:Int))::Z (r.num*(q.den:Int))::caps) (· =[.pure (Z c)])) (hc:zlen c<=2*k+3):
 Spec Tryz.prog f_rat_crossed [v,w,.clo f caps] (· =[.pure (Q (mkRat c (q.den*r.den)))]):=by
 have n1:=qnorm hv (by omega);have n2:=qnorm hw (by omega);have q1:=hv.ql;have q2:=hw.ql;have d1:=qden_Q q1 (by omega);have d2:=qden_Q q2 (by omega);have m1:=zmul (isZ_of q1.num) (isZ_of q2.den) (by omega);have m2:=zmul (isZ_of q2.num) (isZ_of q1.den) (by omega);have md:=nmul_Q q1 q2 (by omega);have nm:=qnorm (isQ_mk (k:=2*k+3) (p:=c) (D:=q.den*r.den) hc (by have:=natlen_mul q.den r.den; have:=q1.den; have:=q2.den; omega)) (by omega);obtain ⟨n1',l1,d1',rfl,h1,h1',_⟩:=hv;obtain ⟨n2',l2,d2',rfl,h2,h2',_⟩:=hw;refine spec_at Tryz.func213 ok_rat_crossed [] rfl (by simp) ?_;unfold sc_rat_crossed;refine Wr ?_; simp [U];refine WS_seq (WS_regD [] ?_); simp [U];refine callD n1 rfl ?_; simp [U];refine callD n2 rfl ?_; simp [U];refine ⟨rfl,?_⟩;refine WS_seq (WS_regD [] ?_); simp [U];refine callD d2 rfl ?_; simp [U];refine callD m1 rfl ?_; simp [U];refine callD d1 rfl ?_; simp [U];refine callD m2 rfl ?_; simp [U];refine callD hf rfl ?_; simp [U];refine ⟨rfl,?_⟩;refine WS_seq (WS_regD [] ?_); simp [U];refine callD md rfl ?_; simp [U];refine callD nm rfl ?_; simp [U];refine ⟨rfl,?_⟩;refine WS_ret ?_; simp [U]
theorem qjoined {k:Nat} {v w:V} {q r:Rat} (hv:IsQ k v q) (hw:IsQ k w r) (hk:k<=2^26) (m:Bool):Spec Tryz.prog f_rat_joined [v,w,.b m] (· =[.pure (Q (if m then q-r else q+r))]):=by
 have q1:=hv.ql;have q2:=hw.ql;have l1:zlen (q.num*(r.den:Int))<=2*k+2:=by have:=zlen_mul q.num r.den; have:=q1.num; have:=q2.den; omega
 have l2:zlen (r.num*(q.den:Int))<=2*k+2:=by have:=zlen_mul r.num q.den; have:=q2.num; have:=q1.den; omega
 have cr:=qcrossed hv hw hk f_rat_joined_1 [.ref none (.b m)] _ (qjoin1 l1 l2 (by omega) m) (by
  have a1:=zlen_add (q.num*(r.den:Int)) (r.num*(q.den:Int));have a2:=zlen_sub (q.num*(r.den:Int)) (r.num*(q.den:Int));split<;>omega)
 have e:mkRat (if m=true then q.num*(r.den:Int)-r.num*(q.den:Int) else q.num*(r.den:Int)+r.num*(q.den:Int)) (q.den*r.den)=if m=true then q-r else q+r:=by
  split
  . exact qsub_mk q r
  . exact qadd_mk q r
 rw [e] at cr;obtain ⟨z,hz⟩:∃ z,z=(if m=true then q-r else q+r):=⟨_,rfl⟩;rw [<- hz] at cr ⊢;obtain ⟨n1',l1,d1',rfl,h1,h1',_⟩:=hv;obtain ⟨n2',l2,d2',rfl,h2,h2',_⟩:=hw;refine spec_at Tryz.func199 ok_rat_joined [] rfl (by simp) ?_;unfold sc_rat_joined;refine Wr ?_; simp;refine WS_frz 5 5 none ?_;simp [frzQ];refine Wr ?_; simp;refine callK cr ?_; simp;refine WS_ret ?_; simp
theorem qsub {k:Nat} {v w:V} {q r:Rat} (hv:IsQ k v q) (hw:IsQ k w r) (hk:k<=2^26):Spec Tryz.prog f_rat_Sub [v,w] (· =[.pure (Q (q-r))]):=by
 have jn:=qjoined hv hw hk true;rw [if_pos rfl] at jn;obtain ⟨n1',l1,d1',rfl,h1,h1',_⟩:=hv;obtain ⟨n2',l2,d2',rfl,h2,h2',_⟩:=hw;refine spec_at Tryz.func162 ok_rat_Sub [] rfl (by simp) ?_;unfold sc_rat_Sub;refine Wr ?_; simp;refine Wr ?_; simp;refine callK jn ?_; simp;refine WS_ret ?_; simp
theorem ql_add {k:Nat} {q r:Rat} (h1:QL k q) (h2:QL k r):QL (2*k+2) (q+r):=by
 rw [<- qadd_mk];refine mkRat_len (k:=2*k+1) ?_ ?_
 . have a1:=zlen_add (q.num*(r.den:Int)) (r.num*(q.den:Int));have:=zlen_mul q.num r.den;have:=zlen_mul r.num q.den;have:=h1.num; have:=h1.den; have:=h2.num; have:=h2.den;omega
 . have:=natlen_mul q.den r.den; have:=h1.den; have:=h2.den; omega
theorem ql_sub {k:Nat} {q r:Rat} (h1:QL k q) (h2:QL k r):QL (2*k+2) (q-r):=by
 rw [<- qsub_mk];refine mkRat_len (k:=2*k+1) ?_ ?_
 . have a1:=zlen_sub (q.num*(r.den:Int)) (r.num*(q.den:Int));have:=zlen_mul q.num r.den;have:=zlen_mul r.num q.den;have:=h1.num; have:=h1.den; have:=h2.num; have:=h2.den;omega
 . have:=natlen_mul q.den r.den; have:=h1.den; have:=h2.den; omega
theorem ql_mul {k:Nat} {q r:Rat} (h1:QL k q) (h2:QL k r):QL (2*k+1) (q*r):=by
 rw [<- qmul_mk];refine mkRat_len (k:=2*k) ?_ ?_
 . have:=zlen_mul q.num r.num; have:=h1.num; have:=h2.num; omega
 . have:=natlen_mul q.den r.den; have:=h1.den; have:=h2.den; omega
theorem ql_div {k:Nat} {q r:Rat} (h1:QL k q) (h2:QL k r):QL (2*k+1) (q / r):=by
 rw [<- qdiv_mk];refine divInt_len (k:=2*k) ?_ ?_
 . have:=zlen_mul q.num r.den; have:=h1.num; have:=h2.den; omega
 . have:=zlen_mul r.num q.den; have:=h1.den; have:=h2.num; omega
theorem rof3 (n:Int) (h1: -9223372036854775808<=n) (h2:n<=9223372036854775807):Spec Tryz.prog f_ref03_Of [.i .i64 n] (· =[.pure (Q (n:Rat))]):=by
 have zo:=rof n h1 h2;rw [Q_int];have e1:uL [1]=[V.i .u64 1]:=rfl;refine spec_at Tryz.func105 ok_ref03_Of [] rfl (by simp) ?_;unfold sc_ref03_Of;refine Wr ?_; simp [e1];refine Wr ?_; simp [e1];refine callK zo ?_; simp [e1];refine WS_ret ?_; simp [e1]
theorem divInt_mk (x:Int) (d:Nat):Rat.divInt x (d:Int)=mkRat x d:=Rat.divInt_ofNat ..
theorem qdiv_mk2 {q r:Rat}:Rat.divInt (q.num*r.den) (q.den*r.num)=q / r:=by rw [Int.mul_comm (q.den:Int)]; exact qdiv_mk
theorem ql_neg {k:Nat} {q:Rat} (h:QL k q):QL k (-q):=⟨by rw [Rat.neg_num,zlen_neg]; exact h.num,by rw [Rat.neg_den]; exact h.den⟩
theorem rden3 {k:Nat} {n:Bool} {l d:List Nat} (h:ZW k d) (hk:k<=2^40):Spec Tryz.prog f_ref03_den [rv n l d] (· =[.pure (Z (Nm.val 18446744073709551616 d:Int))]):=by
 have nm:=rnorm (isZ_zv (n:=false) h) hk;rw [show zi false d=(Nm.val 18446744073709551616 d:Int) by simp [zi]] at nm;refine spec_at Tryz.func157 ok_ref03_den [] rfl (by simp) ?_;unfold sc_ref03_den;refine Wr ?_; simp;refine Wr ?_; simp;refine callK nm ?_; simp;refine WS_ret ?_; simp
theorem rden3_Q {k:Nat} {q:Rat} (h:QL k q) (hk:k<=2^40):Spec Tryz.prog f_ref03_den [Q q] (· =[.pure (Z (q.den:Int))]):=by
 have:=rden3 (n:=zn q.num) (l:=zl q.num) (d:=qd q.den) (k:=k) ⟨qd_dl _,by rw [qd_len]; exact h.den⟩ hk
 rwa [qd_val] at this
theorem rsure {k:Nat} {v w:V} {x y:Int} (hv:IsZ k v x) (hw:IsZ k w y) (hk:k<=2^33):Spec Tryz.prog f_ref03_sure [v,w] (· =[.pure (Q (Rat.divInt x y))]):=by
 have mk:=rmake hv hw hk;have o0:=rof3 0 (by omega) (by omega);rw [Rat.intCast_zero] at o0;obtain ⟨n1,l1,rfl,h1,_⟩:=hv;obtain ⟨n2,l2,rfl,h2,_⟩:=hw;by_cases h0:y=0
 . subst h0;rw [Rat.divInt_zero];rw [makeR,if_pos rfl] at mk;obtain ⟨q,hq⟩:∃ q:Rat,q=0:=⟨_,rfl⟩;rw [<- hq] at o0 ⊢;refine spec_at Tryz.func156 ok_ref03_sure [] rfl (by simp) ?_;unfold sc_ref03_sure;refine Wr ?_; simp;refine Wr ?_; simp;refine callK mk ?_; simp;refine Ws ?_; simp;refine WS_cT (by simp) ?_;refine Wr ?_; simp;refine callK o0 ?_; simp;refine WS_ret ?_; simp
 . rw [makeR,if_neg h0] at mk;obtain ⟨q,hq⟩:∃ q:Rat,q=Rat.divInt x y:=⟨_,rfl⟩;rw [<- hq] at mk ⊢;refine spec_at Tryz.func156 ok_ref03_sure [] rfl (by simp) ?_;unfold sc_ref03_sure;refine Wr ?_; simp;refine Wr ?_; simp;refine callK mk ?_; simp;refine Ws ?_; simp;refine WS_cF (by simp) ?_;refine WS_skip ?_; simp;refine Wr ?_; simp;refine WS_ret ?_; simp
theorem rnorm3 {k:Nat} {v:V} {q:Rat} (hv:IsQ k v q) (hk:k<=2^33):Spec Tryz.prog f_ref03_Norm [v] (· =[.pure (Q q)]):=by
 obtain ⟨n,l,d,rfl,h1,h2,hq⟩:=hv;have dn:=rden3 (n:=n) (l:=l) h2 (by omega);have iz:=(isZ_zv (n:=false) h2).zlen;rw [show zi false d=(Nm.val 18446744073709551616 d:Int) by simp [zi]] at iz;have su:=rsure (isZ_zv (n:=n) h1) (isZ_of iz) hk;rw [divInt_mk,show mkRat (zi n l) (Nm.val 18446744073709551616 d)=q from hq] at su;obtain ⟨D,hD⟩:∃ D,D=Nm.val 18446744073709551616 d:=⟨_,rfl⟩;rw [<- hD] at dn su;refine spec_at Tryz.func155 ok_ref03_Norm [] rfl (by simp) ?_;unfold sc_ref03_Norm;refine Wr ?_; simp;refine WS_seq (WS_regD [] ?_); simp;refine callD dn rfl ?_; simp;refine callD su rfl ?_; simp;refine ⟨rfl,?_⟩;refine WS_ret ?_; simp
theorem rneg3 {k:Nat} {v:V} {q:Rat} (hv:IsQ k v q) (hk:k<=2^33):Spec Tryz.prog f_ref03_Neg [v] (· =[.pure (Q (-q))]):=by
 obtain ⟨n,l,d,rfl,h1,h2,hq⟩:=hv;have dn:=rden3 (n:=n) (l:=l) h2 (by omega);have ng:=rneg (isZ_zv (n:=n) h1) (by omega);have iz:=(isZ_zv (n:=false) h2).zlen;rw [show zi false d=(Nm.val 18446744073709551616 d:Int) by simp [zi]] at iz;have il:=(isZ_zv (n:=n) h1).zlen;have su:=rsure (isZ_of (x:= -zi n l) (k:=k) (by rw [zlen_neg]; exact il)) (isZ_of iz) hk;have hq2:mkRat (-zi n l) (Nm.val 18446744073709551616 d)= -q:=by rw [<- hq,rq,Rat.neg_mkRat]
 rw [divInt_mk,hq2] at su;obtain ⟨D,hD⟩:∃ D,D=Nm.val 18446744073709551616 d:=⟨_,rfl⟩;rw [<- hD] at dn su;obtain ⟨M,hM⟩:∃ D,D= -zi n l:=⟨_,rfl⟩;rw [<- hM] at ng su;refine spec_at Tryz.func159 ok_ref03_Neg [] rfl (by simp) ?_;unfold sc_ref03_Neg;refine Wr ?_; simp;refine WS_seq (WS_regD [] ?_); simp;refine callD ng rfl ?_; simp;refine callD dn rfl ?_; simp;refine callD su rfl ?_; simp;refine ⟨rfl,?_⟩;refine WS_ret ?_; simp
theorem rsign3 {k:Nat} {v:V} {q:Rat} (hv:IsQ k v q) (hk:k<=2^33):Spec Tryz.prog f_ref03_Sign [v] (· =[.pure (.i .i64 q.num.sign)]):=by
 have nm:=rnorm3 hv hk;have ql:=hv.ql;have sg:=rsign (isZ_of ql.num) (by omega);obtain ⟨n,l,d,rfl,h1,h2,hq⟩:=hv;clear hq;refine spec_at Tryz.func158 ok_ref03_Sign [] rfl (by simp) ?_;unfold sc_ref03_Sign;refine Wr ?_; simp;refine Wr ?_; simp;refine callK nm ?_; simp;refine callK sg ?_; simp;refine WS_ret ?_; simp
set_option maxHeartbeats 400000 in
theorem radd3 {k:Nat} {v w:V} {q r:Rat} (hv:IsQ k v q) (hw:IsQ k w r) (hk:k<=2^20):Spec Tryz.prog f_ref03_Add [v,w] (· =[.pure (Q (q+r))]):=by
 have n1:=rnorm3 hv (by omega);have n2:=rnorm3 hw (by omega);have q1:=hv.ql;have q2:=hw.ql;have d1:=rden3_Q q1 (by omega);have d2:=rden3_Q q2 (by omega);have m1:=rmul (isZ_of q1.num) (isZ_of q2.den) (by omega);have m2:=rmul (isZ_of q2.num) (isZ_of q1.den) (by omega);have m3:=rmul (isZ_of q1.den) (isZ_of q2.den) (by omega);have z1:=zlen_mul q.num r.den;have z2:=zlen_mul r.num q.den;have z3:=zlen_mul q.den r.den;have b1:=q1.num;have b2:=q1.den;have b3:=q2.num;have b4:=q2.den;have ad:=radd (isZ_of (x:=q.num*r.den) (k:=2*k+2) (by omega)) (isZ_of (x:=r.num*q.den) (k:=2*k+2) (by omega)) (by omega);have z4:=zlen_add (q.num*r.den) (r.num*q.den);have su:=rsure (isZ_of (x:=q.num*r.den+r.num*q.den) (k:=2*k+3) (by omega)) (isZ_of (x:=(q.den:Int)*r.den) (k:=2*k+3) (by omega)) (by omega);have hq:Rat.divInt (q.num*r.den+r.num*q.den) ((q.den:Int)*r.den)=q+r:=by rw [<- Int.natCast_mul,divInt_mk]; exact qadd_mk q r
 rw [hq] at su;clear hq;obtain ⟨x1,hx1⟩:∃ x:Int,x=q.num*r.den:=⟨_,rfl⟩;obtain ⟨x2,hx2⟩:∃ x:Int,x=r.num*q.den:=⟨_,rfl⟩;obtain ⟨x3,hx3⟩:∃ x:Int,x=q.den*r.den:=⟨_,rfl⟩;rw [<- hx1] at m1 ad su;rw [<- hx2] at m2 ad su;rw [<- hx3] at m3 su;obtain ⟨x4,hx4⟩:∃ x:Int,x=x1+x2:=⟨_,rfl⟩;rw [<- hx4] at ad su;obtain ⟨s,hs⟩:∃ s,s=q+r:=⟨_,rfl⟩;rw [<- hs] at su ⊢;obtain ⟨g1,e1,c1,rfl,_,_,_⟩:=hv;obtain ⟨g2,e2,c2,rfl,_,_,_⟩:=hw;refine spec_at Tryz.func103 ok_ref03_Add [] rfl (by simp) ?_;unfold sc_ref03_Add;refine Wr ?_; simp;refine Wr ?_; simp;refine callK n1 ?_; simp;refine Wr ?_; simp;refine callK n2 ?_; simp;refine WS_seq (WS_regD [] ?_); simp;refine callD d2 rfl ?_; simp;refine callD m1 rfl ?_; simp;refine callD d1 rfl ?_; simp;refine callD m2 rfl ?_; simp;refine callD ad rfl ?_; simp;refine callD d1 rfl ?_; simp;refine callD d2 rfl ?_; simp;refine callD m3 rfl ?_; simp;refine callD su rfl ?_; simp;refine ⟨rfl,?_⟩;refine WS_ret ?_; simp
theorem rsub3 {k:Nat} {v w:V} {q r:Rat} (hv:IsQ k v q) (hw:IsQ k w r) (hk:k<=2^19):Spec Tryz.prog f_ref03_Sub [v,w] (· =[.pure (Q (q-r))]):=by
 have ng:=rneg3 hw (by omega);have ad:=radd3 (hv.mono (show k<=k+1 by omega)) (isQ_Q (ql_neg hw.ql)) (by omega);rw [<- Rat.sub_eq_add_neg] at ad;obtain ⟨s,hs⟩:∃ s,s=q-r:=⟨_,rfl⟩;rw [<- hs] at ad ⊢;obtain ⟨t,ht⟩:∃ s,s= -r:=⟨_,rfl⟩;rw [<- ht] at ng ad;obtain ⟨g1,e1,c1,rfl,_,_,_⟩:=hv;obtain ⟨g2,e2,c2,rfl,_,_,_⟩:=hw;refine spec_at Tryz.func107 ok_ref03_Sub [] rfl (by simp) ?_;unfold sc_ref03_Sub;refine Wr ?_; simp;refine WS_seq (WS_regD [] ?_); simp;refine callD ng rfl ?_; simp;refine callD ad rfl ?_; simp;refine ⟨rfl,?_⟩;refine WS_ret ?_; simp
theorem rmul3 {k:Nat} {v w:V} {q r:Rat} (hv:IsQ k v q) (hw:IsQ k w r) (hk:k<=2^20):Spec Tryz.prog f_ref03_Mul [v,w] (· =[.pure (Q (q*r))]):=by
 have n1:=rnorm3 hv (by omega);have n2:=rnorm3 hw (by omega);have q1:=hv.ql;have q2:=hw.ql;have d1:=rden3_Q q1 (by omega);have d2:=rden3_Q q2 (by omega);have m1:=rmul (isZ_of q1.num) (isZ_of q2.num) (by omega);have m3:=rmul (isZ_of q1.den) (isZ_of q2.den) (by omega);have z1:=zlen_mul q.num r.num;have z3:=zlen_mul q.den r.den;have b1:=q1.num;have b2:=q1.den;have b3:=q2.num;have b4:=q2.den;have su:=rsure (isZ_of (x:=q.num*r.num) (k:=2*k+3) (by omega)) (isZ_of (x:=(q.den:Int)*r.den) (k:=2*k+3) (by omega)) (by omega);have hq:Rat.divInt (q.num*r.num) ((q.den:Int)*r.den)=q*r:=by rw [<- Int.natCast_mul,divInt_mk]; exact qmul_mk q r
 rw [hq] at su;clear hq;obtain ⟨x1,hx1⟩:∃ x:Int,x=q.num*r.num:=⟨_,rfl⟩;obtain ⟨x3,hx3⟩:∃ x:Int,x=q.den*r.den:=⟨_,rfl⟩;rw [<- hx1] at m1 su;rw [<- hx3] at m3 su;obtain ⟨s,hs⟩:∃ s,s=q*r:=⟨_,rfl⟩;rw [<- hs] at su ⊢;obtain ⟨g1,e1,c1,rfl,_,_,_⟩:=hv;obtain ⟨g2,e2,c2,rfl,_,_,_⟩:=hw;refine spec_at Tryz.func106 ok_ref03_Mul [] rfl (by simp) ?_;unfold sc_ref03_Mul;refine Wr ?_; simp;refine Wr ?_; simp;refine callK n1 ?_; simp;refine Wr ?_; simp;refine callK n2 ?_; simp;refine WS_seq (WS_regD [] ?_); simp;refine callD m1 rfl ?_; simp;refine callD d1 rfl ?_; simp;refine callD d2 rfl ?_; simp;refine callD m3 rfl ?_; simp;refine callD su rfl ?_; simp;refine ⟨rfl,?_⟩;refine WS_ret ?_; simp
theorem rdiv3 {k:Nat} {v w:V} {q r:Rat} (hv:IsQ k v q) (hw:IsQ k w r) (hk:k<=2^20):Spec Tryz.prog f_ref03_Div [v,w] (· =divR q r):=by
 have n1:=rnorm3 hv (by omega);have n2:=rnorm3 hw (by omega);have q1:=hv.ql;have q2:=hw.ql;have d1:=rden3_Q q1 (by omega);have d2:=rden3_Q q2 (by omega);have m1:=rmul (isZ_of q1.num) (isZ_of q2.den) (by omega);have m3:=rmul (isZ_of q1.den) (isZ_of q2.num) (by omega);have z1:=zlen_mul q.num r.den;have z3:=zlen_mul q.den r.num;have b1:=q1.num;have b2:=q1.den;have b3:=q2.num;have b4:=q2.den;have mk:=rmake (isZ_of (x:=q.num*r.den) (k:=2*k+3) (by omega)) (isZ_of (x:=(q.den:Int)*r.num) (k:=2*k+3) (by omega)) (by omega);have hR:makeR (q.num*r.den) (q.den*r.num)=divR q r:=by
  rw [makeR,divR,qdiv_mk2];by_cases h:r=0
  . rw [if_pos h,if_pos (by rw [h]; simp)]
  . rw [if_neg h,if_neg];rw [Int.mul_eq_zero];rintro (h1 | h1)
    . have:=q.den_pos; omega
    . exact h (Rat.num_eq_zero.1 h1)
 rw [hR] at mk;clear hR;obtain ⟨x1,hx1⟩:∃ x:Int,x=q.num*r.den:=⟨_,rfl⟩;obtain ⟨x3,hx3⟩:∃ x:Int,x=q.den*r.num:=⟨_,rfl⟩;rw [<- hx1] at m1 mk;rw [<- hx3] at m3 mk;obtain ⟨g1,e1,c1,rfl,_,_,_⟩:=hv;obtain ⟨g2,e2,c2,rfl,_,_,_⟩:=hw;refine spec_at Tryz.func153 ok_ref03_Div [] rfl (by simp) ?_;unfold sc_ref03_Div;by_cases h:r=0
 . rw [divR,if_pos h] at mk ⊢;refine Wr ?_; simp;refine Wr ?_; simp;refine callK n1 ?_; simp;refine Wr ?_; simp;refine callK n2 ?_; simp;refine WS_seq (WS_regD [] ?_); simp;refine callD d2 rfl ?_; simp;refine callD m1 rfl ?_; simp;refine callD d1 rfl ?_; simp;refine callD m3 rfl ?_; simp;refine callD mk rfl ?_; simp;refine ⟨rfl,?_⟩;refine WS_ret ?_; simp
 . rw [divR,if_neg h] at mk ⊢;obtain ⟨s,hs⟩:∃ s,s=q / r:=⟨_,rfl⟩;rw [<- hs] at mk ⊢;refine Wr ?_; simp;refine Wr ?_; simp;refine callK n1 ?_; simp;refine Wr ?_; simp;refine callK n2 ?_; simp;refine WS_seq (WS_regD [] ?_); simp;refine callD d2 rfl ?_; simp;refine callD m1 rfl ?_; simp;refine callD d1 rfl ?_; simp;refine callD m3 rfl ?_; simp;refine callD mk rfl ?_; simp;refine ⟨rfl,?_⟩;refine WS_ret ?_; simp
theorem rcmp3 {k:Nat} {v w:V} {q r:Rat} (hv:IsQ k v q) (hw:IsQ k w r) (hk:k<=2^19):Spec Tryz.prog f_ref03_Cmp [v,w] (· =[.pure (.i .i64 (q-r).num.sign)]):=by
 have sb:=rsub3 hv hw hk;have sg:=rsign3 (isQ_Q (ql_sub hv.ql hw.ql)) (by omega);obtain ⟨s,hs⟩:∃ s,s=q-r:=⟨_,rfl⟩;rw [<- hs] at sb sg ⊢;obtain ⟨g1,e1,c1,rfl,_,_,_⟩:=hv;obtain ⟨g2,e2,c2,rfl,_,_,_⟩:=hw;refine spec_at Tryz.func104 ok_ref03_Cmp [] rfl (by simp) ?_;unfold sc_ref03_Cmp;refine Wr ?_; simp;refine Wr ?_; simp;refine callK sb ?_; simp;refine callK sg ?_; simp;refine WS_ret ?_; simp
end Go.Vw
