/- The layer of limbs: sums, differences, products, shifts, order. -/
import Derived.Test.YtfdjbmamidmgfaaGreatNA
import Derived.Test.YtfdjbmamidmgfaaGreatN2
import Derived.Test.YtfdjbmamidmgfaaGreatS1
import Derived.Lib.BitFns
set_option linter.unusedVariables false
set_option linter.unusedSimpArgs false
namespace Go.Vw
open Go.Proofs
def uL (l:List Nat):List V:=l.map λx:Nat=>V.i .u64 (x:Int)
def U (l:List Nat):V:=.sl none (uL l)
theorem uL_length (l:List Nat):(uL l).length=l.length:=by simp [uL]
theorem uL_get? (l:List Nat) (k:Nat):(uL l)[k]? =(l[k]?).map λx:Nat=>V.i .u64 (x:Int):=by simp [uL]
theorem uL_get (l:List Nat) (k:Nat) (h:k<(uL l).length):(uL l)[k]=V.i .u64 ((l[k]'(by simpa [uL] using h):Nat):Int):=by simp [uL]
theorem uL_take (l:List Nat) (k:Nat):(uL l).take k=uL (l.take k):=by simp [uL]
theorem uL_drop (l:List Nat) (k:Nat):(uL l).drop k=uL (l.drop k):=by simp [uL]
theorem uL_append (l m:List Nat):uL l++uL m=uL (l++m):=by simp [uL]
theorem uL_set (l:List Nat) (k x:Nat):(uL l).set k (V.i .u64 (x:Int))=uL (l.set k x):=by simp [uL]
theorem uL_replicate (k:Nat):List.replicate k (V.i .u64 0)=uL (List.replicate k 0):=by simp [uL]
theorem uL_snoc (l:List Nat) (x:Nat):uL l++[V.i .u64 (x:Int)]=uL (l++[x]):=by simp [uL]
theorem take_all' {l:List Nat} {n:Nat} (h:l.length=n):l.take n=l:=List.take_of_length_le (by rw [h]; exact Nat.le_refl _)
theorem uL_nil:uL []=[]:=rfl
attribute [simp] RunL_cons RunL_nil AOp_none AOp_some acK_v acK_call agK_tt agK_ff agK_tf agK_ft agK_tup agK_i aop aun St.ev St.heap St.put thenQ blockQ scopeQ upd_apply S0 argSlot lowV V.cells V.isAgg V.fits V.part partOk plains St.ret retSV svOf svsOf retQ retP retAll retOne St.elems retH ownIdx ownAt
attribute [simp] RunD_none RunD_some RunD_nil RunE_any acD_v acD_call agD_tt agD_ff agD_tf agD_ft agD_tup entsOf svref SO.opds SO.writes SO.makes callEnt pureSV pureOf RV.isOwn
attribute [simp] abin_add abin_sub abin_mul abin_quo abin_rem abin_eql abin_neq abin_lss abin_leq abin_gtr abin_geq
attribute [simp] acK_callG acD_callG St.giv gsSV gvSV retEnts ownEnts SO.still
attribute [simp] S0G argSlotG givSV retQG retPG retAllG retOneG HObj.width HObj.wide V.scalar trimQ V.byte
attribute [simp] uL_length uL_get? uL_get uL_snoc uL_set uL_take uL_drop uL_append uL_replicate uL_nil
theorem at_spec (a:List Nat) (k:Int) (h0:0<=k):Spec Tryz.prog f_nat_at [U a,.i .i64 k] (· =[.pure (.i .u64 ((a.getD k.toNat 0:Nat):Int))]):=by
 refine spec_at Tryz.func178 ok_nat_at [] rfl (by simp) ?_;unfold sc_nat_at U;refine Wr ?_; simp;refine Ws ?_; simp;refine WS_cond (by simp; rfl) (λh=>?_) (λh=>?_)
 . have hk:k<a.length:=by simpa using h
   refine Wr ?_;have hk':k.toNat<a.length:=by omega
   simp [h0,hk,hk'];refine WS_ret ?_; simp
 . have hk:¬ k<a.length:=by simpa using h
   refine WS_skip ?_; simp;refine Wr ?_; simp;refine WS_ret ?_;have hk':a.length<=k.toNat:=by omega
   simp [hk']
theorem trim_take_zero {l:List Nat} (hp:0<l.length) (h:l.getD (l.length-1) 0=0):Nm.trim (l.take (l.length-1))=Nm.trim l:=by
 have hg:l[l.length-1]'(by omega)=0:=by simpa [List.getD,show l.length-1<l.length by omega] using h
 have e:l.take (l.length-1)++[0]=l:=by
  have:=List.take_append_getElem (l:=l) (i:=l.length-1) (by omega);rw [hg] at this;rw [this];exact List.take_of_length_le (by omega)
 rw [<- Nm.trim_snoc_zero,e]
theorem trim_last {l:List Nat} (hp:0<l.length) (h:l.getD (l.length-1) 0≠0):Nm.trim l=l:=by
 have hg:l[l.length-1]'(by omega)≠0:=by simpa [List.getD,show l.length-1<l.length by omega] using h
 have e:l.take (l.length-1)++[l[l.length-1]'(by omega)]=l:=by
  have:=List.take_append_getElem (l:=l) (i:=l.length-1) (by omega);rw [this];exact List.take_of_length_le (by omega)
 rw [<- e,Nm.trim_snoc _ hg]
theorem plain_spec (a:List Nat) (hl:a.length<=2^62):Spec Tryz.prog f_nat_plain [U a] (· =[.pure (U (Nm.trim a))]):=by
 refine spec_at Tryz.func136 ok_nat_plain [] rfl (by simp) ?_;unfold sc_nat_plain U;refine Wr ?_; simp;refine WS_seq (WS_block (WS_loop (λS=>∃ l,S.σ 0= .p (.sl none (uL l))/\Nm.trim l=Nm.trim a/\l.length<=2^62) (λS=>match S.σ 0 with | .p (.sl _ xs)=>xs.length | _=>0) ⟨a,rfl,rfl,hl⟩ ?_));rintro S ⟨l,h0,ht,hl⟩;refine Ws ?_;by_cases hp:0<l.length
 . have hw:=i64_pred l.length (by omega) hp;have hlt:l.length-1<l.length:=by omega
   simp [h0,hp,hw,hlt];refine WS_cond (by simp; rfl) (λh=>?_) (λh=>?_)
   . have hz:l[l.length-1]=0:=by simpa using h
     refine WS_skip ?_; simp;refine WS_block (WS_reg [] ?_); simp [h0,hw];refine ⟨⟨l.take (l.length-1),rfl,by rw [trim_take_zero hp (by simp [List.getD,hlt,hz]),ht],by simp; omega⟩,hlt⟩
   . have hz:l[l.length-1]≠0:=by simpa using h
     refine WS_exit ?_; simp;refine Wr ?_; simp [h0];refine WS_ret ?_; simp;rw [<- ht,trim_last hp (by simp [List.getD,hlt,hz])]
 . have hl0:l=[]:=List.eq_nil_of_length_eq_zero (by omega);subst hl0;simp [h0];refine WS_cond (by simp; rfl) (λh=>by simp at h) (λh=>?_);refine WS_exit ?_; simp;refine Wr ?_; simp [h0];refine WS_ret ?_; simp;rw [<- ht]; rfl
theorem moved_spec (a:List Nat) (n:Nat) (hl:a.length<=2^40) (hn:n<=2^40):Spec Tryz.prog f_nat_moved [U a,.i .i64 (n:Int)] (· =[.pure (U (List.replicate n 0++a))]):=by
 refine spec_at Tryz.func137 ok_nat_moved [] rfl (by simp) ?_;unfold sc_nat_moved U;refine Wr ?_; simp;refine WS_seq (WS_reg [8] ?_); simp;refine ⟨by omega,by omega,?_⟩;refine WS_ret ?_; simp
theorem set_fill (l:List Nat) (m v:Nat) {k:Nat} (hl:l.length=k) (hm:0<m):(l++List.replicate m 0).set k v=l++[v]++List.replicate (m-1) 0:=by
 subst hl;obtain ⟨j,rfl⟩:∃ j,m=j+1:=⟨m-1,by omega⟩;simp [List.set_append_right,List.replicate_succ]
theorem carried_spec (n:Nat) (hn:n<=2^40) (f:FuncId) (caps:List V) (F:Nat->Nat->Nat × Nat) (I:Nat->Prop) (h0:I 0)
 (hF:∀ k c,k<n->I c->Spec Tryz.prog f ([.i .i64 (k:Int),.i .u64 (c:Int)]++caps) (· =[.pure (.i .u64 ((F k c).1:Nat)),.pure (.i .u64 ((F k c).2:Nat))])/\I (F k c).2):
 Spec Tryz.prog f_nat_carried [.i .i64 (n:Int),.clo f caps] (· =[.own 118 none (uL (Nm.crun F n).1),.pure (.i .u64 ((Nm.crun F n).2:Nat))]):=by
 refine spec_at Tryz.func134 ok_nat_carried [true] rfl (by simp) ?_;unfold sc_nat_carried;refine Wr ?_; simp;refine Wr ?_; simp;refine ⟨by omega,?_⟩;refine Wr ?_; simp;refine Ws ?_; simp;refine WS_block (WS_loop (λS=>∃ k,k<=n/\I (Nm.crun F k).2/\S.σ 1= .p (.clo f caps)/\S.σ 6= .own 10 1 0 n/\S.σ 7= .p (.i .u64 ((Nm.crun F k).2:Nat))/\S.σ 12= .p (.i .i64 (n:Int))/\S.σ 13= .p (.i .i64 (k:Int))/\
  S.h 10=⟨1,some (.arr 118 none (uL ((Nm.crun F k).1++List.replicate (n-k) 0)))⟩) (λS=>match S.σ 13 with | .p (.i _ k)=>n-k.toNat | _=>0) ?_ ?_)
 . exact ⟨0,by omega,h0,by simp [Nm.crun]⟩
 rintro S ⟨k,hk,hI,h1,h6,h7,h12,h13,h10⟩;refine Wr ?_; simp [h12,h13];by_cases hlt:k<n
 . refine WS_seq (WS_cond (by simp [hlt]; rfl) (λh=>?_) (λh=>by simp at h));refine WS_skip ?_; simp;refine WS_seq (WS_block (Wr ?_)); simp [h13];refine WS_reg [] ?_; simp [h1,h6,h7,h13];obtain ⟨hs,hI'⟩:=hF k _ hlt hI;refine callK (hs) ?_; simp [h6,h7,h10,hlt,Nm.crun_length];have hw:=i64_succ k (by omega);refine ⟨by omega,?_⟩;refine WS_reg [] ?_; simp [h1,h6,h7,h12,h13,hw];refine ⟨⟨k+1,by omega,hI',rfl,rfl,?_⟩,by omega⟩;congr 1;have hsf:=set_fill (Nm.crun F k).1 (n-k) (F k (Nm.crun F k).2).1 (Nm.crun_length F k) (by omega);rw [List.set_append_right _ _ (by rw [Nm.crun_length]; exact Nat.le_refl _)] at hsf;simp only [Nm.crun_length,Nat.sub_self] at hsf;rw [hsf];simp [Nm.crun,Nat.sub_sub]
 . have hk':k=n:=by omega
   subst hk';refine WS_seq (WS_cF (by simp) ?_);refine WS_exit ?_; simp;refine Wr ?_; simp [h6,h7];refine WS_ret ?_; simp [h10,Nm.crun_length,take_all' (Nm.crun_length F k)]
theorem add1_spec (a b:List Nat) (k c:Nat) (hc:c<=1):Spec Tryz.prog f_nat_Add_1 ([.i .i64 (k:Int),.i .u64 (c:Int)]++[.ref none (U a),.ref none (U b)]) (· =[.pure (.i .u64 ((Nm.addF 18446744073709551616 a b k c).1:Nat)),.pure (.i .u64 ((Nm.addF 18446744073709551616 a b k c).2:Nat))]):=by
 refine spec_at Tryz.func176 ok_nat_Add_1 [] rfl (by simp) ?_;unfold sc_nat_Add_1;refine Wr ?_; simp;refine WS_seq (WS_regD [] ?_); simp;refine callD (at_spec a k (by omega)) rfl ?_; simp;refine callD (at_spec b k (by omega)) rfl ?_; simp;refine callD (add64_spec _ _ _ hc) rfl ?_; simp;refine ⟨rfl,?_⟩;refine WS_ret ?_; simp [Nm.addF]
theorem sub1_spec (a b:List Nat) (k c:Nat) (hc:c<=1):Spec Tryz.prog f_nat_Sub_1 ([.i .i64 (k:Int),.i .u64 (c:Int)]++[.ref none (U a),.ref none (U b)]) (· =[.pure (.i .u64 ((Nm.subF 18446744073709551616 a b k c).1:Nat)),.pure (.i .u64 ((Nm.subF 18446744073709551616 a b k c).2:Nat))]):=by
 refine spec_at Tryz.func181 ok_nat_Sub_1 [] rfl (by simp) ?_;unfold sc_nat_Sub_1;refine Wr ?_; simp;refine WS_seq (WS_regD [] ?_); simp;refine callD (at_spec a k (by omega)) rfl ?_; simp;refine callD (at_spec b k (by omega)) rfl ?_; simp;refine callD (sub64_spec _ _ _ hc) rfl ?_; simp;refine ⟨rfl,?_⟩;refine WS_ret ?_; simp [Nm.subF]
theorem max_len (m n:Nat):(if m<n then (n:Int) else (m:Int))=((max m n:Nat):Int):=by split<;>omega
theorem trim_pad_snoc {B:Nat} (hB:2<=B) {k N:Nat} (h:N / B^k<B):Nm.trim (Nm.pad B k N++[N / B^k])=Nm.dig B N:=by
 rw [Nm.pad_cat N k h,Nm.trim_pad hB];rw [Nat.pow_succ,Nat.mul_comm];exact (Nat.div_lt_iff_lt_mul (Nat.pow_pos (by omega))).1 h
theorem add_spec (a b:List Nat) (ha:Nm.Dl 18446744073709551616 a) (hb:Nm.Dl 18446744073709551616 b) (la:a.length<=2^40) (lb:b.length<=2^40):
 Spec Tryz.prog f_nat_Add [U a,U b] (· =[.pure (U (Nm.dig 18446744073709551616 (Nm.val 18446744073709551616 a+Nm.val 18446744073709551616 b)))]):=by
 refine spec_at Tryz.func129 ok_nat_Add [] rfl (by simp) ?_;unfold sc_nat_Add;refine Wr ?_; simp [U];refine WS_frz 2 2 none ?_;simp [frzQ];refine WS_frz 3 3 none ?_;simp [frzQ];refine Wr ?_; simp [max_len];obtain ⟨hr,hc⟩:=Nm.crun_add (by omega) ha hb (n:=max a.length b.length) (by omega) (by omega);have hp:=trim_pad_snoc (B:=18446744073709551616) (by omega) (k:=max a.length b.length) (N:=Nm.val 18446744073709551616 a+Nm.val 18446744073709551616 b) (by omega);have hl:=Nm.pad_length 18446744073709551616 (max a.length b.length) (Nm.val 18446744073709551616 a+Nm.val 18446744073709551616 b);generalize Nm.pad 18446744073709551616 (max a.length b.length) (Nm.val 18446744073709551616 a+Nm.val 18446744073709551616 b)=L at*
 generalize (Nm.val 18446744073709551616 a+Nm.val 18446744073709551616 b) / 18446744073709551616^max a.length b.length=c at*
 refine callK (carried_spec (max a.length b.length) (by omega) f_nat_Add_1 [.ref none (U a),.ref none (U b)] (Nm.addF 18446744073709551616 a b) (·<=1) (by omega) (λk c hk hc=>⟨add1_spec a b k c hc,Nm.add_carry _ a b k c (by omega) ha hb hc⟩)) ?_; simp [hr];refine WS_seq (WS_reg [20] ?_); simp [hl,take_all' hl];refine ⟨by omega,?_⟩;refine callK (plain_spec (L++[c]) (by simp [hl]; omega)) ?_; simp;refine WS_ret ?_; simp [U,hp]
theorem sub_spec (a b:List Nat) (ha:Nm.Dl 18446744073709551616 a) (hb:Nm.Dl 18446744073709551616 b) (la:a.length<=2^40) (lb:b.length<=2^40):
 Spec Tryz.prog f_nat_Sub [U a,U b] (· =if Nm.val 18446744073709551616 b<=Nm.val 18446744073709551616 a then [.pure (U (Nm.dig 18446744073709551616 (Nm.val 18446744073709551616 a-Nm.val 18446744073709551616 b))),.pure (.i .i64 0)] else [.pure (U []),.pure (.i .i64 1)]):=by
 refine spec_at Tryz.func131 ok_nat_Sub [] rfl (by simp) ?_;unfold sc_nat_Sub;refine Wr ?_; simp [U];refine WS_frz 2 2 none ?_;simp [frzQ];refine WS_frz 3 3 none ?_;simp [frzQ];refine Wr ?_; simp [max_len];obtain ⟨hr1,hr2⟩:=Nm.crun_sub (by omega) ha hb (n:=max a.length b.length) (by omega) (by omega);refine callK ((carried_spec (max a.length b.length) (by omega) f_nat_Sub_1 [.ref none (U a),.ref none (U b)] (Nm.subF 18446744073709551616 a b) (·<=1) (by omega) (λk c hk hc=>⟨sub1_spec a b k c hc,Nm.sub_carry _ a b k c⟩)).plain (R':=(· =[.pure (U (Nm.crun (Nm.subF 18446744073709551616 a b) (max a.length b.length)).1),.pure (.i .u64 ((Nm.crun (Nm.subF 18446744073709551616 a b) (max a.length b.length)).2:Nat))])) (by rintro _ rfl; rfl)) ?_;have hv:=Nm.val_lt ha;by_cases h:Nm.val 18446744073709551616 b<=Nm.val 18446744073709551616 a
 . have hp:=Nm.trim_pad (B:=18446744073709551616) (by omega) (k:=max a.length b.length) (n:=Nm.val 18446744073709551616 a-Nm.val 18446744073709551616 b) (Nat.lt_of_le_of_lt (Nat.sub_le _ _) (Nat.lt_of_lt_of_le hv (Nat.pow_le_pow_right (by omega) (by omega))));have hl:=Nm.pad_length 18446744073709551616 (max a.length b.length) (Nm.val 18446744073709551616 a-Nm.val 18446744073709551616 b);have hr:=hr1 h;generalize Nm.pad 18446744073709551616 (max a.length b.length) (Nm.val 18446744073709551616 a-Nm.val 18446744073709551616 b)=L at*
   simp [hr,h,U];refine Ws ?_; simp;refine WS_cond (by simp; rfl) (λh=>by simp at h) (λ_=>?_);refine WS_skip ?_; simp;refine Wr ?_; simp;refine callK (plain_spec L (by omega)) ?_; simp;refine WS_ret ?_; simp [U,hp]
 . have hr:=hr2 (by omega);simp [hr,h,U];refine Ws ?_; simp;refine WS_cond (by simp; rfl) (λ_=>?_) (λh=>by simp at h);refine Wr ?_; simp;refine WS_ret ?_; simp
theorem getD_take_pred {a:List Nat} {n:Nat} (hp:0<n) (hn:n<=a.length):(a.take n).getD ((a.take n).length-1) 0=a[n-1]'(by omega):=by
 have:(a.take n).length=n:=by simp [hn]
 rw [this];simp [List.getD,List.getElem?_take,show n-1<n by omega,show n-1<a.length by omega]
theorem rcut_spec (a:List Nat) (hl:a.length<=2^62):Spec Tryz.prog f_ref01_cut [U a] (· =[.pure (U (Nm.trim a))]):=by
 refine spec_at Tryz.func212 ok_ref01_cut [] rfl (by simp) ?_;unfold sc_ref01_cut U;refine Wr ?_; simp;refine Wr ?_; simp;refine WS_seq (WS_block (WS_loop (λS=>∃ n:Nat,n<=a.length/\S.σ 0= .p (.sl none (uL a))/\S.σ 3= .p (.i .i64 (n:Int))/\Nm.trim (a.take n)=Nm.trim a) (λS=>match S.σ 3 with | .p (.i _ n)=>n.toNat | _=>0) ⟨a.length,by omega,by simp,by simp,by simp⟩ ?_));rintro S ⟨n,hn,h0,h3,ht⟩;refine Ws ?_;by_cases hp:0<n
 . have hw:=i64_pred n (by omega) hp;have hlt:n-1<a.length:=by omega
   simp [h0,h3,hp,hw,hlt];refine WS_cond (by simp; rfl) (λh=>?_) (λh=>?_)
   . have hz:a[n-1]=0:=by simpa using h
     refine WS_skip ?_; simp;refine WS_block (WS_reg [] ?_); simp [h0,h3,hw];refine ⟨⟨n-1,by omega,rfl,?_⟩,by omega⟩;have:=trim_take_zero (l:=a.take n) (by simp; omega) (by rw [getD_take_pred hp hn]; exact hz);rw [<- ht,<-this];congr 1;simp [Nat.min_eq_left hn,List.take_take]
   . have hz:a[n-1]≠0:=by simpa using h
     refine WS_exit ?_; simp;refine Wr ?_; simp [h0,h3,hn];refine WS_ret ?_; simp;rw [<- ht,trim_last (by simp; omega) (by rw [getD_take_pred hp hn]; exact hz)]
 . have hl0:n=0:=by omega
   subst hl0;simp [h0,h3];refine WS_cond (by simp; rfl) (λh=>by simp at h) (λh=>?_);refine WS_exit ?_; simp;refine Wr ?_; simp [h0,h3];refine WS_ret ?_; simp;rw [<- ht]; rfl
theorem rnorm_spec (a:List Nat) (hl:a.length<=2^40):Spec Tryz.prog f_ref01_Norm [U a] (· =[.pure (U (Nm.trim a))]):=by
 refine spec_at Tryz.func116 ok_ref01_Norm [] rfl (by simp) ?_;unfold sc_ref01_Norm U;refine Wr ?_; simp;refine Wr ?_; simp;refine WS_seq (WS_block (WS_loop (λS=>∃ n:Nat,n<=a.length/\S.σ 0= .p (.sl none (uL a))/\S.σ 3= .p (.i .i64 (n:Int))/\Nm.trim (a.take n)=Nm.trim a) (λS=>match S.σ 3 with | .p (.i _ n)=>n.toNat | _=>0) ⟨a.length,by omega,by simp,by simp,by simp⟩ ?_));rintro S ⟨n,hn,h0,h3,ht⟩;refine Ws ?_;by_cases hp:0<n
 . have hw:=i64_pred n (by omega) hp;have hlt:n-1<a.length:=by omega
   simp [h0,h3,hp,hw,hlt];refine WS_cond (by simp; rfl) (λh=>?_) (λh=>?_)
   . have hz:a[n-1]=0:=by simpa using h
     refine WS_skip ?_; simp;refine WS_block (WS_reg [] ?_); simp [h0,h3,hw];refine ⟨⟨n-1,by omega,rfl,?_⟩,by omega⟩;have:=trim_take_zero (l:=a.take n) (by simp; omega) (by rw [getD_take_pred hp hn]; exact hz);rw [<- ht,<-this];congr 1;simp [Nat.min_eq_left hn,List.take_take]
   . have hz:a[n-1]≠0:=by simpa using h
     refine WS_exit ?_; simp;refine WS_seq (WS_reg [18,22] ?_); simp [h0,h3,hn];refine ⟨by omega,?_⟩;refine WS_ret ?_; simp;rw [<- ht,trim_last (by simp; omega) (by rw [getD_take_pred hp hn]; exact hz)]
 . have hl0:n=0:=by omega
   subst hl0;simp [h0,h3];refine WS_cond (by simp; rfl) (λh=>by simp at h) (λh=>?_);refine WS_exit ?_; simp;refine WS_seq (WS_reg [18,22] ?_); simp [h0,h3];refine WS_ret ?_; simp;rw [<- ht]; rfl
theorem rat_spec (a:List Nat) (k:Int) (h0:0<=k):Spec Tryz.prog f_ref01_at [U a,.i .i64 k] (· =[.pure (.i .u64 ((a.getD k.toNat 0:Nat):Int))]):=by
 refine spec_at Tryz.func190 ok_ref01_at [] rfl (by simp) ?_;unfold sc_ref01_at U;refine Wr ?_; simp;refine Ws ?_; simp;refine WS_cond (by simp; rfl) (λh=>?_) (λh=>?_)
 . have hk:k<a.length:=by simpa using h
   refine Wr ?_;have hk':k.toNat<a.length:=by omega
   simp [h0,hk,hk'];refine WS_ret ?_; simp
 . have hk:¬ k<a.length:=by simpa using h
   refine WS_skip ?_; simp;refine Wr ?_; simp;refine WS_ret ?_;have hk':a.length<=k.toNat:=by omega
   simp [hk']
theorem rdigits_spec (a:List Nat) (hd:Nm.Dl 18446744073709551616 a) (hl:a.length<=2^40):Spec Tryz.prog f_ref01_digits [U a] (· =[.pure (U (Nm.dig 4294967296 (Nm.val 18446744073709551616 a)))]):=by
 refine spec_at Tryz.func189 ok_ref01_digits [] rfl (by simp) ?_;unfold sc_ref01_digits U;refine Wr ?_; simp;refine WS_seq (WS_reg [3] ?_); simp;refine Ws ?_; simp;refine WS_block (WS_loop (λS=>∃ i g:Nat,i<=a.length/\S.σ 0= .p (.sl none (uL a))/\S.σ 4= .p (.i .i64 (i:Int))/\S.σ 3= .own 3 g 0 (2*i)/\
  S.h 3=⟨g,some (.arr 118 none (uL (Nm.digL 4294967296 (a.take i))))⟩) (λS=>match S.σ 4 with | .p (.i _ n)=>a.length-n.toNat | _=>0) ⟨0,1,by omega,by simp,by simp,by simp,by simp [Nm.digL]⟩ ?_)
 rintro S ⟨i,g,hi,h0,h4,h3,hh⟩;refine Ws ?_; simp [h0,h4];by_cases hlt:i<a.length
 . refine WS_cond (t:=true) (by simp [hlt]) (λ_=>?_) (λh=>by simp at h);refine WS_skip ?_; simp;refine WS_seq (WS_block (WS_regD [] ?_));have hx:a[i]<18446744073709551616:=hd _ (List.getElem_mem hlt);have e1:=abin_mask32 a[i] hx;have e2:=abin_shr (k:=.u64) a[i] 32 32 rfl (by omega);simp [h0,h4,h3,hh,hlt,e1,e2];refine ⟨⟨by simp [Nm.digL_length]; omega,by omega,by omega⟩,rfl,?_⟩;have hw:=i64_succ i (by omega);refine WS_reg [] ?_; simp [h4,h0,h3,hh,hw];refine ⟨⟨i+1,by omega,rfl,_,⟨rfl,by omega⟩,rfl,?_⟩,by omega⟩;rw [<- List.take_append_getElem hlt,Nm.digL_snoc,take_all' (by simp [Nm.digL_length]; omega)];simp [uL]
 . have hi':i=a.length:=by omega
   subst hi';refine WS_cF (by simp) ?_;refine WS_exit ?_; simp;have hl2:(Nm.digL 4294967296 a).length=2*a.length:=Nm.digL_length _ _;refine WS_frz 3 3 none ?_;simp [frzQ,h3,hh,hl2,take_all' hl2];refine Wr ?_; simp;refine callK (rcut_spec (Nm.digL 4294967296 a) (by omega)) ?_; simp;refine WS_ret ?_; simp [U];rw [<- Nm.dig_val (by omega) (Nm.digL_lt (by omega) hd),Nm.val_digL]
theorem rlimbs_spec (d:List Nat) (hd:Nm.Dl 4294967296 d) (hl:d.length<=2^40):Spec Tryz.prog f_ref01_limbs [U d] (· =[.pure (U (Nm.dig 18446744073709551616 (Nm.val 4294967296 d)))]):=by
 refine spec_at Tryz.func191 ok_ref01_limbs [] rfl (by simp) ?_;unfold sc_ref01_limbs U;refine Wr ?_; simp;refine WS_seq (WS_reg [3] ?_); simp;refine Ws ?_; simp;refine WS_block (WS_loop (λS=>∃ j g:Nat,2*j<=d.length+1/\S.σ 0= .p (.sl none (uL d))/\S.σ 4= .p (.i .i64 ((2*j:Nat):Int))/\S.σ 3= .own 3 g 0 j/\
  S.h 3=⟨g,some (.arr 118 none (uL (Nm.limL 4294967296 d j)))⟩) (λS=>match S.σ 4 with | .p (.i _ n)=>d.length+1-n.toNat | _=>0) ⟨0,1,by omega,by simp,by simp,by simp,by simp [Nm.limL]⟩ ?_)
 rintro S ⟨j,g,hj,h0,h4,h3,hh⟩;refine Ws ?_;generalize hi:2*j=i at*
 simp [h0,h4];by_cases hlt:i<d.length
 . refine WS_cond (t:=true) (by simp [hlt]) (λ_=>?_) (λh=>by simp at h);refine WS_skip ?_; simp;have hw:=i64_succ i (by omega);have hw2:IntKind.i64.wrap ((i:Int)+2)=((i+2:Nat):Int):=by rw [i64_int _ (by omega) (by omega)]; omega
   refine WS_seq (WS_block (Wr ?_)); simp [h0,h4,hlt];refine Ws ?_; simp [h0,h4,hw];have hx:=hd _ (List.getElem_mem hlt);by_cases hlt1:i+1<d.length
   . refine WS_cond (t:=true) (by simp; omega) (λ_=>?_) (λh=>by simp at h);have hy:=hd _ (List.getElem_mem hlt1);have e1:=abin_shl (k:=.u64) d[i+1] 32 32 rfl (by omega);rw [Nat.mod_eq_of_lt (by omega)] at e1;have e2:=u64_addf d[i] (d[i+1]*2^32) (by omega);have hv:d.getD (2*j) 0+d.getD (2*j+1) 0*4294967296=d[i]+d[i+1]*2^32:=by rw [hi]; simp [List.getD,hlt,hlt1]
     have hlast:Nm.limL 4294967296 d (j+1)=Nm.limL 4294967296 d j++[d[i]+d[i+1]*2^32]:=by rw [Nm.limL_succ,hv]
     obtain ⟨Z,hZ⟩:∃ Z,Z=d[i+1]*2^32:=⟨_,rfl⟩;rw [<- hZ] at e1 e2 hlast;obtain ⟨W,hW⟩:∃ W,W=d[i]+Z:=⟨_,rfl⟩;rw [<- hW] at e2 hlast;have hw3:((i:Int)+1).toNat=i+1:=by omega
     have hlt1':(i:Int)+1<d.length:=by omega
     refine WS_reg [] ?_; simp [h0,h4,hw,hlt1,hlt1',e1,e2,hw3];refine ⟨by omega,?_⟩;refine WS_reg [] ?_; simp [h3,hh,h0,Nm.limL_length];refine ⟨by omega,?_⟩;refine WS_reg [] ?_; simp [h0,h4,hw2];refine ⟨⟨j+1,by omega,by omega,_,⟨rfl,rfl⟩,rfl,?_⟩,by omega⟩;rw [take_all' (Nm.limL_length _ _ _),hlast]
   . refine WS_cond (t:=false) (by simp; omega) (λh=>by simp at h) (λ_=>?_);have hlast:Nm.limL 4294967296 d (j+1)=Nm.limL 4294967296 d j++[d[i]]:=by
      rw [Nm.limL_succ,hi];simp [List.getD,hlt,List.getElem?_eq_none (show d.length<=i+1 by omega)]
     refine WS_skip ?_; simp;refine WS_reg [] ?_; simp [h3,hh,h0,Nm.limL_length];refine ⟨by omega,?_⟩;refine WS_reg [] ?_; simp [h0,h4,hw2];refine ⟨⟨j+1,by omega,by omega,_,⟨rfl,rfl⟩,rfl,?_⟩,by omega⟩;rw [take_all' (Nm.limL_length _ _ _),hlast]
 . refine WS_cond (t:=false) (by simp; omega) (λh=>by simp at h) (λ_=>?_);refine WS_exit ?_; simp;have hl2:(Nm.limL 4294967296 d j).length=j:=Nm.limL_length _ _ _;refine WS_frz 3 3 none ?_;simp [frzQ,h3,hh,hl2,take_all' hl2];refine Wr ?_; simp;refine callK (rnorm_spec (Nm.limL 4294967296 d j) (by omega)) ?_; simp;refine WS_ret ?_; simp [U];have hlim:=Nm.limL_lt (D:=4294967296) (by omega) hd j;have hval:=Nm.val_limL 4294967296 d j;rw [hi,List.take_of_length_le (by omega)] at hval;rw [<- Nm.dig_val (by omega) hlim,hval]
theorem rsame_spec (a:List Nat) (hl:a.length<=2^40):Spec Tryz.prog f_ref01_Same [U a,U a] (· =[.pure (.b true)]):=by
 refine spec_at Tryz.func68 ok_ref01_Same [] rfl (by simp) ?_;unfold sc_ref01_Same U;refine Wr ?_; simp;refine Ws ?_; simp;refine WS_cF (by simp) ?_;refine WS_skip ?_; simp;refine Ws ?_; simp;refine WS_block (WS_loop (λS=>∃ i:Nat,i<=a.length/\S.σ 0= .p (.sl none (uL a))/\S.σ 1= .p (.sl none (uL a))/\S.σ 5= .p (.i .i64 (i:Int))) (λS=>match S.σ 5 with | .p (.i _ n)=>a.length-n.toNat | _=>0) ⟨0,by omega,by simp,by simp,by simp⟩ ?_);rintro S ⟨i,hi,h0,h1,h5⟩;refine Ws ?_; simp [h0,h5];by_cases hlt:i<a.length
 . refine WS_cT (by simp [hlt]) ?_;refine WS_skip ?_; simp;have hw:=i64_succ i (by omega);refine WS_seq (WS_block (WS_seq (WS_regD [] ?_))); simp [h0,h1,h5,hlt];refine ⟨rfl,?_⟩;refine WS_cF (by simp) ?_;refine WS_skip ?_; simp;refine WS_reg [] ?_; simp [h0,h1,h5,hw];exact ⟨⟨i+1,by omega,rfl⟩,by omega⟩
 . refine WS_cF (by simp; omega) ?_;refine WS_exit ?_; simp;refine Wr ?_; simp;refine WS_ret ?_; simp
theorem shl1_spec (a:List Nat) (ha:Nm.Dl 18446744073709551616 a) (k c n s:Nat) (hs:n%64=s) (hk:k<a.length) (hc:c<2^s) (hn:n<2^62):
 Spec Tryz.prog f_nat_Shl_1 ([.i .i64 (k:Int),.i .u64 (c:Int)]++[.ref none (U a),.ref none (.i .i64 (n:Int))]) (· =[.pure (.i .u64 ((Nm.shlF 18446744073709551616 s a k c).1:Nat)),.pure (.i .u64 ((Nm.shlF 18446744073709551616 s a k c).2:Nat))]):=by
 refine spec_at Tryz.func135 ok_nat_Shl_1 [] rfl (by simp) ?_;unfold sc_nat_Shl_1 U;have hs64:s<64:=by omega
 have hx:a[k]<18446744073709551616:=ha _ (List.getElem_mem hk);have htm:(n:Int).tmod 64=(s:Int):=by have:=tmod_nat n 64; rw [hs] at this; exact this
 have hw:IntKind.i64.wrap (63-(s:Int))=((63-s:Nat):Int):=by rw [i64_int _ (by omega) (by omega)]; omega
 have e1:=abin_shl (k:=.i64) a[k] (s:Int) s rfl (by omega);have e2:=abin_shr (k:=.u64) a[k] 1 1 rfl (by omega);have hd1:a[k]*2^s%18446744073709551616=a[k]%2^(64-s)*2^s:=by
  have:(18446744073709551616:Nat)=2^s*2^(64-s):=by rw [<- Nat.pow_add,show s+(64-s)=64 by omega]
  rw [this,Nat.mul_comm a[k],Nat.mul_mod_mul_left,Nat.mul_comm]
 have hd2:a[k] / 2^1 / 2^(63-s)=a[k]*2^s / 18446744073709551616:=by
  have:(18446744073709551616:Nat)=2^(64-s)*2^s:=by rw [<- Nat.pow_add,show (64-s)+s=64 by omega]
  rw [this,Nat.mul_div_mul_right _ _ (Nat.pow_pos (by omega)),Nat.div_div_eq_div_mul,<-Nat.pow_add,show 1+(63-s)=64-s by omega]
 have r1:(Nm.shlF 18446744073709551616 s a k c).1=a[k]*2^s%18446744073709551616+c:=by simp [Nm.shlF,List.getD,hk]
 have r2:(Nm.shlF 18446744073709551616 s a k c).2=a[k]*2^s / 18446744073709551616:=by simp [Nm.shlF,List.getD,hk]
 rw [r1,r2];have hlo:a[k]*2^s%18446744073709551616<18446744073709551616:=Nat.mod_lt _ (by omega);have hc64:c<18446744073709551616:=Nat.lt_of_lt_of_le hc (show 2^s<=2^64 from Nat.pow_le_pow_right (by omega) (by omega));have hor:=or_apart (a:=a[k]%2^(64-s)) hc;rw [<- hd1] at hor;generalize a[k]*2^s%18446744073709551616=X at*
 have e3:=abin_or X c hlo hc64;rw [hor] at e3;have hh:a[k] / 2^1<18446744073709551616:=Nat.lt_of_le_of_lt (Nat.div_le_self _ _) hx;generalize hY:a[k] / 2^1=Y at*
 have e4:=abin_shr (k:=.i64) Y ((63-s:Nat):Int) (63-s) rfl (by omega);rw [hd2] at e4;generalize a[k]*2^s / 18446744073709551616=Z at*
 generalize 63-s=t at*
 generalize X+c=W at*
 refine Wr ?_; simp;refine WS_seq (WS_regD [] ?_); simp [hk,htm,e1,e2,hw,e3,e4];refine ⟨rfl,?_⟩;refine WS_ret ?_; simp
theorem shr1_arith {x y s:Nat} (hs:s<64) (hx:x<18446744073709551616) (hy:y<18446744073709551616):
 y*2^1%18446744073709551616*2^(63-s)%18446744073709551616=y%2^s*2^(64-s)/\x / 2^s<18446744073709551616/\y%2^s*2^(64-s)<18446744073709551616/\
 (x / 2^s ||| y%2^s*2^(64-s))=x / 2^s+y%2^s*2^(64-s):=by
 have h2:(18446744073709551616:Nat)=2^(64-s)*2^s:=by rw [<- Nat.pow_add,show (64-s)+s=64 by omega]
 have hlo:x / 2^s<2^(64-s):=Nat.div_lt_of_lt_mul (by rw [Nat.mul_comm,<-h2]; exact hx);have hm:∀ M:Nat,M=2^(64-s)*2^s->y*2^1%M*2^(63-s)%M=y%2^s*2^(64-s):=λM hM=>by
  rw [Nat.mod_mul_mod,Nat.mul_assoc,<-Nat.pow_add,show 1+(63-s)=64-s by omega,hM,Nat.mul_comm y,Nat.mul_mod_mul_left,Nat.mul_comm]
 refine ⟨hm _ h2,Nat.lt_of_le_of_lt (Nat.div_le_self _ _) hx,?_,?_⟩
 . have h3:y%2^s<2^s:=Nat.mod_lt _ (Nat.pow_pos (by omega));have h4:=Nat.mul_lt_mul_of_pos_right h3 (show 0<2^(64-s) from Nat.pow_pos (by omega));rw [Nat.mul_comm (2^s),<-h2] at h4;exact h4
 . rw [Nat.or_comm,or_apart hlo,Nat.add_comm]
theorem shr1_spec (a:List Nat) (ha:Nm.Dl 18446744073709551616 a) (k c s:Nat) (hs:s<64) (hk:k<a.length) (hl:a.length<=2^40):
 Spec Tryz.prog f_nat_Shr_1 ([.i .i64 (k:Int),.i .u64 (c:Int)]++[.ref none (U a),.ref none (.i .i64 (s:Int))]) (· =[.pure (.i .u64 ((Nm.shrF s (64-s) a k:Nat):Int)),.pure (.i .u64 ((0:Nat):Int))]):=by
 refine spec_at Tryz.func184 ok_nat_Shr_1 [] rfl (by simp) ?_;unfold sc_nat_Shr_1;have hx:a[k]<18446744073709551616:=ha _ (List.getElem_mem hk);have hy:=ha.get (by omega) (k+1);obtain ⟨y,hyd⟩:∃ y,y=a.getD (k+1) 0:=⟨_,rfl⟩;have hF:Nm.shrF s (64-s) a k=a[k] / 2^s+y%2^s*2^(64-s):=by rw [Nm.shrF,<-hyd]; simp [List.getD,hk]
 have hty:a[((k:Int)+1).toNat]?.getD 0=y:=by rw [show ((k:Int)+1).toNat=k+1 by omega,hyd,List.getD_eq_getElem?_getD]
 have hty':a[k+1]?.getD 0=y:=by rw [hyd,List.getD_eq_getElem?_getD]
 rw [<- hyd] at hy;obtain ⟨hm,hlo64,hhi64,hor⟩:=shr1_arith hs hx hy;have hw:=i64_succ k (by omega);have hw63:IntKind.i64.wrap (63-(s:Int))=((63-s:Nat):Int):=by rw [i64_int _ (by omega) (by omega)]; omega
 have e1:=abin_shr (k:=.i64) a[k] (s:Int) s rfl (by omega);have e2:=abin_shl (k:=.u64) y 1 1 rfl (by omega);have e3:=abin_shl (k:=.i64) (y*2^1%18446744073709551616) ((63-s:Nat):Int) (63-s) rfl (by omega);have e4:=abin_or (a[k] / 2^s) (y%2^s*2^(64-s)) hlo64 hhi64;rw [hm] at e3;rw [hor,<-hF] at e4;obtain ⟨p,hp⟩:∃ p,p=a[k] / 2^s:=⟨_,rfl⟩;obtain ⟨q,hq⟩:∃ q,q=y%2^s*2^(64-s):=⟨_,rfl⟩;obtain ⟨z,hz⟩:∃ z,z=y*2^1%18446744073709551616:=⟨_,rfl⟩;obtain ⟨t,ht⟩:∃ t,t=63-s:=⟨_,rfl⟩;obtain ⟨W,hW⟩:∃ W,W=Nm.shrF s (64-s) a k:=⟨_,rfl⟩;rw [<- hp] at e1;rw [<- hz] at e2;rw [<- hz,<-ht,<-hq] at e3;rw [<- hp,<-hq,<-hW] at e4;rw [<- ht] at hw63;rw [<- hW];clear hm hor hlo64 hhi64 hp hq hz hF hW;refine Wr ?_; simp [U];refine WS_seq (WS_regD [] ?_); simp [hk,hw,e1];refine callD (at_spec a ((k:Int)+1) (by omega)) rfl ?_; simp [hty,hty',e2,e3,e4,hw63];refine ⟨rfl,?_⟩;refine WS_ret ?_; simp
theorem shl_digits {B q N k:Nat} (hB:2<=B) (h:N / B^k<B):Nm.trim (List.replicate q 0++(Nm.pad B k N++[N / B^k]))=Nm.dig B (B^q*N):=by
 rw [Nm.pad_cat N k h];have hlt:N<B^(k+1):=by
  rw [Nat.pow_succ,Nat.mul_comm];exact (Nat.div_lt_iff_lt_mul (Nat.pow_pos (by omega))).1 h
 rw [<- Nm.dig_val hB ((Nm.Dl.replicate (by omega) q).append (Nm.pad_lt (by omega) _ _)),Nm.val_append,Nm.val_replicate,Nm.val_pad,Nat.mod_eq_of_lt hlt];simp
theorem nshl_spec (a:List Nat) (ha:Nm.Dl 18446744073709551616 a) (hl:a.length<=2^38) (n:Int):
 Spec Tryz.prog f_nat_Shl [U a,.i .i64 n] (· =if n<0\/262144<n then [.pure (U []),.pure (.i .i64 1)] else [.pure (U (Nm.dig 18446744073709551616 (Nm.val 18446744073709551616 a*2^n.toNat))),.pure (.i .i64 0)]):=by
 refine spec_at Tryz.func84 ok_nat_Shl [] rfl (by simp) ?_;unfold sc_nat_Shl;refine Wr ?_; simp [U];refine WS_frz 2 2 none ?_;simp [frzQ];refine WS_frz 3 3 none ?_;simp [frzQ];refine Ws ?_;by_cases h1:n<0
 . simp [h1];refine WS_cT (by simp) ?_;refine Wr ?_; simp;refine WS_ret ?_; simp
 . by_cases h2:262144<n
   . simp [h1,h2];refine WS_cT (by simp) ?_;refine Wr ?_; simp;refine WS_ret ?_; simp
   . simp [h1,h2];refine WS_cF (by simp) ?_;refine WS_skip ?_; simp;obtain ⟨m,rfl⟩:∃ m:Nat,n=m:=⟨n.toNat,by omega⟩;obtain ⟨q,hq⟩:∃ q,q=m / 64:=⟨_,rfl⟩;obtain ⟨s,hs⟩:∃ s,s=m%64:=⟨_,rfl⟩;have hd:(m:Int).tdiv 64=(q:Int):=by have:=tdiv_nat m 64; rw [<- hq] at this; exact this
     have hwq:=i64_nat q (by omega);have hB:(2:Nat)^(s+(64-s))=18446744073709551616:=by rw [show s+(64-s)=64 by omega]
     have hrun:=Nm.crun_shl (s:=s) (t:=64-s) (a:=a) (by rw [hB]; exact ha);rw [hB] at hrun;obtain ⟨hr,hc⟩:=hrun;have hs64:2^s<=2^63:=Nat.pow_le_pow_right (by omega) (by omega);have hdig:=shl_digits (B:=18446744073709551616) (q:=q) (k:=a.length) (N:=Nm.val 18446744073709551616 a*2^s) (by omega) (by omega);have hval:18446744073709551616^q*(Nm.val 18446744073709551616 a*2^s)=Nm.val 18446744073709551616 a*2^m:=by
      have e:(18446744073709551616:Nat)^q*2^s=2^m:=by
       rw [show (18446744073709551616:Nat)=2^64 from rfl,<-Nat.pow_mul,<-Nat.pow_add]; congr 1; omega
      rw [Nat.mul_left_comm,e]
     rw [hval] at hdig;have hlen:=Nm.pad_length 18446744073709551616 a.length (Nm.val 18446744073709551616 a*2^s);obtain ⟨L,hL⟩:∃ L,L=Nm.pad 18446744073709551616 a.length (Nm.val 18446744073709551616 a*2^s):=⟨_,rfl⟩;obtain ⟨c,hcd⟩:∃ c,c=Nm.val 18446744073709551616 a*2^s / 18446744073709551616^a.length:=⟨_,rfl⟩;rw [<- hL,<-hcd] at hr hdig;rw [<- hL] at hlen;refine Wr ?_; simp;refine callK (carried_spec a.length (by omega) f_nat_Shl_1 [.ref none (U a),.ref none (.i .i64 (m:Int))] (Nm.shlF 18446744073709551616 s a) (λc=>c<2^s) (Nat.pow_pos (by omega)) (λk c hk hc=>⟨shl1_spec a ha k c m s hs.symm hk hc (by omega),Nat.div_lt_of_lt_mul (Nat.mul_lt_mul_of_pos_right (ha.get (by omega) k) (Nat.pow_pos (by omega)))⟩)) ?_; simp [hr];refine WS_seq (WS_regD [24] ?_); simp [hlen,take_all' hlen,hd,hwq];refine ⟨by omega,?_⟩;refine callD (moved_spec (L++[c]) q (by simp [hlen]; omega) (by omega)) rfl ?_; simp;refine callD (plain_spec (List.replicate q 0++(L++[c])) (by simp [hlen]; omega)) rfl ?_; simp;refine ⟨rfl,?_⟩;refine WS_ret ?_; simp [U,hdig]
theorem nshr_spec (a:List Nat) (ha:Nm.Dl 18446744073709551616 a) (hl:a.length<=2^38) (n:Int) (hn:n<2^63):
 Spec Tryz.prog f_nat_Shr [U a,.i .i64 n] (· =[.pure (U (Nm.dig 18446744073709551616 (Nm.val 18446744073709551616 a / 2^n.toNat)))]):=by
 refine spec_at Tryz.func133 ok_nat_Shr [] rfl (by simp) ?_;unfold sc_nat_Shr;obtain ⟨m,hm⟩:∃ m:Nat,m=n.toNat:=⟨_,rfl⟩;have hmax:(if n<0 then (0:Int) else n)=(m:Int):=by split<;>omega
 have hmax':(if 0<n then n else (0:Int))=(m:Int):=by split<;>omega
 rw [<- hm];obtain ⟨q,hq⟩:∃ q,q=m / 64:=⟨_,rfl⟩;obtain ⟨s,hs⟩:∃ s,s=m%64:=⟨_,rfl⟩;have hd:(m:Int).tdiv 64=(q:Int):=by have:=tdiv_nat m 64; rw [<- hq] at this; exact this
 have htm:(m:Int).tmod 64=(s:Int):=by have:=tmod_nat m 64; rw [<- hs] at this; exact this
 have hwq:=i64_nat q (by omega);refine Wr ?_; simp [U];refine Wr ?_; simp [hmax,hmax'];refine Ws ?_; simp [hd,hwq];by_cases hle:a.length<=q
 . refine WS_cT (by simp [hle]) ?_;refine Wr ?_; simp;refine WS_ret ?_;have hz:Nm.val 18446744073709551616 a / 2^m=0:=by
    refine Nat.div_eq_of_lt (Nat.lt_of_lt_of_le (Nm.val_lt ha) ?_);rw [show (18446744073709551616:Nat)=2^64 from rfl,<-Nat.pow_mul];exact Nat.pow_le_pow_right (by omega) (by omega)
   simp [hz,Nm.dig_zero]
 . refine WS_cF (by simp; omega) ?_;refine WS_skip ?_; simp;refine Wr ?_; simp [hd,hwq];refine ⟨by omega,?_⟩;refine Wr ?_; simp [htm];refine WS_frz 2 2 none ?_;simp [frzQ];refine WS_frz 3 3 none ?_;simp [frzQ];have hB:(2:Nat)^(s+(64-s))=18446744073709551616:=by rw [show s+(64-s)=64 by omega]
   have had:Nm.Dl 18446744073709551616 (a.drop q):=ha.drop q;obtain ⟨b,hb⟩:∃ b,b=a.drop q:=⟨_,rfl⟩;have hbl:b.length=a.length-q:=by rw [hb]; simp
   have hbv:Nm.val 18446744073709551616 b=Nm.val 18446744073709551616 a / 18446744073709551616^q:=by rw [hb,Nm.val_drop_div (by omega) ha]
   have hval:Nm.val 18446744073709551616 b / 2^s=Nm.val 18446744073709551616 a / 2^m:=by
    rw [hbv,Nat.div_div_eq_div_mul];congr 1;rw [show (18446744073709551616:Nat)=2^64 from rfl,<-Nat.pow_mul,<-Nat.pow_add]; congr 1; omega
   rw [<- hb] at had;have hrun:=Nm.crun_shr (s:=s) (t:=64-s) (a:=b) (by rw [hB]; exact had);have hlt:=Nm.shr_lt (s:=s) (t:=64-s) (a:=b) (by rw [hB]; exact had);rw [hB] at hrun hlt;rw [hval] at hrun hlt;have htr:=Nm.trim_pad (B:=18446744073709551616) (by omega) hlt;have hpl:=Nm.pad_length 18446744073709551616 b.length (Nm.val 18446744073709551616 a / 2^m);obtain ⟨L,hL⟩:∃ L,L=Nm.pad 18446744073709551616 b.length (Nm.val 18446744073709551616 a / 2^m):=⟨_,rfl⟩;rw [<- hL] at hrun htr hpl;simp only [<- hb];refine Wr ?_; simp;refine callK ((carried_spec b.length (by omega) f_nat_Shr_1 [.ref none (U b),.ref none (.i .i64 (s:Int))] (λk _=>(Nm.shrF s (64-s) b k,0)) (λ_=>True) trivial (λk c hk _=>⟨shr1_spec b had k c s (by omega) hk (by omega),trivial⟩)).plain (R':=(· =[.pure (U L),.pure (.i .u64 ((0:Nat):Int))])) (by rintro _ rfl; rw [hrun]; rfl)) ?_; simp;refine Wr ?_; simp;refine callK (plain_spec L (by omega)) ?_; simp;refine WS_ret ?_; simp [U,htr]
theorem rcompare_spec (x y:List Nat) (hx:Nm.Dl 4294967296 x) (hy:Nm.Dl 4294967296 y) (lx:x.length<=2^42) (ly:y.length<=2^42):
 Spec Tryz.prog f_ref01_compare [U x,U y] (· =[.pure (.i .i64 (Nm.cmpN (Nm.val 4294967296 x) (Nm.val 4294967296 y)))]):=by
 refine spec_at Tryz.func192 ok_ref01_compare [] rfl (by simp) ?_;unfold sc_ref01_compare U;have hc:=Nm.cmpF_val (B:=4294967296) (by omega) hx hy (max x.length y.length);rw [Nm.take_all (by omega),Nm.take_all (by omega)] at hc;rw [<- hc];obtain ⟨n,hn⟩:∃ n,n=max x.length y.length:=⟨_,rfl⟩;rw [<- hn];refine Wr ?_; simp;refine Ws ?_;have w0:IntKind.i64.wrap ((n:Int)-1)=(n:Int)-1:=i64_int _ (by omega) (by omega);simp [max_len,<-hn,w0];refine WS_block (WS_loop (λS=>∃ k:Nat,k<=n/\S.σ 0= .p (.sl none (uL x))/\S.σ 1= .p (.sl none (uL y))/\S.σ 5= .p (.i .i64 ((k:Int)-1))/\Nm.cmpF x y n=Nm.cmpF x y k) (λS=>match S.σ 5 with | .p (.i _ n)=>(n+1).toNat | _=>0) ⟨n,by omega,by simp,by simp,by simp,rfl⟩ ?_);rintro S ⟨k,hk,h0,h1,h5,hcm⟩;refine Ws ?_; simp [h5];by_cases hp:0<k
 . obtain ⟨j,rfl⟩:∃ j,k=j+1:=⟨k-1,by omega⟩;have hj:((j+1:Nat):Int)-1=(j:Int):=by omega
   rw [hj] at h5;refine WS_cT (by simp; omega) ?_;refine WS_skip ?_; simp;refine WS_seq (WS_block (Ws ?_)); simp [h0,h5];refine callK (rat_spec x j (by omega)) ?_; simp [h1,h5];refine callK (rat_spec y j (by omega)) ?_;obtain ⟨p,hpd⟩:∃ p,p=x[j]?.getD 0:=⟨_,rfl⟩;obtain ⟨q,hqd⟩:∃ q,q=y[j]?.getD 0:=⟨_,rfl⟩;have hF:Nm.cmpF x y (j+1)=if p<q then -1 else if p>q then 1 else Nm.cmpF x y j:=by simp [Nm.cmpF,hpd,hqd]
   simp [<- hpd,<-hqd];by_cases hlt:p<q
   . refine WS_cT (by simp [hlt]) ?_;refine Wr ?_; simp;refine WS_ret ?_; simp;rw [hcm,hF,if_pos hlt]
   . refine WS_cF (by simp; omega) ?_;refine WS_skip ?_; simp;refine Wr ?_; simp [h0,h5];refine callK (rat_spec x j (by omega)) ?_; simp [h1,h5];refine callK (rat_spec y j (by omega)) ?_; simp [<- hpd,<-hqd];by_cases hgt:q<p
     . refine WS_cT (by simp [hgt]) ?_;refine Wr ?_; simp;refine WS_ret ?_; simp;rw [hcm,hF,if_neg hlt,if_pos hgt]
     . refine WS_cF (by simp; omega) ?_;refine WS_skip ?_; simp;have w1:IntKind.i64.wrap ((j:Int)-1)=(j:Int)-1:=i64_int _ (by omega) (by omega);refine WS_reg [] ?_; simp [h0,h1,h5,w1];refine ⟨j,by omega,rfl,?_⟩;rw [hcm,hF,if_neg hlt,if_neg (by omega)]
 . have hk0:k=0:=by omega
   subst hk0;refine WS_cF (by simp) ?_;refine WS_exit ?_; simp;refine Wr ?_; simp;refine WS_ret ?_; simp [hcm,Nm.cmpF]
theorem dig32_len {n:Nat} {k:Nat} (h:n<18446744073709551616^k):(Nm.dig 4294967296 n).length<=2*k:=by
 refine Nm.dig_length_le (by omega) ?_;rw [Nat.pow_mul];exact h
theorem radd_spec (a b:List Nat) (ha:Nm.Dl 18446744073709551616 a) (hb:Nm.Dl 18446744073709551616 b) (la:a.length<=2^38) (lb:b.length<=2^38):
 Spec Tryz.prog f_ref01_Add [U a,U b] (· =[.pure (U (Nm.dig 18446744073709551616 (Nm.val 18446744073709551616 a+Nm.val 18446744073709551616 b)))]):=by
 refine spec_at Tryz.func145 ok_ref01_Add [] rfl (by simp) ?_;unfold sc_ref01_Add;have l1:=dig32_len (Nm.val_lt ha);have l2:=dig32_len (Nm.val_lt hb);have d1:=Nm.dig_lt (B:=4294967296) (by omega) (Nm.val 18446744073709551616 a);have d2:=Nm.dig_lt (B:=4294967296) (by omega) (Nm.val 18446744073709551616 b);have v1:=Nm.val_dig (B:=4294967296) (by omega) (Nm.val 18446744073709551616 a);have v2:=Nm.val_dig (B:=4294967296) (by omega) (Nm.val 18446744073709551616 b);obtain ⟨x,hx⟩:∃ x,x=Nm.dig 4294967296 (Nm.val 18446744073709551616 a):=⟨_,rfl⟩;obtain ⟨y,hy⟩:∃ y,y=Nm.dig 4294967296 (Nm.val 18446744073709551616 b):=⟨_,rfl⟩;rw [<- hx] at l1 d1 v1;rw [<- hy] at l2 d2 v2;have s1:=rdigits_spec a ha (by omega);have s2:=rdigits_spec b hb (by omega);rw [<- hx] at s1;rw [<- hy] at s2;rw [<- v1,<-v2];obtain ⟨n,hn⟩:∃ n,n=max x.length y.length:=⟨_,rfl⟩;have hn1:x.length<=n:=by omega
 have hn2:y.length<=n:=by omega
 have hn3:n<=2^39:=by omega
 obtain ⟨F,hF⟩:∃ F,F=Nm.addF 4294967296 x y:=⟨_,rfl⟩;obtain ⟨hr,hc⟩:=Nm.crun_add (B:=4294967296) (by omega) d1 d2 (n:=n+1) (by omega) (by omega);rw [<- hF] at hr;have hc1:∀ k,(Nm.crun F k).2<=1:=λk=>hF ▸ Nm.crun_inv (n:=k) (I:=(·<=1)) (by omega) (λk c _ hc=>Nm.add_carry _ x y k c (by omega) d1 d2 hc) k (Nat.le_refl _);have w0:=i64_succ n (by omega);refine Wr ?_; simp [U];refine Wr ?_; simp;refine callK (s1) ?_; simp;refine Wr ?_; simp;refine callK (s2) ?_; simp;refine WS_seq (WS_reg [7] ?_); simp;refine Wr ?_; simp;refine Ws ?_; simp [U];refine WS_block (WS_loop (λS=>∃ i g:Nat,i<=n+1/\S.σ 5= .p (.sl none (uL x))/\S.σ 6= .p (.sl none (uL y))/\S.σ 9= .p (.i .i64 (i:Int))/\S.σ 8= .p (.i .u64 ((Nm.crun F i).2:Nat))/\S.σ 7= .own 7 g 0 i/\
  S.h 7=⟨g,some (.arr 118 none (uL (Nm.crun F i).1))⟩) (λS=>match S.σ 9 with | .p (.i _ k)=>n+1-k.toNat | _=>0) ⟨0,1,by omega,by simp,by simp,by simp,by simp [Nm.crun],by simp,by simp [Nm.crun]⟩ ?_)
 rintro S ⟨i,g,hi,h5,h6,h9,h8,h7,hh⟩;refine Ws ?_; simp [h5,h6,h9,max_len,<-hn,w0];by_cases hlt:i<n+1
 . refine WS_cT (by simp; omega) ?_;refine WS_skip ?_; simp;refine WS_seq (WS_block (Wr ?_)); simp [h5,h9];refine callK (rat_spec x i (by omega)) ?_; simp [h6,h9];refine callK (rat_spec y i (by omega)) ?_;have g1:=d1.get (by omega) i;have g2:=d2.get (by omega) i;have hci:=hc1 i;have hFi:F i (Nm.crun F i).2=((x.getD i 0+y.getD i 0+(Nm.crun F i).2)%4294967296,(x.getD i 0+y.getD i 0+(Nm.crun F i).2) / 4294967296):=by rw [hF]; rfl
   have hlast:Nm.crun F (i+1)=((Nm.crun F i).1++[(x.getD i 0+y.getD i 0+(Nm.crun F i).2)%4294967296],(x.getD i 0+y.getD i 0+(Nm.crun F i).2) / 4294967296):=by
    rw [Nm.crun,hFi]
   have hlen:=Nm.crun_length F i;obtain ⟨c,hcd⟩:∃ c,c=(Nm.crun F i).2:=⟨_,rfl⟩;obtain ⟨L,hLd⟩:∃ L,L=(Nm.crun F i).1:=⟨_,rfl⟩;rw [<- hcd] at hci h8 hlast;rw [<- hLd] at hlast hlen hh;obtain ⟨p,hpd⟩:∃ p,p=x[i]?.getD 0:=⟨_,rfl⟩;obtain ⟨q,hqd⟩:∃ q,q=y[i]?.getD 0:=⟨_,rfl⟩;rw [List.getD,<-hpd] at g1 hlast;rw [List.getD,<-hqd] at g2 hlast;have e1:=u64_addf p q (by omega);obtain ⟨r,hrd⟩:∃ r,r=p+q:=⟨_,rfl⟩;rw [<- hrd] at e1 hlast;have e2:=u64_addf r c (by omega);obtain ⟨t,htd⟩:∃ t,t=r+c:=⟨_,rfl⟩;rw [<- htd] at e2 hlast;have e3:=abin_mask32 t (by omega);have e4:=abin_shr (k:=.u64) t 32 32 rfl (by omega);obtain ⟨tl,htl⟩:∃ z,z=t%4294967296:=⟨_,rfl⟩;obtain ⟨th,hth⟩:∃ z,z=t / 2^32:=⟨_,rfl⟩;have hth':th=t / 4294967296:=hth;rw [<- htl] at e3 hlast;rw [<- hth] at e4;rw [<- hth'] at hlast;simp [<- hpd,<-hqd,e1,h8,e2];refine Wr ?_; simp [h7,hh,e3,hlen,take_all' hlen];refine ⟨by omega,?_⟩;refine WS_reg [] ?_; simp [e4];have hw:=i64_succ i (by omega);refine WS_reg [] ?_; simp [h5,h6,h9,hw];refine ⟨⟨i+1,by omega,rfl,by simp [hlast],_,⟨rfl,rfl⟩,rfl,by simp [hlast]⟩,by omega⟩
 . have hi':i=n+1:=by omega
   subst hi';refine WS_cF (by simp) ?_;refine WS_exit ?_; simp;have hlen:=Nm.crun_length F (n+1);refine WS_frz 7 7 none ?_;simp [frzQ,h7,hh,hlen,take_all' hlen];refine Wr ?_; simp;have hdl:Nm.Dl 4294967296 (Nm.crun F (n+1)).1:=by rw [hr]; exact Nm.pad_lt (by omega) _ _
   refine callK (rlimbs_spec (Nm.crun F (n+1)).1 hdl (by omega)) ?_; simp;refine WS_ret ?_;have hv1:=Nm.val_lt d1;have hv2:=Nm.val_lt d2;have p1:4294967296^x.length<=4294967296^n:=Nat.pow_le_pow_right (by omega) hn1;have p2:4294967296^y.length<=4294967296^n:=Nat.pow_le_pow_right (by omega) hn2;have hfit:Nm.val 4294967296 x+Nm.val 4294967296 y<4294967296^(n+1):=by rw [Nat.pow_succ]; omega
   simp [U,hr,Nm.val_pad,Nat.mod_eq_of_lt hfit]
theorem rless_spec (x y:List Nat) (d1:Nm.Dl 4294967296 x) (d2:Nm.Dl 4294967296 y) (lx:x.length<=2^42) (ly:y.length<=x.length) (hle:Nm.val 4294967296 y<=Nm.val 4294967296 x):
 Spec Tryz.prog f_ref01_less [U x,U y] (· =[.pure (U (Nm.dig 4294967296 (Nm.val 4294967296 x-Nm.val 4294967296 y)))]):=by
 refine spec_at Tryz.func193 ok_ref01_less [] rfl (by simp) ?_;unfold sc_ref01_less;obtain ⟨n,hn⟩:∃ n,n=x.length:=⟨_,rfl⟩;obtain ⟨F,hF⟩:∃ F,F=Nm.subF 4294967296 x y:=⟨_,rfl⟩;have hr:=(Nm.crun_sub (B:=4294967296) (by omega) d1 d2 (n:=n) (by omega) (by omega)).1 hle;rw [<- hF] at hr;have hc1:∀ k,(Nm.crun F k).2<=1:=λk=>hF ▸ Nm.crun_inv (n:=k) (I:=(·<=1)) (by omega) (λk c _ hc=>Nm.sub_carry _ x y k c) k (Nat.le_refl _);refine Wr ?_; simp [U];refine WS_seq (WS_reg [5] ?_); simp;refine Wr ?_; simp;refine Ws ?_; simp [U];refine WS_block (WS_loop (λS=>∃ i g:Nat,i<=n/\S.σ 0= .p (.sl none (uL x))/\S.σ 1= .p (.sl none (uL y))/\S.σ 7= .p (.i .i64 (i:Int))/\S.σ 6= .p (.i .u64 ((Nm.crun F i).2:Nat))/\S.σ 5= .own 5 g 0 i/\
  S.h 5=⟨g,some (.arr 118 none (uL (Nm.crun F i).1))⟩) (λS=>match S.σ 7 with | .p (.i _ k)=>n-k.toNat | _=>0) ⟨0,1,by omega,by simp,by simp,by simp,by simp [Nm.crun],by simp,by simp [Nm.crun]⟩ ?_)
 rintro S ⟨i,g,hi,h0,h1,h7,h6,h5,hh⟩;refine Ws ?_; simp [h0,h7,<-hn];by_cases hlt:i<n
 . refine WS_cT (by simp; omega) ?_;refine WS_skip ?_; simp;refine WS_seq (WS_block (Wr ?_)); simp [h0,h7];refine callK (rat_spec x i (by omega)) ?_;have g1:=d1.get (by omega) i;have g2:=d2.get (by omega) i;have hci:=hc1 i;have hlast:Nm.crun F (i+1)=((Nm.crun F i).1++[(x.getD i 0+4294967296-y.getD i 0-(Nm.crun F i).2)%4294967296],if x.getD i 0<y.getD i 0+(Nm.crun F i).2 then 1 else 0):=by
    rw [Nm.crun,hF]; rfl
   have hlen:=Nm.crun_length F i;obtain ⟨c,hcd⟩:∃ c,c=(Nm.crun F i).2:=⟨_,rfl⟩;obtain ⟨L,hLd⟩:∃ L,L=(Nm.crun F i).1:=⟨_,rfl⟩;rw [<- hcd] at hci h6 hlast;rw [<- hLd] at hlast hlen hh;obtain ⟨p,hpd⟩:∃ p,p=x[i]?.getD 0:=⟨_,rfl⟩;obtain ⟨q,hqd⟩:∃ q,q=y[i]?.getD 0:=⟨_,rfl⟩;rw [List.getD,<-hpd] at g1 hlast;rw [List.getD,<-hqd] at g2 hlast;have e1:=u64_addf p 4294967296 (by omega);obtain ⟨r,hrd⟩:∃ r,r=p+4294967296:=⟨_,rfl⟩;rw [<- hrd] at e1 hlast;have e1':IntKind.u64.wrap ((p:Int)+4294967296)=(r:Int):=e1;have e2:=u64_sub r q (by omega) (by omega);obtain ⟨s,hsd⟩:∃ s,s=r-q:=⟨_,rfl⟩;rw [<- hsd] at e2 hlast;have e3:=u64_sub s c (by omega) (by omega);obtain ⟨t,htd⟩:∃ t,t=s-c:=⟨_,rfl⟩;rw [<- htd] at e3 hlast;have e4:=abin_mask32 t (by omega);have e5:=abin_shr (k:=.u64) t 32 32 rfl (by omega);obtain ⟨tl,htl⟩:∃ z,z=t%4294967296:=⟨_,rfl⟩;obtain ⟨th,hth⟩:∃ z,z=t / 2^32:=⟨_,rfl⟩;rw [<- htl] at e4 hlast;rw [<- hth] at e5;have e6:=u64_sub 1 th (by omega) (by omega);have e6':IntKind.u64.wrap (1-(th:Int))=((1-th:Nat):Int):=e6;have hb:(if p<q+c then 1 else 0)=1-th:=by split<;>omega
   rw [hb] at hlast;obtain ⟨b,hbd⟩:∃ b,b=1-th:=⟨_,rfl⟩;rw [<- hbd] at e6' hlast;simp [<- hpd,e1',h1,h7];refine callK (rat_spec y i (by omega)) ?_; simp [<- hqd,e2,h6,e3];refine Wr ?_; simp [h5,hh,e4,hlen,take_all' hlen];refine ⟨by omega,?_⟩;refine WS_reg [] ?_; simp [e5,e6'];have hw:=i64_succ i (by omega);refine WS_reg [] ?_; simp [h0,h1,h7,hw];refine ⟨⟨i+1,by omega,rfl,by simp [hlast],_,⟨rfl,rfl⟩,rfl,by simp [hlast]⟩,by omega⟩
 . have hi':i=n:=by omega
   subst hi';refine WS_cF (by simp) ?_;refine WS_exit ?_; simp;have hlen:=Nm.crun_length F i;refine WS_frz 5 5 none ?_;simp [frzQ,h5,hh,hlen,take_all' hlen];refine Wr ?_; simp;refine callK (rcut_spec (Nm.crun F i).1 (by omega)) ?_; simp;refine WS_ret ?_;have hfit:Nm.val 4294967296 x-Nm.val 4294967296 y<4294967296^i:=by
    have:=Nm.val_lt d1;rw [<- hn] at this;omega
   simp [U,hr,Nm.trim_pad (show 2<=4294967296 by omega) hfit]
theorem rsub_spec (a b:List Nat) (ha:Nm.Dl 18446744073709551616 a) (hb:Nm.Dl 18446744073709551616 b) (la:a.length<=2^38) (lb:b.length<=2^38):
 Spec Tryz.prog f_ref01_Sub [U a,U b] (· =if Nm.val 18446744073709551616 b<=Nm.val 18446744073709551616 a then [.pure (U (Nm.dig 18446744073709551616 (Nm.val 18446744073709551616 a-Nm.val 18446744073709551616 b))),.pure (.i .i64 0)] else [.pure (U []),.pure (.i .i64 1)]):=by
 refine spec_at Tryz.func146 ok_ref01_Sub [] rfl (by simp) ?_;unfold sc_ref01_Sub;have l1:=dig32_len (Nm.val_lt ha);have l2:=dig32_len (Nm.val_lt hb);have d1:=Nm.dig_lt (B:=4294967296) (by omega) (Nm.val 18446744073709551616 a);have d2:=Nm.dig_lt (B:=4294967296) (by omega) (Nm.val 18446744073709551616 b);have v1:=Nm.val_dig (B:=4294967296) (by omega) (Nm.val 18446744073709551616 a);have v2:=Nm.val_dig (B:=4294967296) (by omega) (Nm.val 18446744073709551616 b);have hmono:Nm.val 18446744073709551616 b<=Nm.val 18446744073709551616 a->_:=Nm.dig_length_mono (B:=4294967296) (by omega);refine Wr ?_; simp;refine Wr ?_; simp;refine callK (rdigits_spec a ha (by omega)) ?_; simp;refine Wr ?_; simp;refine callK (rdigits_spec b hb (by omega)) ?_; simp;refine Ws ?_; simp;refine callK (rcompare_spec _ _ d1 d2 (by omega) (by omega)) ?_;by_cases h:Nm.val 18446744073709551616 b<=Nm.val 18446744073709551616 a
 . have hcmp:¬ Nm.cmpN (Nm.val 18446744073709551616 a) (Nm.val 18446744073709551616 b)<0:=by
    unfold Nm.cmpN; rw [if_neg (by omega)]; split<;>omega
   have hl:=hmono h;simp [v1,v2,h,hcmp];refine WS_cF (by simp) ?_;refine WS_skip ?_; simp;refine Wr ?_; simp;refine callK (rless_spec _ _ d1 d2 (by omega) hl (by rw [v1,v2]; exact h)) ?_;rw [v1,v2];simp;have l3:=dig32_len (n:=Nm.val 18446744073709551616 a-Nm.val 18446744073709551616 b) (k:=a.length) (by have:=Nm.val_lt ha; omega);refine callK (rlimbs_spec _ (Nm.dig_lt (by omega) _) (by omega)) ?_; simp;refine WS_ret ?_; simp [U,Nm.val_dig]
 . have hcmp:Nm.cmpN (Nm.val 18446744073709551616 a) (Nm.val 18446744073709551616 b)= -1:=by
    unfold Nm.cmpN; rw [if_pos (by omega)]
   simp [v1,v2,h,hcmp];refine WS_cT (by simp) ?_;refine Wr ?_; simp;refine WS_ret ?_; simp [U]
theorem rmul_spec (a b:List Nat) (ha:Nm.Dl 18446744073709551616 a) (hb:Nm.Dl 18446744073709551616 b) (la:a.length<=2^36) (lb:b.length<=2^36):
 Spec Tryz.prog f_ref01_Mul [U a,U b] (· =[.pure (U (Nm.dig 18446744073709551616 (Nm.val 18446744073709551616 a*Nm.val 18446744073709551616 b)))]):=by
 refine spec_at Tryz.func147 ok_ref01_Mul [] rfl (by simp) ?_;unfold sc_ref01_Mul;have l1:=dig32_len (Nm.val_lt ha);have l2:=dig32_len (Nm.val_lt hb);have d1:=Nm.dig_lt (B:=4294967296) (by omega) (Nm.val 18446744073709551616 a);have d2:=Nm.dig_lt (B:=4294967296) (by omega) (Nm.val 18446744073709551616 b);have v1:=Nm.val_dig (B:=4294967296) (by omega) (Nm.val 18446744073709551616 a);have v2:=Nm.val_dig (B:=4294967296) (by omega) (Nm.val 18446744073709551616 b);obtain ⟨x,hx⟩:∃ x,x=Nm.dig 4294967296 (Nm.val 18446744073709551616 a):=⟨_,rfl⟩;obtain ⟨y,hy⟩:∃ y,y=Nm.dig 4294967296 (Nm.val 18446744073709551616 b):=⟨_,rfl⟩;have s1:=rdigits_spec a ha (by omega);have s2:=rdigits_spec b hb (by omega);rw [<- hx] at l1 d1 v1 s1;rw [<- hy] at l2 d2 v2 s2;rw [<- v1,<-v2];clear hx hy;obtain ⟨n,hn⟩:∃ n,n=x.length:=⟨_,rfl⟩;obtain ⟨m,hm⟩:∃ m,m=y.length:=⟨_,rfl⟩;have hnm:n+m<=2^40:=by omega
 have w0:=i64_addn n m (by omega);refine Wr ?_; simp [U];refine Wr ?_; simp;refine callK s1 ?_; simp;refine Wr ?_; simp;refine callK s2 ?_; simp;refine Wr ?_; simp [U,<-hn,<-hm,w0];refine ⟨by omega,?_⟩;refine Ws ?_; simp;have htn:((n:Int)+m).toNat=n+m:=by omega
 refine WS_block (WS_loop (λS=>∃ (i:Nat) (out:List Nat),i<=n/\S.σ 5= .p (.sl none (uL x))/\S.σ 6= .p (.sl none (uL y))/\S.σ 7= .own 21 1 0 (n+m)/\S.σ 8= .p (.i .i64 (i:Int))/\
  S.h 21=⟨1,some (.arr 118 none (uL out))⟩/\out.length=n+m/\Nm.Dl 4294967296 out/\Nm.zeroFrom out (i+m)/\Nm.val 4294967296 out=Nm.val 4294967296 (x.take i)*Nm.val 4294967296 y)
  (λS=>match S.σ 8 with | .p (.i _ k)=>n-k.toNat | _=>0) ⟨0,List.replicate (n+m) 0,by omega,by simp,by simp,by simp [htn],by simp,by simp [htn],by simp,Nm.Dl.replicate (by omega) _,λj _=>by simp [List.getD,List.getElem?_replicate]; split<;>simp,by simp [Nm.val_replicate,Nm.val]⟩ ?_)
 rintro S ⟨i,out,hi,h5,h6,h7,h8,hh,ho1,ho2,ho3,ho4⟩;refine Ws ?_; simp [h5,h8,<-hn];by_cases hlt:i<n
 . refine WS_cT (by simp; omega) ?_;refine WS_skip ?_; simp;refine WS_seq (WS_block (Wr ?_)); simp;refine Ws ?_; simp;obtain ⟨V0,hV0⟩:∃ V0,V0=Nm.val 4294967296 (x.take i)*Nm.val 4294967296 y:=⟨_,rfl⟩;have hxi:=d1.get (by omega) i;have hall:=Nm.row_all (B:=4294967296) (x:=x) (i:=i) (Y:=Nm.val 4294967296 y);obtain ⟨xi,hxid⟩:∃ xi,xi=x.getD i 0:=⟨_,rfl⟩;rw [<- hxid] at hxi hall;rw [<- hV0] at ho4 hall;have hxi':x[i]=xi:=by rw [hxid]; simp [List.getD,show i<x.length by omega]
   refine WS_block (WS_loop (λS=>∃ (k c:Nat) (out:List Nat),k<=m/\S.σ 5= .p (.sl none (uL x))/\S.σ 6= .p (.sl none (uL y))/\S.σ 7= .own 21 1 0 (n+m)/\S.σ 8= .p (.i .i64 (i:Int))/\S.σ 9= .p (.i .u64 (c:Int))/\S.σ 10= .p (.i .i64 (k:Int))/\
    S.h 21=⟨1,some (.arr 118 none (uL out))⟩/\out.length=n+m/\Nm.Dl 4294967296 out/\Nm.zeroFrom out (i+m)/\c<4294967296/\Nm.val 4294967296 out+4294967296^(i+k)*c=V0+4294967296^i*(xi*Nm.val 4294967296 (y.take k)))
    (λS=>match S.σ 10 with | .p (.i _ k)=>m-k.toNat | _=>0) ⟨0,0,out,by omega,by simp [h5],by simp [h6],by simp [h7],by simp [h8],by simp,by simp,by simp [hh],ho1,ho2,ho3,by omega,by simp [ho4,Nm.val]⟩ ?_)
   rintro S ⟨k,c,out,hk,h5,h6,h7,h8,h9,h10,hh,ho1,ho2,ho3,hc,ho4⟩;refine Ws ?_; simp [h6,h10,<-hm];by_cases hlt2:k<m
   . refine WS_cT (by simp; omega) ?_;refine WS_skip ?_; simp;have hyk:=d2.get (by omega) k;have hnext:=Nm.row_next (B:=4294967296) (V:=V0) (P:=0) (i:=i) (k:=k) (xi:=xi) (y:=y);obtain ⟨yk,hykd⟩:∃ yk,yk=y.getD k 0:=⟨_,rfl⟩;rw [<- hykd] at hyk hnext;have hyk':y[k]=yk:=by rw [hykd]; simp [List.getD,show k<y.length by omega]
     have hog:=ho2.get (by omega) (i+k);have hstep:=Nm.mul_step (B:=4294967296) (z:=xi*yk) (show i+k<out.length by omega) ho4;rw [<- hnext] at hstep;obtain ⟨o,hod⟩:∃ o,o=out.getD (i+k) 0:=⟨_,rfl⟩;rw [<- hod] at hog hstep;have hog':out[i+k]=o:=by rw [hod]; simp [List.getD,show i+k<out.length by omega]
     obtain ⟨b1,b2,b3⟩:=Nm.mul_bound hxi hyk hog hc;have e1:=u64_mulf xi yk b2;obtain ⟨z,hz⟩:∃ z,z=xi*yk:=⟨_,rfl⟩;rw [<- hz] at e1 hstep b1 b2 b3;have e2:=u64_addf z o b3;obtain ⟨r,hr⟩:∃ r,r=z+o:=⟨_,rfl⟩;rw [<- hr] at e2 hstep b1;have e3:=u64_addf r c b1;obtain ⟨t,ht⟩:∃ t,t=r+c:=⟨_,rfl⟩;rw [<- ht] at e3 hstep b1;have e4:=abin_mask32 t b1;have e5:=abin_shr (k:=.u64) t 32 32 rfl (by omega);have b4:t%4294967296<4294967296:=Nat.mod_lt _ (by omega);have b5:t / 4294967296<4294967296:=by omega
     obtain ⟨tl,htl⟩:∃ z,z=t%4294967296:=⟨_,rfl⟩;obtain ⟨th,hth⟩:∃ z,z=t / 2^32:=⟨_,rfl⟩;have hth':th=t / 4294967296:=hth;rw [<- htl] at e4 hstep b4;rw [<- hth] at e5;rw [<- hth'] at hstep b5;have w1:=i64_addn i k (by omega);have w2:=i64_succ k (by omega);have hik:((i:Int)+k).toNat=i+k:=by omega
     have hik':(i:Int)+k<n+m:=by omega
     have hik0:(0:Int)<=(i:Int)+k:=by omega
     have hol:i+k<out.length:=by omega
     refine WS_seq (WS_block (WS_seq (WS_regD [] ?_))); simp [h5,h6,h7,h8,h9,h10,hh,hlt,hlt2,<-hn,<-hm,w1,hik,hik',hik0,hxi',hyk',e1,hol,hog',e2,e3];refine ⟨rfl,?_⟩;refine Wr ?_; simp [h7,h8,h10,hh,w1,hik,hik',hik0,e4,hol];refine WS_reg [] ?_; simp [e5];refine WS_reg [] ?_; simp [h5,h6,h7,h8,h9,h10,hh,w2];refine ⟨⟨k+1,by omega,th,rfl,rfl,out.set (i+k) tl,rfl,by simp [ho1],ho2.set b4 _,Nm.zeroFrom_set ho3 (by omega) _,b5,hstep⟩,by omega⟩
   . have hk':k=m:=by omega
     refine WS_cF (by simp; omega) ?_;refine WS_exit ?_; simp;rw [hk'] at ho4;have hym:y.take m=y:=Nm.take_all (by omega);rw [hym,hall] at ho4;have w1:=i64_addn i m (by omega);have w2:=i64_succ i (by omega);have him:((i:Int)+m).toNat=i+m:=by omega
     have him':(i:Int)+m<n+m:=by omega
     have him0:(0:Int)<=(i:Int)+m:=by omega
     have hol:i+m<out.length:=by omega
     have hsz:=Nm.set_zero (B:=4294967296) (c:=c) hol (ho3 (i+m) (Nat.le_refl _));rw [ho4] at hsz;refine WS_reg [] ?_; simp [h6,h7,h8,h9,hh,<-hm,w1,him,him',him0,hol];refine WS_reg [] ?_; simp [h5,h6,h7,h8,hh,w2];refine ⟨⟨i+1,by omega,rfl,out.set (i+m) c,rfl,by simp [ho1],ho2.set hc _,?_,hsz⟩,by omega⟩;intro j hj;rw [Nm.getD_set_ne (by omega)];exact ho3 j (by omega)
 . have hi':i=n:=by omega
   refine WS_cF (by simp; omega) ?_;refine WS_exit ?_; simp;refine WS_frz 21 7 none ?_;simp [frzQ,h7,hh,ho1,take_all' ho1];refine Wr ?_; simp;refine callK (rlimbs_spec out ho2 (by omega)) ?_; simp;refine WS_ret ?_;rw [hi',Nm.take_all (by omega)] at ho4;simp [U,ho4]
theorem rdiv_zero (a b:List Nat) (hb:Nm.Dl 18446744073709551616 b) (lb:b.length<=2^36) (h0:Nm.val 18446744073709551616 b=0):
 Spec Tryz.prog f_ref01_Div [U a,U b] (· =[.pure (U []),.pure (U []),.pure (.i .i64 3)]):=by
 refine spec_at Tryz.func196 ok_ref01_Div [] rfl (by simp) ?_;unfold sc_ref01_Div;refine Wr ?_; simp;refine Wr ?_; simp;refine callK (rdigits_spec b hb (by omega)) ?_; simp [h0,Nm.dig_zero];refine Ws ?_; simp [U];refine WS_cT (by simp) ?_;refine Wr ?_; simp;refine WS_ret ?_; simp
theorem rdiv_spec (a b:List Nat) (ha:Nm.Dl 18446744073709551616 a) (hb:Nm.Dl 18446744073709551616 b) (la:a.length<=2^34) (lb:b.length<=2^34) (h0:Nm.val 18446744073709551616 b≠0):
 Spec Tryz.prog f_ref01_Div [U a,U b] (· =[.pure (U (Nm.dig 18446744073709551616 (Nm.val 18446744073709551616 a / Nm.val 18446744073709551616 b))),.pure (U (Nm.dig 18446744073709551616 (Nm.val 18446744073709551616 a%Nm.val 18446744073709551616 b))),.pure (.i .i64 0)]):=by
 refine spec_at Tryz.func196 ok_ref01_Div [] rfl (by simp) ?_;unfold sc_ref01_Div;have l1:=dig32_len (Nm.val_lt ha);have l2:=dig32_len (Nm.val_lt hb);have d1:=Nm.dig_lt (B:=4294967296) (by omega) (Nm.val 18446744073709551616 a);have d2:=Nm.dig_lt (B:=4294967296) (by omega) (Nm.val 18446744073709551616 b);have v1:=Nm.val_dig (B:=4294967296) (by omega) (Nm.val 18446744073709551616 a);have v2:=Nm.val_dig (B:=4294967296) (by omega) (Nm.val 18446744073709551616 b);have hpos:=Nm.dig_length_pos (B:=4294967296) (by omega) h0;have s1:=rdigits_spec a ha (by omega);have s2:=rdigits_spec b hb (by omega);obtain ⟨N,hN⟩:∃ N,N=Nm.val 18446744073709551616 a:=⟨_,rfl⟩;obtain ⟨Y,hY⟩:∃ Y,Y=Nm.val 18446744073709551616 b:=⟨_,rfl⟩;rw [<- hN] at l1 d1 v1 s1 ⊢;rw [<- hY] at l2 d2 v2 s2 h0 hpos ⊢;obtain ⟨x,hx⟩:∃ x,x=Nm.dig 4294967296 N:=⟨_,rfl⟩;obtain ⟨y,hy⟩:∃ y,y=Nm.dig 4294967296 Y:=⟨_,rfl⟩;rw [<- hx] at l1 d1 v1 s1;rw [<- hy] at l2 d2 v2 s2 hpos;clear hN hY;have hY0:0<Y:=by omega
 obtain ⟨n,hn⟩:∃ n,n=x.length:=⟨_,rfl⟩;have hNlt:N<2^(32*n):=by
  have:=Nm.val_lt d1;rw [v1,<-hn,show (4294967296:Nat)=2^32 from rfl,<-Nat.pow_mul] at this;exact this
 have hYlt:2*Y<4294967296^(y.length+1):=by
  have:=Nm.val_lt d2;rw [v2] at this;rw [Nat.pow_succ]; omega
 have w0:IntKind.i64.wrap (32*(n:Int))=32*(n:Int):=i64_int _ (by omega) (by omega);have w00:IntKind.i64.wrap (32*(n:Int)-1)=32*(n:Int)-1:=i64_int _ (by omega) (by omega);refine Wr ?_; simp [U];refine Wr ?_; simp;refine callK s2 ?_; simp;refine Ws ?_; simp [U];refine WS_cF (by simp; intro h; simp [h] at hpos) ?_;refine WS_skip ?_; simp;refine Wr ?_; simp;refine callK s1 ?_; simp;refine Wr ?_; simp [U,<-hn];refine ⟨by omega,?_⟩;refine Wr ?_; simp;refine Ws ?_; simp [<- hn,w0,w00];refine WS_block (WS_loop (λS=>∃ (j:Nat) (q:List Nat),j<=32*n/\S.σ 7= .p (.sl none (uL y))/\S.σ 8= .p (.sl none (uL x))/\S.σ 9= .own 24 1 0 n/\S.σ 10= .p (.sl none (uL (Nm.dig 4294967296 (N / 2^j%Y))))/\S.σ 11= .p (.i .i64 ((j:Int)-1))/\
  S.h 24=⟨1,some (.arr 118 none (uL q))⟩/\q.length=n/\Nm.Dl 4294967296 q/\Nm.val 4294967296 q=N / 2^j / Y*2^j)
  (λS=>match S.σ 11 with | .p (.i _ k)=>(k+1).toNat | _=>0) ⟨32*n,List.replicate n 0,by omega,by simp,by simp,by simp,by simp [Nat.div_eq_of_lt hNlt,Nm.dig_zero],by simp,by simp,by simp,Nm.Dl.replicate (by omega) _,by simp [Nat.div_eq_of_lt hNlt,Nm.val_replicate]⟩ ?_)
 rintro S ⟨j,q,hj,h7,h8,h9,h10,h11,hh,hq1,hq2,hq3⟩;refine Ws ?_; simp [h11];by_cases hp:0<j
 . obtain ⟨i,rfl⟩:∃ i,j=i+1:=⟨j-1,by omega⟩;have hi1:((i+1:Nat):Int)-1=(i:Int):=by omega
   rw [hi1] at h11;have hxlen:i / 32<x.length:=by omega
   have hqlen:i / 32<q.length:=by omega
   have hbit:=Nm.bit_val d1 i;have hxg:=d1.get (by omega) (i / 32);have hor:=Nm.or_bit hq2 hqlen hq3;have hqg:=hq2.get (by omega) (i / 32);have hM:=Nm.half_step N i;rw [v1] at hbit;have hdiv:(i:Int).tdiv 32=((i / 32:Nat):Int):=tdiv_nat i 32;have hmod:(i:Int).tmod 32=((i%32:Nat):Int):=tmod_nat i 32;have hs32:i%32<32:=Nat.mod_lt _ (by omega);have hbit1:N / 2^i%2<=1:=by omega
   obtain ⟨bit,hbitd⟩:∃ bit,bit=N / 2^i%2:=⟨_,rfl⟩;obtain ⟨M,hMd⟩:∃ M,M=N / 2^(i+1):=⟨_,rfl⟩;rw [<- hbitd] at hbit hM hbit1;rw [<- hMd] at hM h10 hq3 hor;obtain ⟨u,hu⟩:∃ u,u=i / 32:=⟨_,rfl⟩;obtain ⟨s,hs⟩:∃ s,s=i%32:=⟨_,rfl⟩;rw [<- hu] at hxlen hqlen hbit hxg hor hqg hdiv;rw [<- hs] at hbit hor hmod hs32;obtain ⟨hst1,hst2⟩:=Nm.div_step (M:=M) hY0 hbit1;rw [<- hM] at hst1 hst2;have hRlt:M%Y<Y:=Nat.mod_lt _ hY0;obtain ⟨Rv,hRv⟩:∃ Rv,Rv=M%Y:=⟨_,rfl⟩;rw [<- hRv] at hst1 hst2 hRlt h10;have hRlen:=Nm.dig_length_le (B:=4294967296) (by omega) (n:=Rv) (k:=y.length+1) (by omega);have hRd:=Nm.dig_lt (B:=4294967296) (by omega) Rv;have hRval:=Nm.val_dig (B:=4294967296) (by omega) Rv;have hR1len:=Nm.dig_length_le (B:=4294967296) (by omega) (n:=2*Rv+bit) (k:=y.length+1) (by omega);obtain ⟨R,hR⟩:∃ R,R=Nm.dig 4294967296 Rv:=⟨_,rfl⟩;rw [<- hR] at hRlen hRd hRval h10;have hxi:x.getD u 0=x[u]:=by simp [List.getD,hxlen]
   rw [hxi] at hbit hxg;have e1:=abin_shr (k:=.i64) x[u] (s:Int) s rfl (by omega);have hlt64:x[u] / 2^s<18446744073709551616:=Nat.lt_of_le_of_lt (Nat.div_le_self _ _) (by omega);have e2:=abin_bit0 (x[u] / 2^s) hlt64;rw [hbit] at e2;obtain ⟨xs,hxs⟩:∃ z,z=x[u] / 2^s:=⟨_,rfl⟩;rw [<- hxs] at e1 e2;have wu:=i64_nat u (by omega);refine WS_cT (by simp; omega) ?_;refine WS_skip ?_; simp;refine WS_seq (WS_block (WS_seq (WS_reg [12] ?_))); simp;refine Wr ?_; simp [h8,h11,hdiv,hmod,wu,hxlen,e1,e2];refine Ws ?_; simp;refine WS_block (WS_loop (λS=>∃ (k c g:Nat) (tw:List Nat),k<=R.length/\S.σ 7= .p (.sl none (uL y))/\S.σ 8= .p (.sl none (uL x))/\S.σ 9= .own 24 1 0 n/\S.σ 10= .p (.sl none (uL R))/\S.σ 11= .p (.i .i64 (i:Int))/\
    S.h 24=⟨1,some (.arr 118 none (uL q))⟩/\S.σ 12= .own 12 g 0 k/\S.h 12=⟨g,some (.arr 118 none (uL tw))⟩/\S.σ 13= .p (.i .u64 (c:Int))/\S.σ 14= .p (.i .i64 (k:Int))/\
    tw.length=k/\Nm.Dl 4294967296 tw/\c<=1/\Nm.val 4294967296 tw+4294967296^k*c=2*Nm.val 4294967296 (R.take k)+bit)
    (λS=>match S.σ 14 with | .p (.i _ k)=>R.length-k.toNat | _=>0) ⟨0,bit,_,[],by omega,by simp [h7],by simp [h8],by simp [h9],by simp [h10],by simp [h11],by simp [hh],by simp; rfl,by simp,by simp,by simp,by simp,Nm.Dl.nil _,hbit1,by simp [Nm.val]⟩ ?_)
   rintro S ⟨k,c,g,tw,hk,h7,h8,h9,h10,h11,hh,h12,hh12,h13,h14,ht1,ht2,hc,ht3⟩;refine Ws ?_; simp [h10,h14];by_cases hlt2:k<R.length
   . refine WS_cT (by simp; omega) ?_;refine WS_skip ?_; simp;have hrk:=hRd _ (List.getElem_mem hlt2);have htk:=Nm.val_take_succ 4294967296 R k;have hrg:R.getD k 0=R[k]:=by simp [List.getD,hlt2]
     rw [hrg] at htk;obtain ⟨rk,hrkd⟩:∃ rk,rk=R[k]:=⟨_,rfl⟩;rw [<- hrkd] at hrk htk;have f1:=u64_mulf rk 2 (by omega);have f1':IntKind.u64.wrap ((rk:Int)*2)=((rk*2:Nat):Int):=f1;have f2:=u64_addf (rk*2) c (by omega);have f4:=abin_mask32 (rk*2+c) (by omega);have f5:=abin_shr (k:=.u64) rk 31 31 rfl (by omega);have hcar:rk / 2^31=(rk*2+c) / 4294967296:=by omega
     rw [hcar] at f5;have hval2:Nm.val 4294967296 (tw++[(rk*2+c)%4294967296])+4294967296^(k+1)*((rk*2+c) / 4294967296)=2*Nm.val 4294967296 (R.take (k+1))+bit:=by
      rw [Nm.val_append,ht1,htk];have:4294967296^k*((rk*2+c)%4294967296)+4294967296^(k+1)*((rk*2+c) / 4294967296)=4294967296^k*(rk*2)+4294967296^k*c:=by
       rw [Nat.pow_succ,Nat.mul_assoc,<-Nat.mul_add,Nat.mod_add_div,Nat.mul_add]
      simp only [Nm.val,Nat.mul_zero,Nat.add_zero];have e:4294967296^k*(rk*2)=2*(4294967296^k*rk):=by rw [<- Nat.mul_assoc,Nat.mul_comm]
      omega
     have hc2:(rk*2+c) / 4294967296<=1:=by omega
     have hm2:(rk*2+c)%4294967296<4294967296:=Nat.mod_lt _ (by omega);obtain ⟨p,hpd⟩:∃ p,p=rk*2:=⟨_,rfl⟩;rw [<- hpd] at f1' f2 f4 f5 hval2 hc2 hm2;obtain ⟨t,htd⟩:∃ t,t=p+c:=⟨_,rfl⟩;rw [<- htd] at f2 f4 f5 hval2 hc2 hm2;obtain ⟨tl,htl⟩:∃ z,z=t%4294967296:=⟨_,rfl⟩;rw [<- htl] at f4 hval2 hm2;obtain ⟨th,hth⟩:∃ z,z=t / 4294967296:=⟨_,rfl⟩;rw [<- hth] at f5 hval2 hc2;have w2:=i64_succ k (by omega);refine WS_seq (WS_block (Wr ?_)); simp [h10,h12,h13,h14,hh12,hlt2,<-hrkd,f1',f2,f4,ht1,take_all' ht1];refine ⟨by omega,?_⟩;refine WS_reg [] ?_; simp [h10,h14,hlt2,<-hrkd,f5];refine WS_reg [] ?_; simp [h7,h8,h9,h10,h11,hh,h14,w2];refine ⟨⟨k+1,by omega,th,_,⟨rfl,rfl⟩,tw++[tl],⟨rfl,rfl⟩,rfl,rfl,by simp [ht1],ht2.append (Nm.Dl.cons hm2 (Nm.Dl.nil _)),hc2,hval2⟩,by omega⟩
   . have hk':k=R.length:=by omega
     refine WS_cF (by simp; omega) ?_;refine WS_exit ?_; simp;rw [Nm.take_all (by omega),hRval] at ht3;have hdl:Nm.Dl 4294967296 (tw++[c]):=ht2.append (Nm.Dl.cons (by omega) (Nm.Dl.nil _));have hval:Nm.val 4294967296 (tw++[c])=2*Rv+bit:=by
      rw [Nm.val_append,ht1]; simp only [Nm.val,Nat.mul_zero,Nat.add_zero]; exact ht3
     have htrim:Nm.trim (tw++[c])=Nm.dig 4294967296 (2*Rv+bit):=by rw [<- Nm.dig_val (by omega) hdl,hval]
     refine WS_seq (WS_reg [67] ?_); simp [h12,h13,hh12,ht1,take_all' ht1];refine ⟨by omega,?_⟩;refine callK (rcut_spec (tw++[c]) (by simp; omega)) ?_;rw [htrim];simp;have hR1d:=Nm.dig_lt (B:=4294967296) (by omega) (2*Rv+bit);have hR1v:=Nm.val_dig (B:=4294967296) (by omega) (2*Rv+bit);refine Wr ?_; simp [h7];refine callK (rcompare_spec _ _ hR1d d2 (by omega) (by omega)) ?_;rw [hR1v,v2];by_cases hge:Y<=2*Rv+bit
     . obtain ⟨q1,q2⟩:=hst1 hge;obtain ⟨o1,o2⟩:=hor;have hcmp:0<=Nm.cmpN (2*Rv+bit) Y:=by
        unfold Nm.cmpN; rw [if_neg (by omega)]; split<;>omega
       have hlen:=Nm.dig_length_mono (B:=4294967296) (by omega) hge;rw [<- hy] at hlen;have e3:=abin_shl (k:=.i64) 1 (s:Int) s rfl (by omega);have h2s:2^s<2^64:=Nat.pow_lt_pow_right (by omega) (by omega);rw [Nat.one_mul,Nat.mod_eq_of_lt h2s] at e3;have e3':abin .shl (.i .u64 1) (.i .i64 (s:Int))=some (True,.i .u64 ((2^s:Nat):Int)):=e3;have e4:=abin_or (q.getD u 0) (2^s) (by omega) h2s;have hqu:q.getD u 0=q[u]:=by simp [List.getD,hqlen]
       rw [hqu] at o1 o2 e4;obtain ⟨Z,hZ⟩:∃ Z,Z=2^s:=⟨_,rfl⟩;rw [<- hZ] at e3' e4 o1 o2;obtain ⟨W,hW⟩:∃ W,W=q[u] ||| Z:=⟨_,rfl⟩
       rw [<- hW] at e4 o1 o2;have hun:u<n:=by omega
       simp [hcmp];refine WS_cT (by simp) ?_;refine Wr ?_; simp [h7];refine callK (rless_spec _ _ hR1d d2 (by omega) hlen (by rw [hR1v,v2]; exact hge)) ?_;rw [hR1v,v2,<-q2];simp;refine WS_regD [] ?_; simp [h9,h11,hh,hdiv,hmod,wu,hqlen,hun,e3',e4];refine ⟨rfl,?_⟩;have w3:IntKind.i64.wrap ((i:Int)-1)=(i:Int)-1:=i64_int _ (by omega) (by omega);refine WS_reg [] ?_; simp [h7,h8,h9,h11,w3];refine ⟨i,by omega,rfl,rfl,q.set u W,rfl,by simp [hq1],hq2.set o1 _,?_⟩;rw [o2,q1,Nat.add_mul,Nat.one_mul,Nat.pow_succ,Nat.mul_comm (2^i) 2,<-Nat.mul_assoc,Nat.mul_comm (M / Y) 2]
     . obtain ⟨q1,q2⟩:=hst2 (by omega);have hcmp:Nm.cmpN (2*Rv+bit) Y= -1:=by
        unfold Nm.cmpN; rw [if_pos (by omega)]
       rw [<- q2];rw [<- q2] at hcmp;simp [hcmp];refine WS_cF (by simp) ?_;refine WS_skip ?_; simp;have w3:IntKind.i64.wrap ((i:Int)-1)=(i:Int)-1:=i64_int _ (by omega) (by omega);refine WS_reg [] ?_; simp [h7,h8,h9,h11,hh,w3];refine ⟨i,by omega,rfl,rfl,q,rfl,hq1,hq2,?_⟩;rw [hq3,q1,Nat.pow_succ,Nat.mul_comm (2^i) 2,<-Nat.mul_assoc,Nat.mul_comm (M / Y) 2]
 . have hj0:j=0:=by omega
   subst hj0;simp at h10 hq3;refine WS_cF (by simp) ?_;refine WS_exit ?_; simp;refine WS_frz 24 9 none ?_;simp [frzQ,h9,hh,hq1,take_all' hq1];refine Wr ?_; simp;refine callK (rlimbs_spec q hq2 (by omega)) ?_;rw [hq3];simp [h10];have hlr:=Nm.dig_length_le (B:=4294967296) (by omega) (n:=N%Y) (k:=y.length+1) (by have:=Nat.mod_lt N hY0; omega);refine callK (rlimbs_spec (Nm.dig 4294967296 (N%Y)) (Nm.dig_lt (by omega) _) (by omega)) ?_;rw [Nm.val_dig (by omega)];simp;refine WS_ret ?_; simp [U]
theorem WS_cut {P:Program} {n:Nat} {x y:SC} {Q:Exit->St->Prop} {S:St} (I:St->Prop) (h1:WS P n x (λe S=>e= .normal/\I S) S) (h2:∀ S,I S->WS P n y Q S):WS P n (.seq x y) Q S:=by
 refine WS_seq (h1.mono ?_);rintro e S ⟨rfl,hi⟩;exact h2 S hi
theorem uL_cons (x:Nat) (l:List Nat):uL (x::l)=V.i .u64 (x:Int)::uL l:=rfl
theorem clone_spec (a:List Nat) (hl:a.length<=2^40):Spec Tryz.prog f_slices_Clone_Luint64_uint64 [U a] (· =[.pure (U a)]):=by
 refine spec_at Tryz.func172 ok_slices_Clone_Luint64_uint64 [] rfl (by simp) ?_;unfold sc_slices_Clone_Luint64_uint64 U;refine Wr ?_; simp;refine Ws ?_;cases a with
 | nil=>
  simp;refine WS_either (by simp) ?_ ?_
  . refine Wr ?_; simp;refine WS_ret ?_; simp
  . refine WS_skip ?_; simp;refine WS_seq (WS_reg [5,7] ?_); simp;refine WS_ret ?_; simp
 | cons x r=>
  simp [uL_cons];refine WS_cF (by simp) ?_;refine WS_skip ?_; simp;refine WS_seq (WS_reg [5,7] ?_); simp;simp at hl;refine ⟨by omega,?_⟩;refine WS_ret ?_; simp
theorem nnorm_spec (a:List Nat) (hl:a.length<=2^40):Spec Tryz.prog f_nat_Norm [U a] (· =[.pure (U (Nm.trim a))]):=by
 refine spec_at Tryz.func124 ok_nat_Norm [] rfl (by simp) ?_;unfold sc_nat_Norm;have:=Nm.trim_length_le a;refine Wr ?_; simp;refine Wr ?_; simp;refine callK (plain_spec a (by omega)) ?_; simp;refine callK (clone_spec _ (by omega)) ?_; simp;refine WS_ret ?_; simp
theorem isNaN_int_spec (m:Int):Spec Tryz.prog f_cmp_isNaN_int [.i .i64 m] (· =[.pure (.b false)]):=by
 refine spec_at Tryz.func209 ok_cmp_isNaN_int [] rfl (by simp) ?_;unfold sc_cmp_isNaN_int;refine Wr ?_; simp;refine Wr ?_; simp;refine WS_ret ?_; simp
theorem isNaN_u64_spec (m:Int):Spec Tryz.prog f_cmp_isNaN_uint64 [.i .u64 m] (· =[.pure (.b false)]):=by
 refine spec_at Tryz.func210 ok_cmp_isNaN_uint64 [] rfl (by simp) ?_;unfold sc_cmp_isNaN_uint64;refine Wr ?_; simp;refine Wr ?_; simp;refine WS_ret ?_; simp
theorem ccmp_int_spec (m n:Nat):Spec Tryz.prog f_cmp_Compare_int [.i .i64 (m:Int),.i .i64 (n:Int)] (· =[.pure (.i .i64 (Nm.cmpN m n))]):=by
 refine spec_at Tryz.func179 ok_cmp_Compare_int [] rfl (by simp) ?_;unfold sc_cmp_Compare_int Nm.cmpN;refine Wr ?_; simp;refine Wr ?_; simp;refine callK (isNaN_int_spec _) ?_; simp;refine Wr ?_; simp;refine callK (isNaN_int_spec _) ?_; simp;refine Ws ?_; simp;refine WS_cF (by simp) (WS_skip ?_);simp;refine Ws ?_; simp;refine WS_cF (by simp) (WS_skip ?_);simp;refine Ws ?_; simp;by_cases h1:m<n
 . refine WS_cT (by simp [h1]) ?_;refine Wr ?_; simp;refine WS_ret ?_; simp [h1]
 . refine WS_cF (by simp; omega) (WS_skip ?_);simp;refine Ws ?_; simp;by_cases h2:n<m
   . refine WS_cT (by simp [h2]) ?_;refine Wr ?_; simp;refine WS_ret ?_; simp [h1,h2]
   . refine WS_cF (by simp; omega) (WS_skip ?_);simp;refine Wr ?_; simp;refine WS_ret ?_; simp [h1,h2]
theorem ccmp_u64_spec (m n:Nat):Spec Tryz.prog f_cmp_Compare_uint64 [.i .u64 (m:Int),.i .u64 (n:Int)] (· =[.pure (.i .i64 (Nm.cmpN m n))]):=by
 refine spec_at Tryz.func180 ok_cmp_Compare_uint64 [] rfl (by simp) ?_;unfold sc_cmp_Compare_uint64 Nm.cmpN;refine Wr ?_; simp;refine Wr ?_; simp;refine callK (isNaN_u64_spec _) ?_; simp;refine Wr ?_; simp;refine callK (isNaN_u64_spec _) ?_; simp;refine Ws ?_; simp;refine WS_cF (by simp) (WS_skip ?_);simp;refine Ws ?_; simp;refine WS_cF (by simp) (WS_skip ?_);simp;refine Ws ?_; simp;by_cases h1:m<n
 . refine WS_cT (by simp [h1]) ?_;refine Wr ?_; simp;refine WS_ret ?_; simp [h1]
 . refine WS_cF (by simp; omega) (WS_skip ?_);simp;refine Ws ?_; simp;by_cases h2:n<m
   . refine WS_cT (by simp [h2]) ?_;refine Wr ?_; simp;refine WS_ret ?_; simp [h1,h2]
   . refine WS_cF (by simp; omega) (WS_skip ?_);simp;refine Wr ?_; simp;refine WS_ret ?_; simp [h1,h2]
theorem ncmp_spec (a b:List Nat) (ha:Nm.Dl 18446744073709551616 a) (hb:Nm.Dl 18446744073709551616 b) (la:a.length<=2^40) (lb:b.length<=2^40):
 Spec Tryz.prog f_nat_Cmp [U a,U b] (· =[.pure (.i .i64 (Nm.cmpN (Nm.val 18446744073709551616 a) (Nm.val 18446744073709551616 b)))]):=by
 refine spec_at Tryz.func130 ok_nat_Cmp [] rfl (by simp) ?_;unfold sc_nat_Cmp;have p1:=plain_spec a (by omega);have p2:=plain_spec b (by omega);have l1:=Nm.trim_length_le a;have l2:=Nm.trim_length_le b;rw [<- Nm.dig_val (by omega) ha] at p1 l1;rw [<- Nm.dig_val (by omega) hb] at p2 l2;obtain ⟨va,hva⟩:∃ v,v=Nm.val 18446744073709551616 a:=⟨_,rfl⟩;obtain ⟨vb,hvb⟩:∃ v,v=Nm.val 18446744073709551616 b:=⟨_,rfl⟩;rw [<- hva] at p1 l1 ⊢;rw [<- hvb] at p2 l2 ⊢;have d1:=Nm.dig_lt (B:=18446744073709551616) (by omega) va;have d2:=Nm.dig_lt (B:=18446744073709551616) (by omega) vb;have v1:=Nm.val_dig (B:=18446744073709551616) (by omega) va;have v2:=Nm.val_dig (B:=18446744073709551616) (by omega) vb;have hlt1:(Nm.dig 18446744073709551616 va).length<(Nm.dig 18446744073709551616 vb).length->va<vb:=λh=>by
  by_cases hle:vb<=va
  . have:=Nm.dig_length_mono (B:=18446744073709551616) (by omega) hle; omega
  . omega
 have hlt2:(Nm.dig 18446744073709551616 vb).length<(Nm.dig 18446744073709551616 va).length->vb<va:=λh=>by
  by_cases hle:va<=vb
  . have:=Nm.dig_length_mono (B:=18446744073709551616) (by omega) hle; omega
  . omega
 obtain ⟨x,hx⟩:∃ x,x=Nm.dig 18446744073709551616 va:=⟨_,rfl⟩;obtain ⟨y,hy⟩:∃ y,y=Nm.dig 18446744073709551616 vb:=⟨_,rfl⟩;rw [<- hx] at p1 l1 d1 v1 hlt1 hlt2;rw [<- hy] at p2 l2 d2 v2 hlt1 hlt2;refine Wr ?_; simp;refine Wr ?_; simp;refine callK p1 ?_; simp;refine callK p2 ?_; simp;refine Ws ?_; simp [U];by_cases hl:x.length=y.length
 . refine WS_cF (by simp [hl]) (WS_skip ?_);simp;have hc:=Nm.cmpF_val (B:=18446744073709551616) (by omega) d1 d2 x.length;rw [Nm.take_all (by omega),Nm.take_all (by omega),v1,v2] at hc;rw [<- hc];obtain ⟨n,hn⟩:∃ n,n=x.length:=⟨_,rfl⟩;rw [<- hn] at hl l1 ⊢;have w0:IntKind.i64.wrap ((n:Int)-1)=(n:Int)-1:=i64_int _ (by omega) (by omega);refine Ws ?_; simp [<- hn,w0];refine WS_block (WS_loop (λS=>∃ k:Nat,k<=n/\S.σ 0= .p (.sl none (uL x))/\S.σ 1= .p (.sl none (uL y))/\S.σ 5= .p (.i .i64 ((k:Int)-1))/\Nm.cmpF x y n=Nm.cmpF x y k) (λS=>match S.σ 5 with | .p (.i _ n)=>(n+1).toNat | _=>0) ⟨n,by omega,by simp,by simp,by simp,rfl⟩ ?_);rintro S ⟨k,hk,h0,h1,h5,hcm⟩;refine Ws ?_; simp [h5];by_cases hp:0<k
   . obtain ⟨j,rfl⟩:∃ j,k=j+1:=⟨k-1,by omega⟩;have hj:((j+1:Nat):Int)-1=(j:Int):=by omega
     rw [hj] at h5;have hjx:j<x.length:=by omega
     have hjy:j<y.length:=by omega
     refine WS_cT (by simp; omega) ?_;refine WS_skip ?_; simp;obtain ⟨p,hpd⟩:∃ p,p=x[j]:=⟨_,rfl⟩;obtain ⟨q,hqd⟩:∃ q,q=y[j]:=⟨_,rfl⟩;have hF:Nm.cmpF x y (j+1)=if p<q then -1 else if p>q then 1 else Nm.cmpF x y j:=by simp [Nm.cmpF,List.getD,hjx,hjy,hpd,hqd]
     have hF':p≠q->Nm.cmpF x y (j+1)=Nm.cmpN p q:=λhne=>by
      rw [hF]; unfold Nm.cmpN;by_cases hlt:p<q
      . rw [if_pos hlt,if_pos hlt]
      . rw [if_neg hlt,if_neg hlt,if_pos (by omega),if_pos (by omega)]
     refine WS_seq (WS_block (WS_seq (WS_regD [] ?_))); simp [h0,h1,h5,hjx,hjy,<-hpd,<-hqd];refine ⟨rfl,?_⟩;by_cases heq:p=q
     . refine WS_cF (by simp [heq]) (WS_skip ?_);simp;have w1:IntKind.i64.wrap ((j:Int)-1)=(j:Int)-1:=i64_int _ (by omega) (by omega);refine WS_reg [] ?_; simp [h0,h1,h5,w1];refine ⟨j,by omega,rfl,?_⟩;rw [hcm,hF,if_neg (by omega),if_neg (by omega)]
     . refine WS_cT (by simp; omega) ?_;refine WS_seq (WS_regD [] ?_); simp [h0,h1,h5,hjx,hjy,<-hpd,<-hqd];refine callD (ccmp_u64_spec p q) rfl ?_; simp;refine ⟨rfl,?_⟩;refine WS_ret ?_; simp [hcm,hF' heq]
   . have hk0:k=0:=by omega
     subst hk0;refine WS_cF (by simp) ?_;refine WS_exit ?_; simp;refine Wr ?_; simp;refine WS_ret ?_; simp [hcm,Nm.cmpF]
 . refine WS_cT (by simp; omega) ?_;refine Wr ?_; simp;refine callK (ccmp_int_spec x.length y.length) ?_; simp;refine WS_ret ?_; simp;unfold Nm.cmpN;by_cases h1:x.length<y.length
   . rw [if_pos h1,if_pos (hlt1 h1)]
   . have h2:=hlt2 (by omega);rw [if_neg h1,if_pos (by omega),if_neg (by omega),if_pos h2]
def len8T:List UInt8:=[0,1,2,2,3,3,3,3,4,4,4,4,4,4,4,4,5,5,5,5,5,5,5,5,5,5,5,5,5,5,5,5,6,6,6,6,6,6,6,6,6,6,6,6,6,6,6,6,6,6,6,6,6,6,6,6,6,6,6,6,6,6,6,6,7,7,7,7,7,7,7,7,7,7,7,7,7,7,7,7,7,7,7,7,7,7,7,7,7,7,7,7,7,7,7,7,7,7,7,7,7,7,7,7,7,7,7,7,7,7,7,7,7,7,7,7,7,7,7,7,7,7,7,7,7,7,7,7,8,8,8,8,8,8,8,8,8,8,8,8,8,8,8,8,8,8,8,8,8,8,8,8,8,8,8,8,8,8,8,8,8,8,8,8,8,8,8,8,8,8,8,8,8,8,8,8,8,8,8,8,8,8,8,8,8,8,8,8,8,8,8,8,8,8,8,8,8,8,8,8,8,8,8,8,8,8,8,8,8,8,8,8,8,8,8,8,8,8,8,8,8,8,8,8,8,8,8,8,8,8,8,8,8,8,8,8,8,8,8,8,8,8,8,8,8,8,8,8,8,8,8,8,8,8,8,8]
theorem len8T_eq:∀ n:Fin 256,((len8T[n.val]?).getD 0).toNat=Lib.bitLen n.val:=by decide +kernel
theorem len8T_size:len8T.length=256:=by decide +kernel
theorem bitLen_8:∀ n:Fin 256,Lib.bitLen n.val<=8:=by decide +kernel
theorem bitLen_zero:Lib.bitLen 0=0:=by decide +kernel
theorem bitLen_spec:∀ (x:Nat),x≠0->x<2^64->x<2^Lib.bitLen x/\2^Lib.bitLen x<=2*x:=by
 intro x;induction x using Nat.strongRecOn with
 | _ x ih=>
  intro h0 hx;rw [Lib.bitLen_half x h0 hx,Nat.add_comm,Nat.pow_succ];by_cases h1:x / 2=0
  . rw [h1,bitLen_zero]; omega
  . have:=ih (x / 2) (by omega) h1 (by omega);omega
theorem len64_spec (x:Nat) (hx:x<18446744073709551616):Spec Tryz.prog f_bits_Len64 [.i .u64 (x:Int)] (· =[.pure (.i .i64 ((Lib.bitLen x:Nat):Int))]):=by
 refine spec_at Tryz.func183 ok_bits_Len64 [] rfl (by simp) ?_;unfold sc_bits_Len64;obtain ⟨T,hT⟩:∃ T:ByteArray,T=⟨⟨len8T⟩⟩:=⟨_,rfl⟩;have hTs:T.size=256:=by rw [hT]; exact len8T_size
 have hTl:∀ k:Nat,T.data[k]? =len8T[k]? :=λk=>by rw [hT]; exact List.getElem?_toArray
 unfold len8T at hT;rw [<- hT];clear hT;refine Wr ?_; simp;refine WS_cut (λS=>∃ y n:Nat,S.σ 0= .p (.i .u64 (y:Int))/\S.σ 2= .p (.i .i64 (n:Int))/\y<2^32/\n<=32/\n+Lib.bitLen y=Lib.bitLen x) ?_ ?_
 . refine Wr ?_; simp;by_cases h:4294967296<=x
   . have e1:=abin_shr (k:=.u64) x 32 32 rfl (by omega);have hb:=Lib.bitLen_shift32 x h hx;refine WS_cT (by simp; omega) ?_;obtain ⟨y,hy⟩:∃ y,y=x / 2^32:=⟨_,rfl⟩;have hy':y=x / 4294967296:=hy;rw [<- hy] at e1;rw [<- hy'] at hb;refine Wr ?_; simp [e1];refine WS_reg [] ?_; simp;exact ⟨y,rfl,32,rfl,by omega,by omega,by omega⟩
   . refine WS_cF (by simp; omega) (WS_skip ?_);simp;exact ⟨x,rfl,0,rfl,by omega,by omega,by omega⟩
 rintro S ⟨y,n,h0,h2,hy,hn,hb⟩;refine WS_cut (λS=>∃ y n:Nat,S.σ 0= .p (.i .u64 (y:Int))/\S.σ 2= .p (.i .i64 (n:Int))/\y<2^16/\n<=48/\n+Lib.bitLen y=Lib.bitLen x) ?_ ?_
 . refine Wr ?_; simp [h0];by_cases h:65536<=y
   . have e1:=abin_shr (k:=.u64) y 16 16 rfl (by omega);have hb2:=Lib.bitLen_shift16 y h (by omega);have w1:IntKind.i64.wrap ((n:Int)+16)=(n:Int)+16:=i64_int _ (by omega) (by omega);refine WS_cT (by simp; omega) ?_;obtain ⟨z,hz⟩:∃ z,z=y / 2^16:=⟨_,rfl⟩;have hz':z=y / 65536:=hz;rw [<- hz] at e1;rw [<- hz'] at hb2;refine Wr ?_; simp [h0,e1];refine WS_reg [] ?_; simp [h2,w1];exact ⟨z,rfl,n+16,rfl,by omega,by omega,by omega⟩
   . refine WS_cF (by simp; omega) (WS_skip ?_);simp [h0,h2];exact ⟨y,rfl,n,rfl,by omega,by omega,by omega⟩
 clear h0 h2 hy hn hb y n S;rintro S ⟨y,n,h0,h2,hy,hn,hb⟩;refine WS_cut (λS=>∃ y n:Nat,S.σ 0= .p (.i .u64 (y:Int))/\S.σ 2= .p (.i .i64 (n:Int))/\y<2^8/\n<=56/\n+Lib.bitLen y=Lib.bitLen x) ?_ ?_
 . refine Wr ?_; simp [h0];by_cases h:256<=y
   . have e1:=abin_shr (k:=.u64) y 8 8 rfl (by omega);have hb2:=Lib.bitLen_shift8 y h (by omega);have w1:IntKind.i64.wrap ((n:Int)+8)=(n:Int)+8:=i64_int _ (by omega) (by omega);refine WS_cT (by simp; omega) ?_;obtain ⟨z,hz⟩:∃ z,z=y / 2^8:=⟨_,rfl⟩;have hz':z=y / 256:=hz;rw [<- hz] at e1;rw [<- hz'] at hb2;refine Wr ?_; simp [h0,e1];refine WS_reg [] ?_; simp [h2,w1];exact ⟨z,rfl,n+8,rfl,by omega,by omega,by omega⟩
   . refine WS_cF (by simp; omega) (WS_skip ?_);simp [h0,h2];exact ⟨y,rfl,n,rfl,by omega,by omega,by omega⟩
 clear h0 h2 hy hn hb y n S;rintro S ⟨y,n,h0,h2,hy,hn,hb⟩;have wt:=len8T_eq ⟨y,by omega⟩;have wl:=bitLen_8 ⟨y,by omega⟩;simp only at wt wl;obtain ⟨z,hz⟩:∃ z,z=Lib.bitLen y:=⟨_,rfl⟩;rw [<- hz] at hb wt wl;have w0:IntKind.u8.wrap (y:Int)=(y:Int):=Go.IntWalk.u8_in _ (by omega);have w1:IntKind.i64.wrap (z:Int)=(z:Int):=i64_nat z (by omega);have w2:IntKind.i64.wrap ((n:Int)+z)=(n:Int)+z:=i64_int _ (by omega) (by omega);have hTg:(T.data[y]?.getD 0).toNat=z:=by rw [hTl y,<-wt]
 have hy256:y<256:=by omega
 have hy256':(y:Int)<256:=by omega
 refine Wr ?_; simp [h0,h2,w0,hTs,hTg,hy256',w1,w2];refine WS_ret ?_; simp;omega
end Go.Vw
