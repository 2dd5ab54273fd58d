/- The layer of limbs: sums, differences, products, shifts, order. -/
import Derived.Test.YtfdjbmamidmgfaaNA
import Derived.Test.YtfdjbmamidmgfaaN2
import Derived.Test.YtfdjbmamidmgfaaS1
import Derived.Lib.BitFns
set_option linter.unusedVariables false
set_option linter.unusedSimpArgs false
namespace Go.Vw
open Go.Proofs
def uL (l:List Nat):List V:=l.map fun x:Nat=>V.i .u64 (x:Int)
def U (l:List Nat):V:=.sl none (uL l)
theorem uL_length (l:List Nat):(uL l).length=l.length:=by simp [uL]
theorem uL_get? (l:List Nat) (k:Nat):(uL l)[k]? =(l[k]?).map fun x:Nat=>V.i .u64 (x:Int):=by simp [uL]
theorem uL_get (l:List Nat) (k:Nat) (h:k<(uL l).length):(uL l)[k]=V.i .u64 ((l[k]'(by simpa [uL] using h):Nat):Int):=by simp [uL]
theorem uL_take (l:List Nat) (k:Nat):(uL l).take k=uL (l.take k):=by simp [uL]
theorem uL_drop (l:List Nat) (k:Nat):(uL l).drop k=uL (l.drop k):=by simp [uL]
theorem uL_append (l m:List Nat):uL l++uL m=uL (l++m):=by simp [uL]
theorem uL_set (l:List Nat) (k x:Nat):(uL l).set k (V.i .u64 (x:Int))=uL (l.set k x):=by simp [uL]
theorem uL_replicate (k:Nat):List.replicate k (V.i .u64 0)=uL (List.replicate k 0):=by simp [uL]
theorem uL_snoc (l:List Nat) (x:Nat):uL l++[V.i .u64 (x:Int)]=uL (l++[x]):=by simp [uL]
theorem take_all' {l:List Nat} {n:Nat} (h:l.length=n):l.take n=l:=List.take_of_length_le (by rw [h]; exact Nat.le_refl _)
theorem uL_nil:uL []=[]:=rfl
attribute [simp] RunL_cons RunL_nil AOp_none AOp_some acK_v acK_call agK_tt agK_ff agK_tf agK_ft agK_tup agK_i aop aun St.ev St.heap St.put thenQ blockQ scopeQ upd_apply S0 argSlot lowV V.cells V.isAgg V.fits V.part partOk plains St.ret retSV svOf svsOf retQ retP retAll retOne St.elems retH ownIdx ownAt
attribute [simp] RunD_none RunD_some RunD_nil RunE_any acD_v acD_call agD_tt agD_ff agD_tf agD_ft agD_tup entsOf svref SO.opds SO.writes SO.makes callEnt pureSV pureOf RV.isOwn
attribute [simp] abin_add abin_sub abin_mul abin_quo abin_rem abin_eql abin_neq abin_lss abin_leq abin_gtr abin_geq
attribute [simp] acK_callG acD_callG St.giv gsSV gvSV retEnts ownEnts SO.still
attribute [simp] S0G argSlotG givSV retQG retPG retAllG retOneG HObj.width HObj.wide V.scalar trimQ V.byte
attribute [simp] uL_length uL_get? uL_get uL_snoc uL_set uL_take uL_drop uL_append uL_replicate uL_nil
theorem at_spec (a:List Nat) (k:Int) (h0:0<=k):Spec Try.prog f_nat_at [U a,.i .i64 k] (· =[.pure (.i .u64 ((a.getD k.toNat 0:Nat):Int))]):=by
 refine spec_at Try.func80 ok_nat_at [] rfl (by simp) ?_;unfold sc_nat_at U;refine Wr ?_; simp;refine Ws ?_; simp;refine WS_cond (by simp; rfl) (fun h=>?_) (fun h=>?_)
 . have hk:k<a.length:=by simpa using h
   refine Wr ?_;have hk':k.toNat<a.length:=by omega
   simp [h0,hk,hk'];refine WS_ret ?_; simp
 . have hk:¬ k<a.length:=by simpa using h
   refine WS_skip ?_; simp;refine Wr ?_; simp;refine WS_ret ?_;have hk':a.length<=k.toNat:=by omega
   simp [hk']
theorem trim_take_zero {l:List Nat} (hp:0<l.length) (h:l.getD (l.length-1) 0=0):Nm.trim (l.take (l.length-1))=Nm.trim l:=by
 have hg:l[l.length-1]'(by omega)=0:=by simpa [List.getD,show l.length-1<l.length by omega] using h
 have e:l.take (l.length-1)++[0]=l:=by
  have:=List.take_append_getElem (l:=l) (i:=l.length-1) (by omega);rw [hg] at this;rw [this];exact List.take_of_length_le (by omega)
 rw [<- Nm.trim_snoc_zero,e]
theorem trim_last {l:List Nat} (hp:0<l.length) (h:l.getD (l.length-1) 0≠0):Nm.trim l=l:=by
 have hg:l[l.length-1]'(by omega)≠0:=by simpa [List.getD,show l.length-1<l.length by omega] using h
 have e:l.take (l.length-1)++[l[l.length-1]'(by omega)]=l:=by
  have:=List.take_append_getElem (l:=l) (i:=l.length-1) (by omega);rw [this];exact List.take_of_length_le (by omega)
 rw [<- e,Nm.trim_snoc _ hg]
theorem plain_spec (a:List Nat) (hl:a.length<=2^62):Spec Try.prog f_nat_plain [U a] (· =[.pure (U (Nm.trim a))]):=by
 refine spec_at Try.func71 ok_nat_plain [] rfl (by simp) ?_;unfold sc_nat_plain U;refine Wr ?_; simp;refine WS_seq (WS_block (WS_loop (fun S=>∃ l,S.σ 0= .p (.sl none (uL l))/\Nm.trim l=Nm.trim a/\l.length<=2^62) (fun S=>match S.σ 0 with | .p (.sl _ xs)=>xs.length | _=>0) ⟨a,rfl,rfl,hl⟩ ?_));rintro S ⟨l,h0,ht,hl⟩;refine Ws ?_;by_cases hp:0<l.length
 . have hw:=i64_pred l.length (by omega) hp;have hlt:l.length-1<l.length:=by omega
   simp [h0,hp,hw,hlt];refine WS_cond (by simp; rfl) (fun h=>?_) (fun h=>?_)
   . have hz:l[l.length-1]=0:=by simpa using h
     refine WS_skip ?_; simp;refine WS_block (WS_reg [] ?_); simp [h0,hw];refine ⟨⟨l.take (l.length-1),rfl,by rw [trim_take_zero hp (by simp [List.getD,hlt,hz]),ht],by simp; omega⟩,hlt⟩
   . have hz:l[l.length-1]≠0:=by simpa using h
     refine WS_exit ?_; simp;refine Wr ?_; simp [h0];refine WS_ret ?_; simp;rw [<- ht,trim_last hp (by simp [List.getD,hlt,hz])]
 . have hl0:l=[]:=List.eq_nil_of_length_eq_zero (by omega);subst hl0;simp [h0];refine WS_cond (by simp; rfl) (fun h=>by simp at h) (fun h=>?_);refine WS_exit ?_; simp;refine Wr ?_; simp [h0];refine WS_ret ?_; simp;rw [<- ht]; rfl
theorem moved_spec (a:List Nat) (n:Nat) (hl:a.length<=2^40) (hn:n<=2^40):Spec Try.prog f_nat_moved [U a,.i .i64 (n:Int)] (· =[.pure (U (List.replicate n 0++a))]):=by
 refine spec_at Try.func74 ok_nat_moved [] rfl (by simp) ?_;unfold sc_nat_moved U;refine Wr ?_; simp;refine WS_seq (WS_reg [8] ?_); simp;refine ⟨by omega,by omega,?_⟩;refine WS_ret ?_; simp
theorem set_fill (l:List Nat) (m v:Nat) {k:Nat} (hl:l.length=k) (hm:0<m):(l++List.replicate m 0).set k v=l++[v]++List.replicate (m-1) 0:=by
 subst hl;obtain ⟨j,rfl⟩:∃ j,m=j+1:=⟨m-1,by omega⟩;simp [List.set_append_right,List.replicate_succ]
theorem carried_spec (n:Nat) (hn:n<=2^40) (f:FuncId) (caps:List V) (F:Nat->Nat->Nat × Nat) (I:Nat->Prop) (h0:I 0)
 (hF:∀ k c,k<n->I c->Spec Try.prog f ([.i .i64 (k:Int),.i .u64 (c:Int)]++caps) (· =[.pure (.i .u64 ((F k c).1:Nat)),.pure (.i .u64 ((F k c).2:Nat))])/\I (F k c).2):
 Spec Try.prog f_nat_carried [.i .i64 (n:Int),.clo f caps] (· =[.own 68 none (uL (Nm.crun F n).1),.pure (.i .u64 ((Nm.crun F n).2:Nat))]):=by
 refine spec_at Try.func77 ok_nat_carried [true] rfl (by simp) ?_;unfold sc_nat_carried;refine Wr ?_; simp;refine Wr ?_; simp;refine ⟨by omega,?_⟩;refine Wr ?_; simp;refine Ws ?_; simp;refine WS_block (WS_loop (fun S=>∃ k,k<=n/\I (Nm.crun F k).2/\S.σ 1= .p (.clo f caps)/\S.σ 6= .own 10 1 0 n/\S.σ 7= .p (.i .u64 ((Nm.crun F k).2:Nat))/\S.σ 12= .p (.i .i64 (n:Int))/\S.σ 13= .p (.i .i64 (k:Int))/\
  S.h 10=⟨1,some (.arr 68 none (uL ((Nm.crun F k).1++List.replicate (n-k) 0)))⟩) (fun S=>match S.σ 13 with | .p (.i _ k)=>n-k.toNat | _=>0) ?_ ?_)
 . exact ⟨0,by omega,h0,by simp [Nm.crun]⟩
 rintro S ⟨k,hk,hI,h1,h6,h7,h12,h13,h10⟩;refine Wr ?_; simp [h12,h13];by_cases hlt:k<n
 . refine WS_seq (WS_cond (by simp [hlt]; rfl) (fun h=>?_) (fun h=>by simp at h));refine WS_skip ?_; simp;refine WS_seq (WS_block (Wr ?_)); simp [h13];refine WS_reg [] ?_; simp [h1,h6,h7,h13];obtain ⟨hs,hI'⟩:=hF k _ hlt hI;refine callK (hs) ?_; simp [h6,h7,h10,hlt,Nm.crun_length];have hw:=i64_succ k (by omega);refine ⟨by omega,?_⟩;refine WS_reg [] ?_; simp [h1,h6,h7,h12,h13,hw];refine ⟨⟨k+1,by omega,hI',rfl,rfl,?_⟩,by omega⟩;congr 1;have hsf:=set_fill (Nm.crun F k).1 (n-k) (F k (Nm.crun F k).2).1 (Nm.crun_length F k) (by omega);rw [List.set_append_right _ _ (by rw [Nm.crun_length]; exact Nat.le_refl _)] at hsf;simp only [Nm.crun_length,Nat.sub_self] at hsf;rw [hsf];simp [Nm.crun,Nat.sub_sub]
 . have hk':k=n:=by omega
   subst hk';refine WS_seq (WS_cF (by simp) ?_);refine WS_exit ?_; simp;refine Wr ?_; simp [h6,h7];refine WS_ret ?_; simp [h10,Nm.crun_length,take_all' (Nm.crun_length F k)]
theorem add1_spec (a b:List Nat) (k c:Nat) (hc:c<=1):Spec Try.prog f_nat_Add_1 ([.i .i64 (k:Int),.i .u64 (c:Int)]++[.ref none (U a),.ref none (U b)]) (· =[.pure (.i .u64 ((Nm.addF 18446744073709551616 a b k c).1:Nat)),.pure (.i .u64 ((Nm.addF 18446744073709551616 a b k c).2:Nat))]):=by
 refine spec_at Try.func78 ok_nat_Add_1 [] rfl (by simp) ?_;unfold sc_nat_Add_1;refine Wr ?_; simp;refine WS_seq (WS_regD [] ?_); simp;refine callD (at_spec a k (by omega)) rfl ?_; simp;refine callD (at_spec b k (by omega)) rfl ?_; simp;refine callD (add64_spec _ _ _ hc) rfl ?_; simp;refine ⟨rfl,?_⟩;refine WS_ret ?_; simp [Nm.addF]
theorem sub1_spec (a b:List Nat) (k c:Nat) (hc:c<=1):Spec Try.prog f_nat_Sub_1 ([.i .i64 (k:Int),.i .u64 (c:Int)]++[.ref none (U a),.ref none (U b)]) (· =[.pure (.i .u64 ((Nm.subF 18446744073709551616 a b k c).1:Nat)),.pure (.i .u64 ((Nm.subF 18446744073709551616 a b k c).2:Nat))]):=by
 refine spec_at Try.func83 ok_nat_Sub_1 [] rfl (by simp) ?_;unfold sc_nat_Sub_1;refine Wr ?_; simp;refine WS_seq (WS_regD [] ?_); simp;refine callD (at_spec a k (by omega)) rfl ?_; simp;refine callD (at_spec b k (by omega)) rfl ?_; simp;refine callD (sub64_spec _ _ _ hc) rfl ?_; simp;refine ⟨rfl,?_⟩;refine WS_ret ?_; simp [Nm.subF]
theorem max_len (m n:Nat):(if m<n then (n:Int) else (m:Int))=((max m n:Nat):Int):=by split<;>omega
theorem trim_pad_snoc {B:Nat} (hB:2<=B) {k N:Nat} (h:N / B^k<B):Nm.trim (Nm.pad B k N++[N / B^k])=Nm.dig B N:=by
 rw [Nm.pad_cat N k h,Nm.trim_pad hB];rw [Nat.pow_succ,Nat.mul_comm];exact (Nat.div_lt_iff_lt_mul (Nat.pow_pos (by omega))).1 h
theorem add_spec (a b:List Nat) (ha:Nm.Dl 18446744073709551616 a) (hb:Nm.Dl 18446744073709551616 b) (la:a.length<=2^40) (lb:b.length<=2^40):
 Spec Try.prog f_nat_Add [U a,U b] (· =[.pure (U (Nm.dig 18446744073709551616 (Nm.val 18446744073709551616 a+Nm.val 18446744073709551616 b)))]):=by
 refine spec_at Try.func52 ok_nat_Add [] rfl (by simp) ?_;unfold sc_nat_Add;refine Wr ?_; simp [U];refine WS_frz 2 2 none ?_;simp [frzQ];refine WS_frz 3 3 none ?_;simp [frzQ];refine Wr ?_; simp [max_len];obtain ⟨hr,hc⟩:=Nm.crun_add (by omega) ha hb (n:=max a.length b.length) (by omega) (by omega);have hp:=trim_pad_snoc (B:=18446744073709551616) (by omega) (k:=max a.length b.length) (N:=Nm.val 18446744073709551616 a+Nm.val 18446744073709551616 b) (by omega);have hl:=Nm.pad_length 18446744073709551616 (max a.length b.length) (Nm.val 18446744073709551616 a+Nm.val 18446744073709551616 b);generalize Nm.pad 18446744073709551616 (max a.length b.length) (Nm.val 18446744073709551616 a+Nm.val 18446744073709551616 b)=L at*
 generalize (Nm.val 18446744073709551616 a+Nm.val 18446744073709551616 b) / 18446744073709551616^max a.length b.length=c at*
 refine callK (carried_spec (max a.length b.length) (by omega) f_nat_Add_1 [.ref none (U a),.ref none (U b)] (Nm.addF 18446744073709551616 a b) (·<=1) (by omega) (fun k c hk hc=>⟨add1_spec a b k c hc,Nm.add_carry _ a b k c (by omega) ha hb hc⟩)) ?_; simp [hr];refine WS_seq (WS_reg [20] ?_); simp [hl,take_all' hl];refine ⟨by omega,?_⟩;refine callK (plain_spec (L++[c]) (by simp [hl]; omega)) ?_; simp;refine WS_ret ?_; simp [U,hp]
theorem sub_spec (a b:List Nat) (ha:Nm.Dl 18446744073709551616 a) (hb:Nm.Dl 18446744073709551616 b) (la:a.length<=2^40) (lb:b.length<=2^40):
 Spec Try.prog f_nat_Sub [U a,U b] (· =if Nm.val 18446744073709551616 b<=Nm.val 18446744073709551616 a then [.pure (U (Nm.dig 18446744073709551616 (Nm.val 18446744073709551616 a-Nm.val 18446744073709551616 b))),.pure (.i .i64 0)] else [.pure (U []),.pure (.i .i64 1)]):=by
 refine spec_at Try.func54 ok_nat_Sub [] rfl (by simp) ?_;unfold sc_nat_Sub;refine Wr ?_; simp [U];refine WS_frz 2 2 none ?_;simp [frzQ];refine WS_frz 3 3 none ?_;simp [frzQ];refine Wr ?_; simp [max_len];obtain ⟨hr1,hr2⟩:=Nm.crun_sub (by omega) ha hb (n:=max a.length b.length) (by omega) (by omega);refine callK ((carried_spec (max a.length b.length) (by omega) f_nat_Sub_1 [.ref none (U a),.ref none (U b)] (Nm.subF 18446744073709551616 a b) (·<=1) (by omega) (fun k c hk hc=>⟨sub1_spec a b k c hc,Nm.sub_carry _ a b k c⟩)).plain (R':=(· =[.pure (U (Nm.crun (Nm.subF 18446744073709551616 a b) (max a.length b.length)).1),.pure (.i .u64 ((Nm.crun (Nm.subF 18446744073709551616 a b) (max a.length b.length)).2:Nat))])) (by rintro _ rfl; rfl)) ?_;have hv:=Nm.val_lt ha;by_cases h:Nm.val 18446744073709551616 b<=Nm.val 18446744073709551616 a
 . have hp:=Nm.trim_pad (B:=18446744073709551616) (by omega) (k:=max a.length b.length) (n:=Nm.val 18446744073709551616 a-Nm.val 18446744073709551616 b) (Nat.lt_of_le_of_lt (Nat.sub_le _ _) (Nat.lt_of_lt_of_le hv (Nat.pow_le_pow_right (by omega) (by omega))));have hl:=Nm.pad_length 18446744073709551616 (max a.length b.length) (Nm.val 18446744073709551616 a-Nm.val 18446744073709551616 b);have hr:=hr1 h;generalize Nm.pad 18446744073709551616 (max a.length b.length) (Nm.val 18446744073709551616 a-Nm.val 18446744073709551616 b)=L at*
   simp [hr,h,U];refine Ws ?_; simp;refine WS_cond (by simp; rfl) (fun h=>by simp at h) (fun _=>?_);refine WS_skip ?_; simp;refine Wr ?_; simp;refine callK (plain_spec L (by omega)) ?_; simp;refine WS_ret ?_; simp [U,hp]
 . have hr:=hr2 (by omega);simp [hr,h,U];refine Ws ?_; simp;refine WS_cond (by simp; rfl) (fun _=>?_) (fun h=>by simp at h);refine Wr ?_; simp;refine WS_ret ?_; simp
theorem shl1_spec (a:List Nat) (ha:Nm.Dl 18446744073709551616 a) (k c n s:Nat) (hs:n%64=s) (hk:k<a.length) (hc:c<2^s) (hn:n<2^62):
 Spec Try.prog f_nat_Shl_1 ([.i .i64 (k:Int),.i .u64 (c:Int)]++[.ref none (U a),.ref none (.i .i64 (n:Int))]) (· =[.pure (.i .u64 ((Nm.shlF 18446744073709551616 s a k c).1:Nat)),.pure (.i .u64 ((Nm.shlF 18446744073709551616 s a k c).2:Nat))]):=by
 refine spec_at Try.func115 ok_nat_Shl_1 [] rfl (by simp) ?_;unfold sc_nat_Shl_1 U;have hs64:s<64:=by omega
 have hx:a[k]<18446744073709551616:=ha _ (List.getElem_mem hk);have htm:(n:Int).tmod 64=(s:Int):=by have:=tmod_nat n 64; rw [hs] at this; exact this
 have hw:IntKind.i64.wrap (63-(s:Int))=((63-s:Nat):Int):=by rw [i64_int _ (by omega) (by omega)]; omega
 have e1:=abin_shl (k:=.i64) a[k] (s:Int) s rfl (by omega);have e2:=abin_shr (k:=.u64) a[k] 1 1 rfl (by omega);have hd1:a[k]*2^s%18446744073709551616=a[k]%2^(64-s)*2^s:=by
  have:(18446744073709551616:Nat)=2^s*2^(64-s):=by rw [<- Nat.pow_add,show s+(64-s)=64 by omega]
  rw [this,Nat.mul_comm a[k],Nat.mul_mod_mul_left,Nat.mul_comm]
 have hd2:a[k] / 2^1 / 2^(63-s)=a[k]*2^s / 18446744073709551616:=by
  have:(18446744073709551616:Nat)=2^(64-s)*2^s:=by rw [<- Nat.pow_add,show (64-s)+s=64 by omega]
  rw [this,Nat.mul_div_mul_right _ _ (Nat.pow_pos (by omega)),Nat.div_div_eq_div_mul,<-Nat.pow_add,show 1+(63-s)=64-s by omega]
 have r1:(Nm.shlF 18446744073709551616 s a k c).1=a[k]*2^s%18446744073709551616+c:=by simp [Nm.shlF,List.getD,hk]
 have r2:(Nm.shlF 18446744073709551616 s a k c).2=a[k]*2^s / 18446744073709551616:=by simp [Nm.shlF,List.getD,hk]
 rw [r1,r2];have hlo:a[k]*2^s%18446744073709551616<18446744073709551616:=Nat.mod_lt _ (by omega);have hc64:c<18446744073709551616:=Nat.lt_of_lt_of_le hc (show 2^s<=2^64 from Nat.pow_le_pow_right (by omega) (by omega));have hor:=or_apart (a:=a[k]%2^(64-s)) hc;rw [<- hd1] at hor;generalize a[k]*2^s%18446744073709551616=X at*
 have e3:=abin_or X c hlo hc64;rw [hor] at e3;have hh:a[k] / 2^1<18446744073709551616:=Nat.lt_of_le_of_lt (Nat.div_le_self _ _) hx;generalize hY:a[k] / 2^1=Y at*
 have e4:=abin_shr (k:=.i64) Y ((63-s:Nat):Int) (63-s) rfl (by omega);rw [hd2] at e4;generalize a[k]*2^s / 18446744073709551616=Z at*
 generalize 63-s=t at*
 generalize X+c=W at*
 refine Wr ?_; simp;refine WS_seq (WS_regD [] ?_); simp [hk,htm,e1,e2,hw,e3,e4];refine ⟨rfl,?_⟩;refine WS_ret ?_; simp
theorem shr1_arith {x y s:Nat} (hs:s<64) (hx:x<18446744073709551616) (hy:y<18446744073709551616):
 y*2^1%18446744073709551616*2^(63-s)%18446744073709551616=y%2^s*2^(64-s)/\x / 2^s<18446744073709551616/\y%2^s*2^(64-s)<18446744073709551616/\
 (x / 2^s ||| y%2^s*2^(64-s))=x / 2^s+y%2^s*2^(64-s):=by
 have h2:(18446744073709551616:Nat)=2^(64-s)*2^s:=by rw [<- Nat.pow_add,show (64-s)+s=64 by omega]
 have hlo:x / 2^s<2^(64-s):=Nat.div_lt_of_lt_mul (by rw [Nat.mul_comm,<-h2]; exact hx);have hm:∀ M:Nat,M=2^(64-s)*2^s->y*2^1%M*2^(63-s)%M=y%2^s*2^(64-s):=fun M hM=>by
  rw [Nat.mod_mul_mod,Nat.mul_assoc,<-Nat.pow_add,show 1+(63-s)=64-s by omega,hM,Nat.mul_comm y,Nat.mul_mod_mul_left,Nat.mul_comm]
 refine ⟨hm _ h2,Nat.lt_of_le_of_lt (Nat.div_le_self _ _) hx,?_,?_⟩
 . have h3:y%2^s<2^s:=Nat.mod_lt _ (Nat.pow_pos (by omega));have h4:=Nat.mul_lt_mul_of_pos_right h3 (show 0<2^(64-s) from Nat.pow_pos (by omega));rw [Nat.mul_comm (2^s),<-h2] at h4;exact h4
 . rw [Nat.or_comm,or_apart hlo,Nat.add_comm]
theorem shr1_spec (a:List Nat) (ha:Nm.Dl 18446744073709551616 a) (k c s:Nat) (hs:s<64) (hk:k<a.length) (hl:a.length<=2^40):
 Spec Try.prog f_nat_Shr_1 ([.i .i64 (k:Int),.i .u64 (c:Int)]++[.ref none (U a),.ref none (.i .i64 (s:Int))]) (· =[.pure (.i .u64 ((Nm.shrF s (64-s) a k:Nat):Int)),.pure (.i .u64 ((0:Nat):Int))]):=by
 refine spec_at Try.func118 ok_nat_Shr_1 [] rfl (by simp) ?_;unfold sc_nat_Shr_1;have hx:a[k]<18446744073709551616:=ha _ (List.getElem_mem hk);have hy:=ha.get (by omega) (k+1);obtain ⟨y,hyd⟩:∃ y,y=a.getD (k+1) 0:=⟨_,rfl⟩;have hF:Nm.shrF s (64-s) a k=a[k] / 2^s+y%2^s*2^(64-s):=by rw [Nm.shrF,<-hyd]; simp [List.getD,hk]
 have hty:a[((k:Int)+1).toNat]?.getD 0=y:=by rw [show ((k:Int)+1).toNat=k+1 by omega,hyd,List.getD_eq_getElem?_getD]
 have hty':a[k+1]?.getD 0=y:=by rw [hyd,List.getD_eq_getElem?_getD]
 rw [<- hyd] at hy;obtain ⟨hm,hlo64,hhi64,hor⟩:=shr1_arith hs hx hy;have hw:=i64_succ k (by omega);have hw63:IntKind.i64.wrap (63-(s:Int))=((63-s:Nat):Int):=by rw [i64_int _ (by omega) (by omega)]; omega
 have e1:=abin_shr (k:=.i64) a[k] (s:Int) s rfl (by omega);have e2:=abin_shl (k:=.u64) y 1 1 rfl (by omega);have e3:=abin_shl (k:=.i64) (y*2^1%18446744073709551616) ((63-s:Nat):Int) (63-s) rfl (by omega);have e4:=abin_or (a[k] / 2^s) (y%2^s*2^(64-s)) hlo64 hhi64;rw [hm] at e3;rw [hor,<-hF] at e4;obtain ⟨p,hp⟩:∃ p,p=a[k] / 2^s:=⟨_,rfl⟩;obtain ⟨q,hq⟩:∃ q,q=y%2^s*2^(64-s):=⟨_,rfl⟩;obtain ⟨z,hz⟩:∃ z,z=y*2^1%18446744073709551616:=⟨_,rfl⟩;obtain ⟨t,ht⟩:∃ t,t=63-s:=⟨_,rfl⟩;obtain ⟨W,hW⟩:∃ W,W=Nm.shrF s (64-s) a k:=⟨_,rfl⟩;rw [<- hp] at e1;rw [<- hz] at e2;rw [<- hz,<-ht,<-hq] at e3;rw [<- hp,<-hq,<-hW] at e4;rw [<- ht] at hw63;rw [<- hW];clear hm hor hlo64 hhi64 hp hq hz hF hW;refine Wr ?_; simp [U];refine WS_seq (WS_regD [] ?_); simp [hk,hw,e1];refine callD (at_spec a ((k:Int)+1) (by omega)) rfl ?_; simp [hty,hty',e2,e3,e4,hw63];refine ⟨rfl,?_⟩;refine WS_ret ?_; simp
theorem shl_digits {B q N k:Nat} (hB:2<=B) (h:N / B^k<B):Nm.trim (List.replicate q 0++(Nm.pad B k N++[N / B^k]))=Nm.dig B (B^q*N):=by
 rw [Nm.pad_cat N k h];have hlt:N<B^(k+1):=by
  rw [Nat.pow_succ,Nat.mul_comm];exact (Nat.div_lt_iff_lt_mul (Nat.pow_pos (by omega))).1 h
 rw [<- Nm.dig_val hB ((Nm.Dl.replicate (by omega) q).append (Nm.pad_lt (by omega) _ _)),Nm.val_append,Nm.val_replicate,Nm.val_pad,Nat.mod_eq_of_lt hlt];simp
theorem nshl_spec (a:List Nat) (ha:Nm.Dl 18446744073709551616 a) (hl:a.length<=2^38) (n:Int):
 Spec Try.prog f_nat_Shl [U a,.i .i64 n] (· =if n<0\/262144<n then [.pure (U []),.pure (.i .i64 1)] else [.pure (U (Nm.dig 18446744073709551616 (Nm.val 18446744073709551616 a*2^n.toNat))),.pure (.i .i64 0)]):=by
 refine spec_at Try.func98 ok_nat_Shl [] rfl (by simp) ?_;unfold sc_nat_Shl;refine Wr ?_; simp [U];refine WS_frz 2 2 none ?_;simp [frzQ];refine WS_frz 3 3 none ?_;simp [frzQ];refine Ws ?_;by_cases h1:n<0
 . simp [h1];refine WS_cT (by simp) ?_;refine Wr ?_; simp;refine WS_ret ?_; simp
 . by_cases h2:262144<n
   . simp [h1,h2];refine WS_cT (by simp) ?_;refine Wr ?_; simp;refine WS_ret ?_; simp
   . simp [h1,h2];refine WS_cF (by simp) ?_;refine WS_skip ?_; simp;obtain ⟨m,rfl⟩:∃ m:Nat,n=m:=⟨n.toNat,by omega⟩;obtain ⟨q,hq⟩:∃ q,q=m / 64:=⟨_,rfl⟩;obtain ⟨s,hs⟩:∃ s,s=m%64:=⟨_,rfl⟩;have hd:(m:Int).tdiv 64=(q:Int):=by have:=tdiv_nat m 64; rw [<- hq] at this; exact this
     have hwq:=i64_nat q (by omega);have hB:(2:Nat)^(s+(64-s))=18446744073709551616:=by rw [show s+(64-s)=64 by omega]
     have hrun:=Nm.crun_shl (s:=s) (t:=64-s) (a:=a) (by rw [hB]; exact ha);rw [hB] at hrun;obtain ⟨hr,hc⟩:=hrun;have hs64:2^s<=2^63:=Nat.pow_le_pow_right (by omega) (by omega);have hdig:=shl_digits (B:=18446744073709551616) (q:=q) (k:=a.length) (N:=Nm.val 18446744073709551616 a*2^s) (by omega) (by omega);have hval:18446744073709551616^q*(Nm.val 18446744073709551616 a*2^s)=Nm.val 18446744073709551616 a*2^m:=by
      have e:(18446744073709551616:Nat)^q*2^s=2^m:=by
       rw [show (18446744073709551616:Nat)=2^64 from rfl,<-Nat.pow_mul,<-Nat.pow_add]; congr 1; omega
      rw [Nat.mul_left_comm,e]
     rw [hval] at hdig;have hlen:=Nm.pad_length 18446744073709551616 a.length (Nm.val 18446744073709551616 a*2^s);obtain ⟨L,hL⟩:∃ L,L=Nm.pad 18446744073709551616 a.length (Nm.val 18446744073709551616 a*2^s):=⟨_,rfl⟩;obtain ⟨c,hcd⟩:∃ c,c=Nm.val 18446744073709551616 a*2^s / 18446744073709551616^a.length:=⟨_,rfl⟩;rw [<- hL,<-hcd] at hr hdig;rw [<- hL] at hlen;refine Wr ?_; simp;refine callK (carried_spec a.length (by omega) f_nat_Shl_1 [.ref none (U a),.ref none (.i .i64 (m:Int))] (Nm.shlF 18446744073709551616 s a) (fun c=>c<2^s) (Nat.pow_pos (by omega)) (fun k c hk hc=>⟨shl1_spec a ha k c m s hs.symm hk hc (by omega),Nat.div_lt_of_lt_mul (Nat.mul_lt_mul_of_pos_right (ha.get (by omega) k) (Nat.pow_pos (by omega)))⟩)) ?_; simp [hr];refine WS_seq (WS_regD [24] ?_); simp [hlen,take_all' hlen,hd,hwq];refine ⟨by omega,?_⟩;refine callD (moved_spec (L++[c]) q (by simp [hlen]; omega) (by omega)) rfl ?_; simp;refine callD (plain_spec (List.replicate q 0++(L++[c])) (by simp [hlen]; omega)) rfl ?_; simp;refine ⟨rfl,?_⟩;refine WS_ret ?_; simp [U,hdig]
theorem nshr_spec (a:List Nat) (ha:Nm.Dl 18446744073709551616 a) (hl:a.length<=2^38) (n:Int) (hn:n<2^63):
 Spec Try.prog f_nat_Shr [U a,.i .i64 n] (· =[.pure (U (Nm.dig 18446744073709551616 (Nm.val 18446744073709551616 a / 2^n.toNat)))]):=by
 refine spec_at Try.func101 ok_nat_Shr [] rfl (by simp) ?_;unfold sc_nat_Shr;obtain ⟨m,hm⟩:∃ m:Nat,m=n.toNat:=⟨_,rfl⟩;have hmax:(if n<0 then (0:Int) else n)=(m:Int):=by split<;>omega
 have hmax':(if 0<n then n else (0:Int))=(m:Int):=by split<;>omega
 rw [<- hm];obtain ⟨q,hq⟩:∃ q,q=m / 64:=⟨_,rfl⟩;obtain ⟨s,hs⟩:∃ s,s=m%64:=⟨_,rfl⟩;have hd:(m:Int).tdiv 64=(q:Int):=by have:=tdiv_nat m 64; rw [<- hq] at this; exact this
 have htm:(m:Int).tmod 64=(s:Int):=by have:=tmod_nat m 64; rw [<- hs] at this; exact this
 have hwq:=i64_nat q (by omega);refine Wr ?_; simp [U];refine Wr ?_; simp [hmax,hmax'];refine Ws ?_; simp [hd,hwq];by_cases hle:a.length<=q
 . refine WS_cT (by simp [hle]) ?_;refine Wr ?_; simp;refine WS_ret ?_;have hz:Nm.val 18446744073709551616 a / 2^m=0:=by
    refine Nat.div_eq_of_lt (Nat.lt_of_lt_of_le (Nm.val_lt ha) ?_);rw [show (18446744073709551616:Nat)=2^64 from rfl,<-Nat.pow_mul];exact Nat.pow_le_pow_right (by omega) (by omega)
   simp [hz,Nm.dig_zero]
 . refine WS_cF (by simp; omega) ?_;refine WS_skip ?_; simp;refine Wr ?_; simp [hd,hwq];refine ⟨by omega,?_⟩;refine Wr ?_; simp [htm];refine WS_frz 2 2 none ?_;simp [frzQ];refine WS_frz 3 3 none ?_;simp [frzQ];have hB:(2:Nat)^(s+(64-s))=18446744073709551616:=by rw [show s+(64-s)=64 by omega]
   have had:Nm.Dl 18446744073709551616 (a.drop q):=ha.drop q;obtain ⟨b,hb⟩:∃ b,b=a.drop q:=⟨_,rfl⟩;have hbl:b.length=a.length-q:=by rw [hb]; simp
   have hbv:Nm.val 18446744073709551616 b=Nm.val 18446744073709551616 a / 18446744073709551616^q:=by rw [hb,Nm.val_drop_div (by omega) ha]
   have hval:Nm.val 18446744073709551616 b / 2^s=Nm.val 18446744073709551616 a / 2^m:=by
    rw [hbv,Nat.div_div_eq_div_mul];congr 1;rw [show (18446744073709551616:Nat)=2^64 from rfl,<-Nat.pow_mul,<-Nat.pow_add]; congr 1; omega
   rw [<- hb] at had;have hrun:=Nm.crun_shr (s:=s) (t:=64-s) (a:=b) (by rw [hB]; exact had);have hlt:=Nm.shr_lt (s:=s) (t:=64-s) (a:=b) (by rw [hB]; exact had);rw [hB] at hrun hlt;rw [hval] at hrun hlt;have htr:=Nm.trim_pad (B:=18446744073709551616) (by omega) hlt;have hpl:=Nm.pad_length 18446744073709551616 b.length (Nm.val 18446744073709551616 a / 2^m);obtain ⟨L,hL⟩:∃ L,L=Nm.pad 18446744073709551616 b.length (Nm.val 18446744073709551616 a / 2^m):=⟨_,rfl⟩;rw [<- hL] at hrun htr hpl;simp only [<- hb];refine Wr ?_; simp;refine callK ((carried_spec b.length (by omega) f_nat_Shr_1 [.ref none (U b),.ref none (.i .i64 (s:Int))] (fun k _=>(Nm.shrF s (64-s) b k,0)) (fun _=>True) trivial (fun k c hk _=>⟨shr1_spec b had k c s (by omega) hk (by omega),trivial⟩)).plain (R':=(· =[.pure (U L),.pure (.i .u64 ((0:Nat):Int))])) (by rintro _ rfl; rw [hrun]; rfl)) ?_; simp;refine Wr ?_; simp;refine callK (plain_spec L (by omega)) ?_; simp;refine WS_ret ?_; simp [U,htr]
theorem WS_cut {P:Program} {n:Nat} {x y:SC} {Q:Exit->St->Prop} {S:St} (I:St->Prop) (h1:WS P n x (fun e S=>e= .normal/\I S) S) (h2:∀ S,I S->WS P n y Q S):WS P n (.seq x y) Q S:=by
 refine WS_seq (h1.mono ?_);rintro e S ⟨rfl,hi⟩;exact h2 S hi
theorem uL_cons (x:Nat) (l:List Nat):uL (x::l)=V.i .u64 (x:Int)::uL l:=rfl
theorem clone_spec (a:List Nat) (hl:a.length<=2^40):Spec Try.prog f_slices_Clone_Luint64_uint64 [U a] (· =[.pure (U a)]):=by
 refine spec_at Try.func96 ok_slices_Clone_Luint64_uint64 [] rfl (by simp) ?_;unfold sc_slices_Clone_Luint64_uint64 U;refine Wr ?_; simp;refine Ws ?_;cases a with
 | nil=>
  simp;refine WS_either (by simp) ?_ ?_
  . refine Wr ?_; simp;refine WS_ret ?_; simp
  . refine WS_skip ?_; simp;refine WS_seq (WS_reg [5,7] ?_); simp;refine WS_ret ?_; simp
 | cons x r=>
  simp [uL_cons];refine WS_cF (by simp) ?_;refine WS_skip ?_; simp;refine WS_seq (WS_reg [5,7] ?_); simp;simp at hl;refine ⟨by omega,?_⟩;refine WS_ret ?_; simp
theorem nnorm_spec (a:List Nat) (hl:a.length<=2^40):Spec Try.prog f_nat_Norm [U a] (· =[.pure (U (Nm.trim a))]):=by
 refine spec_at Try.func67 ok_nat_Norm [] rfl (by simp) ?_;unfold sc_nat_Norm;have:=Nm.trim_length_le a;refine Wr ?_; simp;refine Wr ?_; simp;refine callK (plain_spec a (by omega)) ?_; simp;refine callK (clone_spec _ (by omega)) ?_; simp;refine WS_ret ?_; simp
theorem isNaN_int_spec (m:Int):Spec Try.prog f_cmp_isNaN_int [.i .i64 m] (· =[.pure (.b false)]):=by
 refine spec_at Try.func103 ok_cmp_isNaN_int [] rfl (by simp) ?_;unfold sc_cmp_isNaN_int;refine Wr ?_; simp;refine Wr ?_; simp;refine WS_ret ?_; simp
theorem isNaN_u64_spec (m:Int):Spec Try.prog f_cmp_isNaN_uint64 [.i .u64 m] (· =[.pure (.b false)]):=by
 refine spec_at Try.func104 ok_cmp_isNaN_uint64 [] rfl (by simp) ?_;unfold sc_cmp_isNaN_uint64;refine Wr ?_; simp;refine Wr ?_; simp;refine WS_ret ?_; simp
theorem ccmp_int_spec (m n:Nat):Spec Try.prog f_cmp_Compare_int [.i .i64 (m:Int),.i .i64 (n:Int)] (· =[.pure (.i .i64 (Nm.cmpN m n))]):=by
 refine spec_at Try.func81 ok_cmp_Compare_int [] rfl (by simp) ?_;unfold sc_cmp_Compare_int Nm.cmpN;refine Wr ?_; simp;refine Wr ?_; simp;refine callK (isNaN_int_spec _) ?_; simp;refine Wr ?_; simp;refine callK (isNaN_int_spec _) ?_; simp;refine Ws ?_; simp;refine WS_cF (by simp) (WS_skip ?_);simp;refine Ws ?_; simp;refine WS_cF (by simp) (WS_skip ?_);simp;refine Ws ?_; simp;by_cases h1:m<n
 . refine WS_cT (by simp [h1]) ?_;refine Wr ?_; simp;refine WS_ret ?_; simp [h1]
 . refine WS_cF (by simp; omega) (WS_skip ?_);simp;refine Ws ?_; simp;by_cases h2:n<m
   . refine WS_cT (by simp [h2]) ?_;refine Wr ?_; simp;refine WS_ret ?_; simp [h1,h2]
   . refine WS_cF (by simp; omega) (WS_skip ?_);simp;refine Wr ?_; simp;refine WS_ret ?_; simp [h1,h2]
theorem ccmp_u64_spec (m n:Nat):Spec Try.prog f_cmp_Compare_uint64 [.i .u64 (m:Int),.i .u64 (n:Int)] (· =[.pure (.i .i64 (Nm.cmpN m n))]):=by
 refine spec_at Try.func82 ok_cmp_Compare_uint64 [] rfl (by simp) ?_;unfold sc_cmp_Compare_uint64 Nm.cmpN;refine Wr ?_; simp;refine Wr ?_; simp;refine callK (isNaN_u64_spec _) ?_; simp;refine Wr ?_; simp;refine callK (isNaN_u64_spec _) ?_; simp;refine Ws ?_; simp;refine WS_cF (by simp) (WS_skip ?_);simp;refine Ws ?_; simp;refine WS_cF (by simp) (WS_skip ?_);simp;refine Ws ?_; simp;by_cases h1:m<n
 . refine WS_cT (by simp [h1]) ?_;refine Wr ?_; simp;refine WS_ret ?_; simp [h1]
 . refine WS_cF (by simp; omega) (WS_skip ?_);simp;refine Ws ?_; simp;by_cases h2:n<m
   . refine WS_cT (by simp [h2]) ?_;refine Wr ?_; simp;refine WS_ret ?_; simp [h1,h2]
   . refine WS_cF (by simp; omega) (WS_skip ?_);simp;refine Wr ?_; simp;refine WS_ret ?_; simp [h1,h2]
theorem ncmp_spec (a b:List Nat) (ha:Nm.Dl 18446744073709551616 a) (hb:Nm.Dl 18446744073709551616 b) (la:a.length<=2^40) (lb:b.length<=2^40):
 Spec Try.prog f_nat_Cmp [U a,U b] (· =[.pure (.i .i64 (Nm.cmpN (Nm.val 18446744073709551616 a) (Nm.val 18446744073709551616 b)))]):=by
 refine spec_at Try.func53 ok_nat_Cmp [] rfl (by simp) ?_;unfold sc_nat_Cmp;have p1:=plain_spec a (by omega);have p2:=plain_spec b (by omega);have l1:=Nm.trim_length_le a;have l2:=Nm.trim_length_le b;rw [<- Nm.dig_val (by omega) ha] at p1 l1;rw [<- Nm.dig_val (by omega) hb] at p2 l2;obtain ⟨va,hva⟩:∃ v,v=Nm.val 18446744073709551616 a:=⟨_,rfl⟩;obtain ⟨vb,hvb⟩:∃ v,v=Nm.val 18446744073709551616 b:=⟨_,rfl⟩;rw [<- hva] at p1 l1 ⊢;rw [<- hvb] at p2 l2 ⊢;have d1:=Nm.dig_lt (B:=18446744073709551616) (by omega) va;have d2:=Nm.dig_lt (B:=18446744073709551616) (by omega) vb;have v1:=Nm.val_dig (B:=18446744073709551616) (by omega) va;have v2:=Nm.val_dig (B:=18446744073709551616) (by omega) vb;have hlt1:(Nm.dig 18446744073709551616 va).length<(Nm.dig 18446744073709551616 vb).length->va<vb:=fun h=>by
  by_cases hle:vb<=va
  . have:=Nm.dig_length_mono (B:=18446744073709551616) (by omega) hle; omega
  . omega
 have hlt2:(Nm.dig 18446744073709551616 vb).length<(Nm.dig 18446744073709551616 va).length->vb<va:=fun h=>by
  by_cases hle:va<=vb
  . have:=Nm.dig_length_mono (B:=18446744073709551616) (by omega) hle; omega
  . omega
 obtain ⟨x,hx⟩:∃ x,x=Nm.dig 18446744073709551616 va:=⟨_,rfl⟩;obtain ⟨y,hy⟩:∃ y,y=Nm.dig 18446744073709551616 vb:=⟨_,rfl⟩;rw [<- hx] at p1 l1 d1 v1 hlt1 hlt2;rw [<- hy] at p2 l2 d2 v2 hlt1 hlt2;refine Wr ?_; simp;refine Wr ?_; simp;refine callK p1 ?_; simp;refine callK p2 ?_; simp;refine Ws ?_; simp [U];by_cases hl:x.length=y.length
 . refine WS_cF (by simp [hl]) (WS_skip ?_);simp;have hc:=Nm.cmpF_val (B:=18446744073709551616) (by omega) d1 d2 x.length;rw [Nm.take_all (by omega),Nm.take_all (by omega),v1,v2] at hc;rw [<- hc];obtain ⟨n,hn⟩:∃ n,n=x.length:=⟨_,rfl⟩;rw [<- hn] at hl l1 ⊢;have w0:IntKind.i64.wrap ((n:Int)-1)=(n:Int)-1:=i64_int _ (by omega) (by omega);refine Ws ?_; simp [<- hn,w0];refine WS_block (WS_loop (fun S=>∃ k:Nat,k<=n/\S.σ 0= .p (.sl none (uL x))/\S.σ 1= .p (.sl none (uL y))/\S.σ 5= .p (.i .i64 ((k:Int)-1))/\Nm.cmpF x y n=Nm.cmpF x y k) (fun S=>match S.σ 5 with | .p (.i _ n)=>(n+1).toNat | _=>0) ⟨n,by omega,by simp,by simp,by simp,rfl⟩ ?_);rintro S ⟨k,hk,h0,h1,h5,hcm⟩;refine Ws ?_; simp [h5];by_cases hp:0<k
   . obtain ⟨j,rfl⟩:∃ j,k=j+1:=⟨k-1,by omega⟩;have hj:((j+1:Nat):Int)-1=(j:Int):=by omega
     rw [hj] at h5;have hjx:j<x.length:=by omega
     have hjy:j<y.length:=by omega
     refine WS_cT (by simp; omega) ?_;refine WS_skip ?_; simp;obtain ⟨p,hpd⟩:∃ p,p=x[j]:=⟨_,rfl⟩;obtain ⟨q,hqd⟩:∃ q,q=y[j]:=⟨_,rfl⟩;have hF:Nm.cmpF x y (j+1)=if p<q then -1 else if p>q then 1 else Nm.cmpF x y j:=by simp [Nm.cmpF,List.getD,hjx,hjy,hpd,hqd]
     have hF':p≠q->Nm.cmpF x y (j+1)=Nm.cmpN p q:=fun hne=>by
      rw [hF]; unfold Nm.cmpN;by_cases hlt:p<q
      . rw [if_pos hlt,if_pos hlt]
      . rw [if_neg hlt,if_neg hlt,if_pos (by omega),if_pos (by omega)]
     refine WS_seq (WS_block (WS_seq (WS_regD [] ?_))); simp [h0,h1,h5,hjx,hjy,<-hpd,<-hqd];refine ⟨rfl,?_⟩;by_cases heq:p=q
     . refine WS_cF (by simp [heq]) (WS_skip ?_);simp;have w1:IntKind.i64.wrap ((j:Int)-1)=(j:Int)-1:=i64_int _ (by omega) (by omega);refine WS_reg [] ?_; simp [h0,h1,h5,w1];refine ⟨j,by omega,rfl,?_⟩;rw [hcm,hF,if_neg (by omega),if_neg (by omega)]
     . refine WS_cT (by simp; omega) ?_;refine WS_seq (WS_regD [] ?_); simp [h0,h1,h5,hjx,hjy,<-hpd,<-hqd];refine callD (ccmp_u64_spec p q) rfl ?_; simp;refine ⟨rfl,?_⟩;refine WS_ret ?_; simp [hcm,hF' heq]
   . have hk0:k=0:=by omega
     subst hk0;refine WS_cF (by simp) ?_;refine WS_exit ?_; simp;refine Wr ?_; simp;refine WS_ret ?_; simp [hcm,Nm.cmpF]
 . refine WS_cT (by simp; omega) ?_;refine Wr ?_; simp;refine callK (ccmp_int_spec x.length y.length) ?_; simp;refine WS_ret ?_; simp;unfold Nm.cmpN;by_cases h1:x.length<y.length
   . rw [if_pos h1,if_pos (hlt1 h1)]
   . have h2:=hlt2 (by omega);rw [if_neg h1,if_pos (by omega),if_neg (by omega),if_pos h2]
def len8T:List UInt8:=[0,1,2,2,3,3,3,3,4,4,4,4,4,4,4,4,5,5,5,5,5,5,5,5,5,5,5,5,5,5,5,5,6,6,6,6,6,6,6,6,6,6,6,6,6,6,6,6,6,6,6,6,6,6,6,6,6,6,6,6,6,6,6,6,7,7,7,7,7,7,7,7,7,7,7,7,7,7,7,7,7,7,7,7,7,7,7,7,7,7,7,7,7,7,7,7,7,7,7,7,7,7,7,7,7,7,7,7,7,7,7,7,7,7,7,7,7,7,7,7,7,7,7,7,7,7,7,7,8,8,8,8,8,8,8,8,8,8,8,8,8,8,8,8,8,8,8,8,8,8,8,8,8,8,8,8,8,8,8,8,8,8,8,8,8,8,8,8,8,8,8,8,8,8,8,8,8,8,8,8,8,8,8,8,8,8,8,8,8,8,8,8,8,8,8,8,8,8,8,8,8,8,8,8,8,8,8,8,8,8,8,8,8,8,8,8,8,8,8,8,8,8,8,8,8,8,8,8,8,8,8,8,8,8,8,8,8,8,8,8,8,8,8,8,8,8,8,8,8,8,8,8,8,8,8,8]
theorem len8T_eq:∀ n:Fin 256,((len8T[n.val]?).getD 0).toNat=Lib.bitLen n.val:=by decide +kernel
theorem len8T_size:len8T.length=256:=by decide +kernel
theorem bitLen_8:∀ n:Fin 256,Lib.bitLen n.val<=8:=by decide +kernel
theorem bitLen_zero:Lib.bitLen 0=0:=by decide +kernel
theorem bitLen_spec:∀ (x:Nat),x≠0->x<2^64->x<2^Lib.bitLen x/\2^Lib.bitLen x<=2*x:=by
 intro x;induction x using Nat.strongRecOn with
 | _ x ih=>
  intro h0 hx;rw [Lib.bitLen_half x h0 hx,Nat.add_comm,Nat.pow_succ];by_cases h1:x / 2=0
  . rw [h1,bitLen_zero]; omega
  . have:=ih (x / 2) (by omega) h1 (by omega);omega
theorem len64_spec (x:Nat) (hx:x<18446744073709551616):Spec Try.prog f_bits_Len64 [.i .u64 (x:Int)] (· =[.pure (.i .i64 ((Lib.bitLen x:Nat):Int))]):=by
 refine spec_at Try.func114 ok_bits_Len64 [] rfl (by simp) ?_;unfold sc_bits_Len64;obtain ⟨T,hT⟩:∃ T:ByteArray,T=⟨⟨len8T⟩⟩:=⟨_,rfl⟩;have hTs:T.size=256:=by rw [hT]; exact len8T_size
 have hTl:∀ k:Nat,T.data[k]? =len8T[k]? :=fun k=>by rw [hT]; exact List.getElem?_toArray
 unfold len8T at hT;rw [<- hT];clear hT;refine Wr ?_; simp;refine WS_cut (fun S=>∃ y n:Nat,S.σ 0= .p (.i .u64 (y:Int))/\S.σ 2= .p (.i .i64 (n:Int))/\y<2^32/\n<=32/\n+Lib.bitLen y=Lib.bitLen x) ?_ ?_
 . refine Wr ?_; simp;by_cases h:4294967296<=x
   . have e1:=abin_shr (k:=.u64) x 32 32 rfl (by omega);have hb:=Lib.bitLen_shift32 x h hx;refine WS_cT (by simp; omega) ?_;obtain ⟨y,hy⟩:∃ y,y=x / 2^32:=⟨_,rfl⟩;have hy':y=x / 4294967296:=hy;rw [<- hy] at e1;rw [<- hy'] at hb;refine Wr ?_; simp [e1];refine WS_reg [] ?_; simp;exact ⟨y,rfl,32,rfl,by omega,by omega,by omega⟩
   . refine WS_cF (by simp; omega) (WS_skip ?_);simp;exact ⟨x,rfl,0,rfl,by omega,by omega,by omega⟩
 rintro S ⟨y,n,h0,h2,hy,hn,hb⟩;refine WS_cut (fun S=>∃ y n:Nat,S.σ 0= .p (.i .u64 (y:Int))/\S.σ 2= .p (.i .i64 (n:Int))/\y<2^16/\n<=48/\n+Lib.bitLen y=Lib.bitLen x) ?_ ?_
 . refine Wr ?_; simp [h0];by_cases h:65536<=y
   . have e1:=abin_shr (k:=.u64) y 16 16 rfl (by omega);have hb2:=Lib.bitLen_shift16 y h (by omega);have w1:IntKind.i64.wrap ((n:Int)+16)=(n:Int)+16:=i64_int _ (by omega) (by omega);refine WS_cT (by simp; omega) ?_;obtain ⟨z,hz⟩:∃ z,z=y / 2^16:=⟨_,rfl⟩;have hz':z=y / 65536:=hz;rw [<- hz] at e1;rw [<- hz'] at hb2;refine Wr ?_; simp [h0,e1];refine WS_reg [] ?_; simp [h2,w1];exact ⟨z,rfl,n+16,rfl,by omega,by omega,by omega⟩
   . refine WS_cF (by simp; omega) (WS_skip ?_);simp [h0,h2];exact ⟨y,rfl,n,rfl,by omega,by omega,by omega⟩
 clear h0 h2 hy hn hb y n S;rintro S ⟨y,n,h0,h2,hy,hn,hb⟩;refine WS_cut (fun S=>∃ y n:Nat,S.σ 0= .p (.i .u64 (y:Int))/\S.σ 2= .p (.i .i64 (n:Int))/\y<2^8/\n<=56/\n+Lib.bitLen y=Lib.bitLen x) ?_ ?_
 . refine Wr ?_; simp [h0];by_cases h:256<=y
   . have e1:=abin_shr (k:=.u64) y 8 8 rfl (by omega);have hb2:=Lib.bitLen_shift8 y h (by omega);have w1:IntKind.i64.wrap ((n:Int)+8)=(n:Int)+8:=i64_int _ (by omega) (by omega);refine WS_cT (by simp; omega) ?_;obtain ⟨z,hz⟩:∃ z,z=y / 2^8:=⟨_,rfl⟩;have hz':z=y / 256:=hz;rw [<- hz] at e1;rw [<- hz'] at hb2;refine Wr ?_; simp [h0,e1];refine WS_reg [] ?_; simp [h2,w1];exact ⟨z,rfl,n+8,rfl,by omega,by omega,by omega⟩
   . refine WS_cF (by simp; omega) (WS_skip ?_);simp [h0,h2];exact ⟨y,rfl,n,rfl,by omega,by omega,by omega⟩
 clear h0 h2 hy hn hb y n S;rintro S ⟨y,n,h0,h2,hy,hn,hb⟩;have wt:=len8T_eq ⟨y,by omega⟩;have wl:=bitLen_8 ⟨y,by omega⟩;simp only at wt wl;obtain ⟨z,hz⟩:∃ z,z=Lib.bitLen y:=⟨_,rfl⟩;rw [<- hz] at hb wt wl;have w0:IntKind.u8.wrap (y:Int)=(y:Int):=Go.IntWalk.u8_in _ (by omega);have w1:IntKind.i64.wrap (z:Int)=(z:Int):=i64_nat z (by omega);have w2:IntKind.i64.wrap ((n:Int)+z)=(n:Int)+z:=i64_int _ (by omega) (by omega);have hTg:(T.data[y]?.getD 0).toNat=z:=by rw [hTl y,<-wt]
 have hy256:y<256:=by omega
 have hy256':(y:Int)<256:=by omega
 refine Wr ?_; simp [h0,h2,w0,hTs,hTg,hy256',w1,w2];refine WS_ret ?_; simp;omega
end Go.Vw
