/- The layer of limbs: products of digits, texts read, division by one limb. -/
import Derived.Test.YtfdjbmamidmgfaaGreatMA
import Derived.Test.YtfdjbmamidmgfaaGreatN8
import Derived.Lib.Mul64
import Derived.Test.YtfdjbmamidmgfaaGreatS2
set_option linter.unusedVariables false
set_option linter.unusedSimpArgs false
namespace Go.Vw
open Go.Proofs
theorem mul64_spec (x y:Nat) (hx:x<18446744073709551616) (hy:y<18446744073709551616):Spec Tryz.prog f_bits_Mul64 [.i .u64 (x:Int),.i .u64 (y:Int)] (· =[.pure (.i .u64 ((x*y / 18446744073709551616:Nat):Int)),.pure (.i .u64 ((x*y%18446744073709551616:Nat):Int))]):=by
 refine spec_at Tryz.func207 ok_bits_Mul64 [] rfl (by simp) ?_
 unfold sc_bits_Mul64
 obtain ⟨bd,bt,bw,hhi⟩:=Lib.mul64_hi x y hx hy
 have m1:=abin_mask32 x hx
 have m2:=abin_shr (k:=.u64) x 32 32 rfl (by omega)
 have m3:=abin_mask32 y hy
 have m4:=abin_shr (k:=.u64) y 32 32 rfl (by omega)
 have hlo:=u64_mul x y
 have c11:=Lib.half_mul_le (a:=x / 4294967296) (b:=y / 4294967296) (by omega) (by omega)
 have c10:=Lib.half_mul_le (a:=x / 4294967296) (b:=y%4294967296) (by omega) (by omega)
 have c01:=Lib.half_mul_le (a:=x%4294967296) (b:=y / 4294967296) (by omega) (by omega)
 obtain ⟨x1,hx1⟩:∃ z,z=x / 2^32:=⟨_,rfl⟩
 obtain ⟨y1,hy1⟩:∃ z,z=y / 2^32:=⟨_,rfl⟩
 have hx1':x1=x / 4294967296:=hx1
 have hy1':y1=y / 4294967296:=hy1
 obtain ⟨x0,hx0⟩:∃ z,z=x%4294967296:=⟨_,rfl⟩
 obtain ⟨y0,hy0⟩:∃ z,z=y%4294967296:=⟨_,rfl⟩
 rw [← hx0] at m1
 rw [← hx1] at m2
 rw [← hy0] at m3
 rw [← hy1] at m4
 rw [← hx0,←hy0] at bd
 rw [← hx0,←hy0,←hx1'] at bt
 rw [← hx0,←hy0,←hx1',←hy1'] at bw hhi
 rw [← hx1',←hy1'] at c11
 rw [← hx1',←hy0] at c10
 rw [← hx0,←hy1'] at c01
 have n00:=u64_mulf x0 y0 bd
 have n10:=u64_mulf x1 y0 (by omega)
 have n01:=u64_mulf x0 y1 (by omega)
 have n11:=u64_mulf x1 y1 (by omega)
 obtain ⟨p00,h00⟩:∃ z,z=x0*y0:=⟨_,rfl⟩
 obtain ⟨p10,h10⟩:∃ z,z=x1*y0:=⟨_,rfl⟩
 obtain ⟨p01,h01⟩:∃ z,z=x0*y1:=⟨_,rfl⟩
 obtain ⟨p11,h11⟩:∃ z,z=x1*y1:=⟨_,rfl⟩
 rw [← h00] at n00 bd bt bw hhi
 rw [← h10] at n10 bt bw hhi c10
 rw [← h01] at n01 bw hhi c01
 rw [← h11] at n11 hhi c11
 have q1:=abin_shr (k:=.u64) p00 32 32 rfl (by omega)
 obtain ⟨w,hw⟩:∃ z,z=p00 / 2^32:=⟨_,rfl⟩
 have hw':w=p00 / 4294967296:=hw
 rw [← hw] at q1
 rw [← hw'] at bt bw hhi
 have q2:=u64_addf p10 w bt
 obtain ⟨t,ht⟩:∃ z,z=p10+w:=⟨_,rfl⟩
 rw [← ht] at q2 bt bw hhi
 have q3:=abin_mask32 t bt
 have q4:=abin_shr (k:=.u64) t 32 32 rfl (by omega)
 obtain ⟨w1,hw1⟩:∃ z,z=t%4294967296:=⟨_,rfl⟩
 obtain ⟨w2,hw2⟩:∃ z,z=t / 2^32:=⟨_,rfl⟩
 have hw2':w2=t / 4294967296:=hw2
 rw [← hw1] at q3 bw hhi
 rw [← hw2] at q4
 rw [← hw2'] at hhi
 have q5:=u64_addf w1 p01 bw
 obtain ⟨v,hv⟩:∃ z,z=w1+p01:=⟨_,rfl⟩
 rw [← hv] at q5 bw hhi
 have q6:=abin_shr (k:=.u64) v 32 32 rfl (by omega)
 obtain ⟨u,hu⟩:∃ z,z=v / 2^32:=⟨_,rfl⟩
 have hu':u=v / 4294967296:=hu
 rw [← hu] at q6
 rw [← hu'] at hhi
 have q7:=u64_addf p11 w2 (by omega)
 obtain ⟨r,hr⟩:∃ z,z=p11+w2:=⟨_,rfl⟩
 rw [← hr] at q7 hhi
 have q8:=u64_addf r u (by omega)
 rw [hhi] at q8
 obtain ⟨hi,hhid⟩:∃ z,z=x*y / 18446744073709551616:=⟨_,rfl⟩
 obtain ⟨lo,hlod⟩:∃ z,z=x*y%18446744073709551616:=⟨_,rfl⟩
 rw [← hhid] at q8 ⊢
 rw [← hlod] at hlo ⊢
 refine Wr ?_; simp
 refine Wr ?_; simp [m1]
 refine Wr ?_; simp [m2]
 refine Wr ?_; simp [m3]
 refine Wr ?_; simp [m4]
 refine Wr ?_; simp [n00]
 refine Wr ?_; simp [n10,q1,q2]
 refine Wr ?_; simp [q3]
 refine Wr ?_; simp [q4]
 refine Wr ?_; simp [n01,q5]
 refine Wr ?_; simp [n11,q7,q6,q8]
 refine Wr ?_; simp [hlo]
 refine WS_ret ?_; simp
theorem row1_spec (a:List Nat) (ha:Nm.Dl 18446744073709551616 a) (k c x:Nat) (hx:x<18446744073709551616) (hk:k<a.length) (hc:c<18446744073709551616):
 Spec Tryz.prog f_nat_row_1 ([.i .i64 (k:Int),.i .u64 (c:Int)]++[.ref none (U a),.ref none (.i .u64 (x:Int))]) (· =[.pure (.i .u64 ((Nm.rowF 18446744073709551616 a x k c).1:Nat)),.pure (.i .u64 ((Nm.rowF 18446744073709551616 a x k c).2:Nat))]):=by
 refine spec_at Tryz.func208 ok_nat_row_1 [] rfl (by simp) ?_
 unfold sc_nat_row_1
 have hak:a[k]<18446744073709551616:=ha _ (List.getElem_mem hk)
 have m:=mul64_spec a[k] x hak hx
 have hb:=Nm.row_carry (by omega) ha hx (k:=k) hc
 have hg:a.getD k 0=a[k]:=by simp [List.getD,hk]
 have hR:Nm.rowF 18446744073709551616 a x k c=((a[k]*x+c)%18446744073709551616,(a[k]*x+c) / 18446744073709551616):=by rw [Nm.rowF,hg]
 rw [hg] at hb
 rw [hR]
 obtain ⟨p,hp⟩:∃ p,p=a[k]*x:=⟨_,rfl⟩
 rw [← hp] at m hb ⊢
 obtain ⟨hi,hhi⟩:∃ z,z=p / 18446744073709551616:=⟨_,rfl⟩
 obtain ⟨lo,hlo⟩:∃ z,z=p%18446744073709551616:=⟨_,rfl⟩
 rw [← hhi,←hlo] at m
 have ad:=add64_spec lo c 0 (by omega)
 have r1:(lo+c+0)%18446744073709551616=(p+c)%18446744073709551616:=by omega
 have hlt:(p+c) / 18446744073709551616<18446744073709551616:=Nat.div_lt_of_lt_mul hb
 obtain ⟨mo,hmo⟩:∃ z,z=(lo+c+0) / 18446744073709551616:=⟨_,rfl⟩
 have r2:hi+mo=(p+c) / 18446744073709551616:=by omega
 rw [r1,←hmo] at ad
 have q:=u64_addf hi mo (by omega)
 rw [r2] at q
 obtain ⟨s,hs⟩:∃ z,z=(p+c)%18446744073709551616:=⟨_,rfl⟩
 obtain ⟨t,ht⟩:∃ z,z=(p+c) / 18446744073709551616:=⟨_,rfl⟩
 rw [← hs] at ad ⊢
 rw [← ht] at q ⊢
 have ad':Spec Tryz.prog 177 [.i .u64 lo,.i .u64 c,.i .u64 0] (· =[.pure (.i .u64 (s:Int)),.pure (.i .u64 (mo:Int))]):=ad
 refine Wr ?_; simp [U]
 refine WS_seq (WS_regD [] ?_); simp [hk]
 refine callD m rfl ?_; simp
 refine ⟨rfl,?_⟩
 refine Wr ?_; simp
 refine callK ad' ?_; simp
 refine Wr ?_; simp [q]
 refine WS_ret ?_; simp
theorem row_spec (a:List Nat) (ha:Nm.Dl 18446744073709551616 a) (x:Nat) (hx:x<18446744073709551616) (hl:a.length≤2^38):
 Spec Tryz.prog f_nat_row [U a,.i .u64 (x:Int)] (· =[.pure (U (Nm.pad 18446744073709551616 (a.length+1) (Nm.val 18446744073709551616 a*x)))]):=by
 refine spec_at Tryz.func175 ok_nat_row [] rfl (by simp) ?_
 unfold sc_nat_row
 obtain ⟨hr,hc⟩:=Nm.crun_row (by omega) ha hx
 have hcat:=Nm.pad_cat (B:=18446744073709551616) (Nm.val 18446744073709551616 a*x) a.length hc
 have hlen:=Nm.pad_length 18446744073709551616 a.length (Nm.val 18446744073709551616 a*x)
 rw [← hcat]
 obtain ⟨L,hL⟩:∃ L,L=Nm.pad 18446744073709551616 a.length (Nm.val 18446744073709551616 a*x):=⟨_,rfl⟩
 obtain ⟨c,hcd⟩:∃ c,c=Nm.val 18446744073709551616 a*x / 18446744073709551616^a.length:=⟨_,rfl⟩
 rw [← hL,←hcd] at hr ⊢
 rw [← hL] at hlen
 refine Wr ?_; simp [U]
 refine WS_frz 2 2 none ?_
 simp [frzQ]
 refine WS_frz 3 3 none ?_
 simp [frzQ]
 refine Wr ?_; simp
 refine callK (carried_spec a.length (by omega) f_nat_row_1 [.ref none (U a),.ref none (.i .u64 (x:Int))] (Nm.rowF 18446744073709551616 a x) (· < 18446744073709551616) (by omega) (fun k c hk hc=>⟨row1_spec a ha k c x hx hk hc,Nat.div_lt_of_lt_mul (Nm.row_carry (by omega) ha hx hc)⟩)) ?_; simp [hr]
 refine WS_seq (WS_reg [17] ?_); simp [hlen,take_all' hlen]
 refine ⟨by omega,?_⟩
 refine WS_ret ?_; simp
theorem school_next {V P k xi:Nat} {R:List Nat} {i:Nat}:V+18446744073709551616^k*Nm.val 18446744073709551616 (R.take (i+1))=V+18446744073709551616^k*Nm.val 18446744073709551616 (R.take i)+18446744073709551616^(k+i)*R.getD i 0:=by
 rw [Nm.val_take_succ,Nat.mul_add,Nat.pow_add,Nat.add_assoc,Nat.mul_assoc]
theorem school_spec (a b:List Nat) (ha:Nm.Dl 18446744073709551616 a) (hb:Nm.Dl 18446744073709551616 b) (la:a.length≤2^36) (lb:b.length≤2^36):
 Spec Tryz.prog f_nat_school [U a,U b] (· =[.pure (U (Nm.dig 18446744073709551616 (Nm.val 18446744073709551616 a*Nm.val 18446744073709551616 b)))]):=by
 refine spec_at Tryz.func169 ok_nat_school [] rfl (by simp) ?_
 unfold sc_nat_school
 obtain ⟨va,hva⟩:∃ v,v=Nm.val 18446744073709551616 a:=⟨_,rfl⟩
 have hvalt:=Nm.val_lt ha
 rw [← hva] at hvalt ⊢
 obtain ⟨n,hn⟩:∃ n,n=a.length:=⟨_,rfl⟩
 obtain ⟨m,hm⟩:∃ m,m=b.length:=⟨_,rfl⟩
 rw [← hn] at hvalt
 have w0:=i64_addn n m (by omega)
 have w1:IntKind.i64.wrap ((n:Int)+m+1)=(n:Int)+m+1:=i64_int _ (by omega) (by omega)
 have htn:((n:Int)+m+1).toNat=n+m+1:=by omega
 refine Wr ?_; simp [U]
 refine Wr ?_; simp [← hn,←hm,w0,w1,htn]
 refine ⟨by omega,?_⟩
 refine Ws ?_; simp [← hm]
 refine WS_block (WS_loop (fun S=>∃ (k:Nat) (out:List Nat),k≤m∧S.σ 0= .p (.sl none (uL a))∧S.σ 18= .p (.sl none (uL b))∧S.σ 19= .p (.i .i64 (m:Int))∧S.σ 5= .own 17 1 0 (n+m+1)∧S.σ 20= .p (.i .i64 (k:Int))∧
  S.h 17=⟨1,some (.arr 118 none (uL out))⟩∧out.length=n+m+1∧Nm.Dl 18446744073709551616 out∧Nm.zeroFrom out (k+n)∧Nm.val 18446744073709551616 out=Nm.val 18446744073709551616 (b.take k)*va)
  (fun S=>match S.σ 20 with | .p (.i _ k)=>m-k.toNat | _=>0) ⟨0,List.replicate (n+m+1) 0,by omega,by simp,by simp,by simp,by simp,by simp,by simp,by simp,Nm.Dl.replicate (by omega) _,fun j _=>by simp [List.getD,List.getElem?_replicate]; split<;>simp,by simp [Nm.val_replicate,Nm.val]⟩ ?_)
 rintro S ⟨k,out,hk,h0,h18,h19,h5,h20,hh,ho1,ho2,ho3,ho4⟩
 refine Wr ?_; simp [h19,h20]
 by_cases hlt:k<m
 · refine WS_seq (WS_cT (by simp; omega) ?_)
   refine WS_skip ?_; simp
   have hkb:k<b.length:=by omega
   have hxi:=hb _ (List.getElem_mem hkb)
   have hts:=Nm.val_take_succ 18446744073709551616 b k
   have hbg:b.getD k 0=b[k]:=by simp [List.getD,hkb]
   rw [hbg] at hts
   obtain ⟨xi,hxid⟩:∃ xi,xi=b[k]:=⟨_,rfl⟩
   rw [← hxid] at hxi hts
   have hrow:=row_spec a ha xi hxi (by omega)
   have hRl:=Nm.pad_length 18446744073709551616 (a.length+1) (Nm.val 18446744073709551616 a*xi)
   have hRd:=Nm.pad_lt (B:=18446744073709551616) (by omega) (a.length+1) (Nm.val 18446744073709551616 a*xi)
   have hRv:=Nm.val_pad 18446744073709551616 (a.length+1) (Nm.val 18446744073709551616 a*xi)
   rw [← hva,←hn] at hrow hRl hRd hRv
   have hfit:va*xi<18446744073709551616^(n+1):=by
    rw [Nat.pow_succ]
    exact Nat.mul_lt_mul'' hvalt hxi
   rw [Nat.mod_eq_of_lt hfit] at hRv
   obtain ⟨R,hR⟩:∃ R,R=Nm.pad 18446744073709551616 (n+1) (va*xi):=⟨_,rfl⟩
   rw [← hR] at hrow hRl hRd hRv
   obtain ⟨V0,hV0⟩:∃ V0,V0=Nm.val 18446744073709551616 (b.take k)*va:=⟨_,rfl⟩
   rw [← hV0] at ho4
   have hall:V0+18446744073709551616^k*(va*xi)=Nm.val 18446744073709551616 (b.take (k+1))*va:=by
    rw [hts,Nat.add_mul,hV0,Nat.mul_assoc,Nat.mul_comm va xi]
   have hbk:Nm.val 18446744073709551616 (b.take (k+1))<18446744073709551616^(k+1):=by
    have:=Nm.val_lt (hb.take (k+1))
    have hl:(b.take (k+1)).length=k+1:=by simp; omega
    rwa [hl] at this
   have hbound:Nm.val 18446744073709551616 (b.take (k+1))*va<18446744073709551616^(k+(n+1)):=by
    rw [show k+(n+1)=(k+1)+n by omega,Nat.pow_add]
    exact Nat.mul_lt_mul'' hbk hvalt
   refine WS_seq (WS_block (Wr ?_)); simp [h18,h20,hkb,←hxid]
   refine Wr ?_; simp
   refine Wr ?_; simp [h0]
   refine callK hrow ?_; simp [U,hRl]
   refine WS_block (WS_loop (fun S=>∃ (i c:Nat) (out:List Nat),i≤n+1∧S.σ 0= .p (.sl none (uL a))∧S.σ 18= .p (.sl none (uL b))∧S.σ 19= .p (.i .i64 (m:Int))∧S.σ 5= .own 17 1 0 (n+m+1)∧S.σ 20= .p (.i .i64 (k:Int))∧
    S.σ 6= .p (.i .i64 (k:Int))∧S.σ 8= .p (.i .u64 (c:Int))∧S.σ 27= .p (.sl none (uL R))∧S.σ 28= .p (.i .i64 ((n:Int)+1))∧S.σ 29= .p (.i .i64 (i:Int))∧
    S.h 17=⟨1,some (.arr 118 none (uL out))⟩∧out.length=n+m+1∧Nm.Dl 18446744073709551616 out∧Nm.zeroFrom out (k+n+1)∧c≤1∧
    Nm.val 18446744073709551616 out+18446744073709551616^(k+i)*c=V0+18446744073709551616^k*Nm.val 18446744073709551616 (R.take i))
    (fun S=>match S.σ 29 with | .p (.i _ k)=>n+1-k.toNat | _=>0) ⟨0,0,out,by omega,by simp [h0],by simp [h18],by simp [h19],by simp [h5],by simp [h20],by simp,by simp,by simp,by simp,by simp,by simp [hh],ho1,ho2,fun j hj=>ho3 j (by omega),by omega,by simp [ho4,Nm.val]⟩ ?_)
   rintro S ⟨i,c,out,hi,h0,h18,h19,h5,h20,h6,h8,h27,h28,h29,hh,ho1,ho2,ho3,hc,ho4⟩
   refine Wr ?_; simp [h28,h29]
   by_cases hlt2:i<n+1
   · refine WS_seq (WS_cT (by simp; omega) ?_)
     refine WS_skip ?_; simp
     have hiR:i<R.length:=by omega
     have hrg:=hRd _ (List.getElem_mem hiR)
     have hnext:=school_next (V:=V0) (P:=0) (k:=k) (xi:=0) (R:=R) (i:=i)
     have hRg:R.getD i 0=R[i]:=by simp [List.getD,hiR]
     rw [hRg] at hnext
     obtain ⟨r,hrd⟩:∃ r,r=R[i]:=⟨_,rfl⟩
     rw [← hrd] at hrg hnext
     have hol:k+i<out.length:=by omega
     have hog:=ho2.get (by omega) (k+i)
     have hstep:=Nm.mul_step (B:=18446744073709551616) (z:=r) hol ho4
     rw [← hnext] at hstep
     obtain ⟨o,hod⟩:∃ o,o=out.getD (k+i) 0:=⟨_,rfl⟩
     rw [← hod] at hog hstep
     have hog':out[k+i]=o:=by rw [hod]; simp [List.getD,hol]
     have ad:=add64_spec o r c hc
     rw [Nat.add_comm o r] at ad
     have b5:(r+o+c) / 18446744073709551616≤1:=by omega
     have b4:(r+o+c)%18446744073709551616<18446744073709551616:=Nat.mod_lt _ (by omega)
     obtain ⟨tl,htl⟩:∃ z,z=(r+o+c)%18446744073709551616:=⟨_,rfl⟩
     obtain ⟨th,hth⟩:∃ z,z=(r+o+c) / 18446744073709551616:=⟨_,rfl⟩
     rw [← htl,←hth] at ad hstep
     rw [← htl] at b4
     rw [← hth] at b5
     have q1:=i64_addn k i (by omega)
     have q2:=i64_succ i (by omega)
     have hki:((k:Int)+i).toNat=k+i:=by omega
     have hki':(k:Int)+i<n+m+1:=by omega
     have hki0:(0:Int)≤(k:Int)+i:=by omega
     refine WS_seq (WS_block (Wr ?_)); simp [h27,h29,hiR,←hrd]
     refine WS_reg [] ?_; simp [h5,h6,h8,hh,q1,hki,hki',hki0,hol,hog']
     refine callK ad ?_; simp [hh,hki,hki',hki0,hol]
     refine WS_reg [] ?_; simp [h0,h5,h6,h18,h19,h20,h27,h28,h29,q2]
     refine ⟨⟨i+1,by omega,th,rfl,rfl,out.set (k+i) tl,rfl,by simp [ho1],ho2.set b4 _,Nm.zeroFrom_set ho3 (by omega) _,b5,hstep⟩,by omega⟩
   · have hi':i=n+1:=by omega
     refine WS_seq (WS_cF (by simp; omega) ?_)
     refine WS_exit ?_; simp
     rw [hi',Nm.take_all (by omega),hRv,hall] at ho4
     have hc0:c=0:=by
      rcases Nat.le_one_iff_eq_zero_or_eq_one.1 hc with h | h
      · exact h
      · rw [h,Nat.mul_one] at ho4; omega
     rw [hc0,Nat.mul_zero,Nat.add_zero] at ho4
     have q2:=i64_succ k (by omega)
     refine WS_reg [] ?_; simp [h0,h5,h18,h19,h20,hh,q2]
     refine ⟨⟨k+1,by omega,rfl,out,rfl,ho1,ho2,fun j hj=>ho3 j (by omega),ho4⟩,by omega⟩
 · have hk':k=m:=by omega
   refine WS_seq (WS_cF (by simp; omega) ?_)
   refine WS_exit ?_; simp
   refine WS_frz 17 5 none ?_
   simp [frzQ,h5,hh,ho1,take_all' ho1]
   refine Wr ?_; simp
   refine callK (plain_spec out (by omega)) ?_; simp
   refine WS_ret ?_
   rw [hk',Nm.take_all (by omega)] at ho4
   rw [← Nm.dig_val (by omega) ho2,ho4,Nat.mul_comm]
   simp [U]
theorem nless_spec (a b:List Nat) (ha:Nm.Dl 18446744073709551616 a) (hb:Nm.Dl 18446744073709551616 b) (la:a.length≤2^40) (lb:b.length≤2^40) (hle:Nm.val 18446744073709551616 b≤Nm.val 18446744073709551616 a):
 Spec Tryz.prog f_nat_less [U a,U b] (· =[.pure (U (Nm.dig 18446744073709551616 (Nm.val 18446744073709551616 a-Nm.val 18446744073709551616 b)))]):=by
 refine spec_at Tryz.func170 ok_nat_less [] rfl (by simp) ?_
 unfold sc_nat_less
 have s:=sub_spec a b ha hb la lb
 rw [if_pos hle] at s
 refine Wr ?_; simp
 refine Wr ?_; simp
 refine callK s ?_; simp
 refine Wr ?_; simp
 refine WS_ret ?_; simp
theorem min_len (m n:Nat):(if n<m then (n:Int) else (m:Int))=((min m n:Nat):Int):=by split<;>omega
theorem trim_idem {B:Nat} (hB:2≤B) {a:List Nat} (ha:Nm.Dl B a):Nm.trim (Nm.trim a)=Nm.trim a:=by rw [← Nm.dig_val hB ha,Nm.trim_dig hB]
theorem trim_dl {B:Nat} {a:List Nat} (ha:Nm.Dl B a):Nm.Dl B (Nm.trim a):=by rw [Nm.trim_take]; exact ha.take _
theorem val_halves {B:Nat} (x:List Nat) (h:Nat):Nm.val B (x.take (min h x.length))+B^h*Nm.val B (x.drop (min h x.length))=Nm.val B x:=by
 by_cases hl:h≤x.length
 · rw [Nat.min_eq_left hl,←Nm.val_split B x h hl]
 · rw [Nat.min_eq_right (by omega),List.take_length,List.drop_length]
   simp [Nm.val]
set_option maxHeartbeats 4000000 in
theorem nmul_spec:∀ (m:Nat) (a b:List Nat),Nm.Dl 18446744073709551616 a→Nm.Dl 18446744073709551616 b→a.length≤2^30→b.length≤2^30→(Nm.trim a).length≤m→(Nm.trim b).length≤m→
 Spec Tryz.prog f_nat_Mul [U a,U b] (· =[.pure (U (Nm.dig 18446744073709551616 (Nm.val 18446744073709551616 a*Nm.val 18446744073709551616 b)))]):=by
 intro m
 induction m using Nat.strongRecOn with
 | _ m ih=>
 intro a b ha hb la lb hma hmb
 refine spec_at Tryz.func117 ok_nat_Mul [] rfl (by simp) ?_
 unfold sc_nat_Mul
 have p1:=plain_spec a (by omega)
 have p2:=plain_spec b (by omega)
 have l1:=Nm.trim_length_le a
 have l2:=Nm.trim_length_le b
 have d1:=trim_dl ha
 have d2:=trim_dl hb
 have t1:=trim_idem (by omega) ha
 have t2:=trim_idem (by omega) hb
 rw [← Nm.trim_val 18446744073709551616 a,←Nm.trim_val 18446744073709551616 b]
 obtain ⟨x,hx⟩:∃ x,x=Nm.trim a:=⟨_,rfl⟩
 obtain ⟨y,hy⟩:∃ y,y=Nm.trim b:=⟨_,rfl⟩
 rw [← hx] at p1 l1 d1 t1 hma ⊢
 rw [← hy] at p2 l2 d2 t2 hmb ⊢
 refine Wr ?_; simp
 refine Wr ?_; simp
 refine callK p1 ?_; simp
 refine callK p2 ?_; simp
 refine Ws ?_; simp [U,min_len]
 by_cases hsm:((min x.length y.length:Nat):Int)<8
 · refine WS_cT (by simp; omega) ?_
   refine Wr ?_; simp
   refine callK (school_spec x y d1 d2 (by omega) (by omega)) ?_; simp
   refine WS_ret ?_; simp [U]
 · refine WS_cF (by simp; omega) (WS_skip ?_)
   simp
   obtain ⟨M,hM⟩:∃ M,M=max x.length y.length:=⟨_,rfl⟩
   obtain ⟨h,hh⟩:∃ h,h=M / 2:=⟨_,rfl⟩
   have hM8:8≤M:=by omega
   have hMm:M≤m:=by omega
   have q1:((M:Int)).tdiv 2=(h:Int):=by have:=tdiv_nat M 2; rw [← hh] at this; exact this
   have q2:=i64_nat h (by omega)
   refine Wr ?_; simp [max_len,←hM,q1,q2]
   obtain ⟨hx1,hxh⟩:∃ p,p=min h x.length:=⟨_,rfl⟩
   obtain ⟨hy1,hyh⟩:∃ p,p=min h y.length:=⟨_,rfl⟩
   have mx:(if x.length<h then (x.length:Int) else (h:Int))=(hx1:Int):=by rw [hxh]; split<;>omega
   have my:(if y.length<h then (y.length:Int) else (h:Int))=(hy1:Int):=by rw [hyh]; split<;>omega
   have vx:=val_halves (B:=18446744073709551616) x h
   have vy:=val_halves (B:=18446744073709551616) y h
   rw [← hxh] at vx
   rw [← hyh] at vy
   have hx1le:hx1≤x.length:=by omega
   have hy1le:hy1≤y.length:=by omega
   have da0:=trim_dl (d1.take hx1)
   have db0:=trim_dl (d2.take hy1)
   have da1:=d1.drop hx1
   have db1:=d2.drop hy1
   have va0:=Nm.trim_val 18446744073709551616 (x.take hx1)
   have vb0:=Nm.trim_val 18446744073709551616 (y.take hy1)
   have ta0:=trim_idem (by omega) (d1.take hx1)
   have tb0:=trim_idem (by omega) (d2.take hy1)
   have la0:=Nm.trim_length_le (x.take hx1)
   have lb0:=Nm.trim_length_le (y.take hy1)
   have la1:=Nm.trim_length_le (x.drop hx1)
   have lb1:=Nm.trim_length_le (y.drop hy1)
   have sp0:=plain_spec (x.take hx1) (by simp; omega)
   have sp1:=plain_spec (y.take hy1) (by simp; omega)
   obtain ⟨a0,ha0⟩:∃ z,z=Nm.trim (x.take hx1):=⟨_,rfl⟩
   obtain ⟨b0,hb0⟩:∃ z,z=Nm.trim (y.take hy1):=⟨_,rfl⟩
   obtain ⟨a1,ha1⟩:∃ z,z=x.drop hx1:=⟨_,rfl⟩
   obtain ⟨b1,hb1⟩:∃ z,z=y.drop hy1:=⟨_,rfl⟩
   have la1':a1.length≤M-h:=by rw [ha1]; simp; omega
   have lb1':b1.length≤M-h:=by rw [hb1]; simp; omega
   rw [List.length_take] at la0 lb0
   rw [← ha0] at da0 va0 ta0 la0 sp0
   rw [← hb0] at db0 vb0 tb0 lb0 sp1
   rw [← ha1] at da1 vx la1
   rw [← hb1] at db1 vy lb1
   rw [← va0] at vx
   rw [← vb0] at vy
   have lta0:Nm.val 18446744073709551616 a0<18446744073709551616^(M-h):=Nat.lt_of_lt_of_le (Nm.val_lt da0) (Nat.pow_le_pow_right (by omega) (by omega))
   have ltb0:Nm.val 18446744073709551616 b0<18446744073709551616^(M-h):=Nat.lt_of_lt_of_le (Nm.val_lt db0) (Nat.pow_le_pow_right (by omega) (by omega))
   have lta1:Nm.val 18446744073709551616 a1<18446744073709551616^(M-h):=Nat.lt_of_lt_of_le (Nm.val_lt da1) (Nat.pow_le_pow_right (by omega) (by omega))
   have ltb1:Nm.val 18446744073709551616 b1<18446744073709551616^(M-h):=Nat.lt_of_lt_of_le (Nm.val_lt db1) (Nat.pow_le_pow_right (by omega) (by omega))
   have hP:18446744073709551616^(M-h+1)=18446744073709551616^(M-h)*18446744073709551616:=Nat.pow_succ ..
   have ltsa:Nm.val 18446744073709551616 a0+Nm.val 18446744073709551616 a1<18446744073709551616^(M-h+1):=by rw [hP]; omega
   have ltsb:Nm.val 18446744073709551616 b0+Nm.val 18446744073709551616 b1<18446744073709551616^(M-h+1):=by rw [hP]; omega
   have lsa:=Nm.dig_length_le (B:=18446744073709551616) (by omega) ltsa
   have lsb:=Nm.dig_length_le (B:=18446744073709551616) (by omega) ltsb
   have ad1:=add_spec a0 a1 da0 da1 (by omega) (by omega)
   have ad2:=add_spec b0 b1 db0 db1 (by omega) (by omega)
   have lowS:=ih (M-1) (by omega) a0 b0 da0 db0 (by omega) (by omega) (by rw [ta0]; omega) (by rw [tb0]; omega)
   have highS:=ih (M-1) (by omega) a1 b1 da1 db1 (by omega) (by omega) (by omega) (by omega)
   have midS:=ih (M-1) (by omega) (Nm.dig 18446744073709551616 (Nm.val 18446744073709551616 a0+Nm.val 18446744073709551616 a1)) (Nm.dig 18446744073709551616 (Nm.val 18446744073709551616 b0+Nm.val 18446744073709551616 b1))
    (Nm.dig_lt (by omega) _) (Nm.dig_lt (by omega) _) (by omega) (by omega) (by rw [Nm.trim_dig (by omega)]; omega) (by rw [Nm.trim_dig (by omega)]; omega)
   rw [Nm.val_dig (by omega),Nm.val_dig (by omega)] at midS
   have hQ:18446744073709551616^(2*h)=18446744073709551616^h*18446744073709551616^h:=by rw [← Nat.pow_add]; congr 1; omega
   have kar:=Nm.kara (a0:=Nm.val 18446744073709551616 a0) (a1:=Nm.val 18446744073709551616 a1) (b0:=Nm.val 18446744073709551616 b0) (b1:=Nm.val 18446744073709551616 b1) hQ
   obtain ⟨k1,k2⟩:=Nm.kara_le (a0:=Nm.val 18446744073709551616 a0) (a1:=Nm.val 18446744073709551616 a1) (b0:=Nm.val 18446744073709551616 b0) (b1:=Nm.val 18446744073709551616 b1)
   rw [vx,vy] at kar
   have ltall:(Nm.val 18446744073709551616 a0+Nm.val 18446744073709551616 a1)*(Nm.val 18446744073709551616 b0+Nm.val 18446744073709551616 b1)<18446744073709551616^(2*M):=
    Nat.lt_of_lt_of_le (Nat.mul_lt_mul'' ltsa ltsb) (by rw [← Nat.pow_add]; exact Nat.pow_le_pow_right (by omega) (by omega))
   have ltxy:Nm.val 18446744073709551616 x*Nm.val 18446744073709551616 y<18446744073709551616^(2*M):=by
    have e1:Nm.val 18446744073709551616 x<18446744073709551616^M:=Nat.lt_of_lt_of_le (Nm.val_lt d1) (Nat.pow_le_pow_right (by omega) (by omega))
    have e2:Nm.val 18446744073709551616 y<18446744073709551616^M:=Nat.lt_of_lt_of_le (Nm.val_lt d2) (Nat.pow_le_pow_right (by omega) (by omega))
    rw [show 2*M=M+M by omega,Nat.pow_add]
    exact Nat.mul_lt_mul'' e1 e2
   obtain ⟨A,hA⟩:∃ z,z=(Nm.val 18446744073709551616 a0+Nm.val 18446744073709551616 a1)*(Nm.val 18446744073709551616 b0+Nm.val 18446744073709551616 b1):=⟨_,rfl⟩
   obtain ⟨Lo,hLo⟩:∃ z,z=Nm.val 18446744073709551616 a0*Nm.val 18446744073709551616 b0:=⟨_,rfl⟩
   obtain ⟨Hi,hHi⟩:∃ z,z=Nm.val 18446744073709551616 a1*Nm.val 18446744073709551616 b1:=⟨_,rfl⟩
   obtain ⟨XY,hXY⟩:∃ z,z=Nm.val 18446744073709551616 x*Nm.val 18446744073709551616 y:=⟨_,rfl⟩
   rw [← hA] at midS kar k1 k2 ltall
   rw [← hLo] at lowS kar k1 k2
   rw [← hHi] at highS kar k2
   rw [← hXY] at kar ltxy ⊢
   have lA:=Nm.dig_length_le (B:=18446744073709551616) (by omega) (n:=A) (k:=2*M) (by omega)
   have lLo:=Nm.dig_length_le (B:=18446744073709551616) (by omega) (n:=Lo) (k:=2*M) (by omega)
   have lHi:=Nm.dig_length_le (B:=18446744073709551616) (by omega) (n:=Hi) (k:=2*M) (by omega)
   have lA1:=Nm.dig_length_le (B:=18446744073709551616) (by omega) (n:=A-Lo) (k:=2*M) (by omega)
   have lA2:=Nm.dig_length_le (B:=18446744073709551616) (by omega) (n:=A-Lo-Hi) (k:=2*M) (by omega)
   have less1:=nless_spec (Nm.dig 18446744073709551616 A) (Nm.dig 18446744073709551616 Lo) (Nm.dig_lt (by omega) _) (Nm.dig_lt (by omega) _) (by omega) (by omega) (by rw [Nm.val_dig (by omega),Nm.val_dig (by omega)]; exact k1)
   have less2:=nless_spec (Nm.dig 18446744073709551616 (A-Lo)) (Nm.dig 18446744073709551616 Hi) (Nm.dig_lt (by omega) _) (Nm.dig_lt (by omega) _) (by omega) (by omega) (by rw [Nm.val_dig (by omega),Nm.val_dig (by omega)]; exact k2)
   rw [Nm.val_dig (by omega),Nm.val_dig (by omega)] at less1 less2
   have mv1:=moved_spec (Nm.dig 18446744073709551616 (A-Lo-Hi)) h (by omega) (by omega)
   have mv2:=moved_spec (Nm.dig 18446744073709551616 Hi) (2*h) (by omega) (by omega)
   have dmv1:Nm.Dl 18446744073709551616 (List.replicate h 0++Nm.dig 18446744073709551616 (A-Lo-Hi)):=(Nm.Dl.replicate (by omega) _).append (Nm.dig_lt (by omega) _)
   have dmv2:Nm.Dl 18446744073709551616 (List.replicate (2*h) 0++Nm.dig 18446744073709551616 Hi):=(Nm.Dl.replicate (by omega) _).append (Nm.dig_lt (by omega) _)
   have vmv1:Nm.val 18446744073709551616 (List.replicate h 0++Nm.dig 18446744073709551616 (A-Lo-Hi))=18446744073709551616^h*(A-Lo-Hi):=by rw [Nm.val_append,Nm.val_replicate,Nm.val_dig (by omega)]; simp
   have vmv2:Nm.val 18446744073709551616 (List.replicate (2*h) 0++Nm.dig 18446744073709551616 Hi)=18446744073709551616^(2*h)*Hi:=by rw [Nm.val_append,Nm.val_replicate,Nm.val_dig (by omega)]; simp
   obtain ⟨S1v,hS1⟩:∃ z,z=Lo+18446744073709551616^h*(A-Lo-Hi):=⟨_,rfl⟩
   have ad3:=add_spec (Nm.dig 18446744073709551616 Lo) (List.replicate h 0++Nm.dig 18446744073709551616 (A-Lo-Hi)) (Nm.dig_lt (by omega) _) dmv1 (by omega) (by simp; omega)
   rw [Nm.val_dig (by omega),vmv1,←hS1] at ad3
   have lS1:=Nm.dig_length_le (B:=18446744073709551616) (by omega) (n:=S1v) (k:=2*M) (by omega)
   have ad4:=add_spec (Nm.dig 18446744073709551616 S1v) (List.replicate (2*h) 0++Nm.dig 18446744073709551616 Hi) (Nm.dig_lt (by omega) _) dmv2 (by omega) (by simp; omega)
   rw [Nm.val_dig (by omega),vmv2,hS1,kar] at ad4
   rw [← hS1] at ad4
   have q3:IntKind.i64.wrap (2*(h:Int))=((2*h:Nat):Int):=by rw [i64_int _ (by omega) (by omega)]; omega
   obtain ⟨h2,hh2⟩:∃ z,z=2*h:=⟨_,rfl⟩
   rw [← hh2] at mv2 ad4 q3
   refine WS_seq (WS_regD [] ?_); simp [mx,hx1le]
   refine callD sp0 rfl ?_; simp [mx,hx1le,←ha1]
   refine ⟨rfl,?_⟩
   refine WS_seq (WS_regD [] ?_); simp [my,hy1le]
   refine callD sp1 rfl ?_; simp [my,hy1le,←hb1]
   refine ⟨rfl,?_⟩
   refine Wr ?_; simp [U]
   refine callK lowS ?_; simp
   refine callK highS ?_; simp
   refine Wr ?_; simp [U]
   refine callK ad1 ?_; simp
   refine callK ad2 ?_; simp
   refine callK midS ?_; simp [U]
   refine callK less1 ?_; simp [U]
   refine callK less2 ?_; simp
   refine Wr ?_; simp [U]
   refine callK mv1 ?_; simp [U]
   refine callK ad3 ?_; simp [U,q3]
   refine callK mv2 ?_; simp [U]
   refine callK ad4 ?_; simp
   refine WS_ret ?_; simp [U]
theorem mul_spec (a b:List Nat) (ha:Nm.Dl 18446744073709551616 a) (hb:Nm.Dl 18446744073709551616 b) (la:a.length≤2^30) (lb:b.length≤2^30):
 Spec Tryz.prog f_nat_Mul [U a,U b] (· =[.pure (U (Nm.dig 18446744073709551616 (Nm.val 18446744073709551616 a*Nm.val 18446744073709551616 b)))]):=
 nmul_spec (a.length+b.length) a b ha hb la lb (by have:=Nm.trim_length_le a; omega) (by have:=Nm.trim_length_le b; omega)
theorem bitLen_le64 {x:Nat} (hx:x<18446744073709551616):Lib.bitLen x≤64:=by
 by_cases h0:x=0
 · subst h0; rw [bitLen_zero]; omega
 · by_cases h65:Lib.bitLen x≤64
   · exact h65
   · have:=(bitLen_spec x h0 hx).2
     have h3:2^65≤2^Lib.bitLen x:=Nat.pow_le_pow_right (by omega) (by omega)
     omega
theorem lz_spec (x:Nat) (hx:x<18446744073709551616):Spec Tryz.prog f_bits_LeadingZeros64 [.i .u64 (x:Int)] (· =[.pure (.i .i64 ((64-Lib.bitLen x:Nat):Int))]):=by
 refine spec_at Tryz.func173 ok_bits_LeadingZeros64 [] rfl (by simp) ?_
 unfold sc_bits_LeadingZeros64
 have hb:=bitLen_le64 hx
 have l:=len64_spec x hx
 obtain ⟨k,hk⟩:∃ k,k=Lib.bitLen x:=⟨_,rfl⟩
 rw [← hk] at hb l ⊢
 have w:IntKind.i64.wrap (64-(k:Int))=((64-k:Nat):Int):=by rw [i64_int _ (by omega) (by omega)]; omega
 obtain ⟨j,hj⟩:∃ j,j=64-k:=⟨_,rfl⟩
 rw [← hj] at w ⊢
 refine Wr ?_; simp
 refine Wr ?_; simp
 refine callK l ?_; simp [w]
 refine WS_ret ?_; simp
theorem d64_start {hi lo y:Nat} (hy:y≠0) (hlt:hi<y) (hy64:y<18446744073709551616) (hlo:lo<18446744073709551616):
 ∃ s yn v1 v0 A L u1 u0 T1 R T0:Nat,s=64-Lib.bitLen y∧s<64∧yn=y*2^s∧yn<18446744073709551616∧v1=yn / 4294967296∧v0=yn%4294967296∧2147483648≤v1∧v1<4294967296∧
  hi*2^s<18446744073709551616∧(hi*2^s ||| lo / 2^(64-s))=A∧lo / 2^(64-s)<18446744073709551616∧A<yn∧L=lo*2^s%18446744073709551616∧u1=L / 4294967296∧u0=L%4294967296∧
  T1=(A*4294967296+u1) / (v1*4294967296+v0)∧v1*4294967296+v0=yn∧R=A*4294967296+u1-T1*yn∧T1*yn≤A*4294967296+u1∧R<yn∧T1<4294967296∧
  T0=(R*4294967296+u0) / (v1*4294967296+v0)∧T0<4294967296∧T0*yn≤R*4294967296+u0∧R*4294967296+u0-T0*yn<18446744073709551616∧
  T1*4294967296+T0=(hi*18446744073709551616+lo) / y∧(R*4294967296+u0-T0*yn) / 2^s=(hi*18446744073709551616+lo)%y:=by
 have hb:=bitLen_le64 hy64
 obtain ⟨b1,b2⟩:=bitLen_spec y hy hy64
 have hbp:0<Lib.bitLen y:=by
  rcases Nat.eq_zero_or_pos (Lib.bitLen y) with h | h
  · rw [h] at b1; omega
  · exact h
 obtain ⟨k,hk⟩:∃ k,k=Lib.bitLen y:=⟨_,rfl⟩
 rw [← hk] at hb b1 b2 hbp ⊢
 obtain ⟨s,hs⟩:∃ s,s=64-k:=⟨_,rfl⟩
 have hps:0<2^s:=Nat.pow_pos (by omega)
 have hk64:2^k*2^s=18446744073709551616:=by rw [← Nat.pow_add,show k+s=64 by omega]
 have hks:2^(64-s)*2^s=18446744073709551616:=by rw [← Nat.pow_add,show 64-s+s=64 by omega]
 have y1:y*2^s<18446744073709551616:=by rw [← hk64]; exact Nat.mul_lt_mul_of_pos_right b1 hps
 have y2:18446744073709551616≤2*(y*2^s):=by
  have:=Nat.mul_le_mul_right (2^s) b2
  rw [hk64,Nat.mul_assoc] at this
  exact this
 have hhi:hi*2^s<y*2^s:=Nat.mul_lt_mul_of_pos_right hlt hps
 have hlow:lo / 2^(64-s)<2^s:=Nat.div_lt_of_lt_mul (by rw [hks]; exact hlo)
 have hor:(hi*2^s ||| lo / 2^(64-s))=hi*2^s+lo / 2^(64-s):=or_apart hlow
 obtain ⟨A,hA⟩:∃ A,A=hi*2^s+lo / 2^(64-s):=⟨_,rfl⟩
 have hsh:lo*2^s / 18446744073709551616=lo / 2^(64-s):=by rw [← hks,Nat.mul_div_mul_right _ _ hps]
 have hwhole:A*18446744073709551616+lo*2^s%18446744073709551616=(hi*18446744073709551616+lo)*2^s:=by
  have:=Nat.div_add_mod (lo*2^s) 18446744073709551616
  rw [hsh] at this
  have e:hi*18446744073709551616*2^s=hi*2^s*18446744073709551616:=Nat.mul_right_comm ..
  rw [hA,Nat.add_mul,Nat.add_mul,e]
  omega
 have hAy:A<y*2^s:=by
  have h1:hi*18446744073709551616+lo<y*18446744073709551616:=by
   have:(hi+1)*18446744073709551616≤y*18446744073709551616:=Nat.mul_le_mul_right _ hlt
   omega
  have h2:(hi*18446744073709551616+lo)*2^s<y*18446744073709551616*2^s:=Nat.mul_lt_mul_of_pos_right h1 hps
  rw [← hwhole,Nat.mul_right_comm] at h2
  omega
 obtain ⟨yn,hyn⟩:∃ yn,yn=y*2^s:=⟨_,rfl⟩
 rw [← hyn] at y1 y2 hhi hAy
 obtain ⟨L,hL⟩:∃ L,L=lo*2^s%18446744073709551616:=⟨_,rfl⟩
 rw [← hL] at hwhole
 have hL64:L<18446744073709551616:=by rw [hL]; exact Nat.mod_lt _ (by omega)
 have hyy:yn / 4294967296*4294967296+yn%4294967296=yn:=Nat.div_add_mod' ..
 have td:=Nm.two_digits (y:=yn) (A:=A) (u1:=L / 4294967296) (u0:=L%4294967296) (D:=4294967296) (by omega) hAy (by omega) (by omega)
 obtain ⟨c1,c2,c3,c4,c5⟩:=td
 have hLL:L / 4294967296*4294967296+L%4294967296=L:=Nat.div_add_mod' ..
 rw [hLL,show 4294967296*4294967296=18446744073709551616 from rfl,hwhole,hyn,Nat.mul_div_mul_right _ _ hps,←hyn] at c4
 rw [hLL,show 4294967296*4294967296=18446744073709551616 from rfl,hwhole,hyn,Nat.mul_mod_mul_right,←hyn] at c5
 obtain ⟨T1,hT1⟩:∃ T1,T1=(A*4294967296+L / 4294967296) / yn:=⟨_,rfl⟩
 rw [← hT1] at c1 c2 c3 c4 c5
 have hle1:T1*yn≤A*4294967296+L / 4294967296:=by rw [hT1]; exact Nat.div_mul_le_self _ _
 obtain ⟨R,hR⟩:∃ R,R=A*4294967296+L / 4294967296-T1*yn:=⟨_,rfl⟩
 rw [← hR] at c1 c3 c4 c5
 obtain ⟨T0,hT0⟩:∃ T0,T0=(R*4294967296+L%4294967296) / yn:=⟨_,rfl⟩
 rw [← hT0] at c3 c4 c5
 have hle0:T0*yn≤R*4294967296+L%4294967296:=by rw [hT0]; exact Nat.div_mul_le_self _ _
 have hmod:(hi*18446744073709551616+lo)%y*2^s<18446744073709551616:=by
  have:(hi*18446744073709551616+lo)%y*2^s<y*2^s:=Nat.mul_lt_mul_of_pos_right (Nat.mod_lt _ (by omega)) hps
  rw [← hyn] at this; omega
 refine ⟨s,yn,yn / 4294967296,yn%4294967296,A,L,L / 4294967296,L%4294967296,T1,R,T0,hs,by omega,hyn,y1,rfl,rfl,by omega,by omega,by omega,by rw [hor,hA],by omega,hAy,hL,rfl,rfl,
  by rw [hyy]; exact hT1,hyy,hR,hle1,c1,c2,by rw [hyy]; exact hT0,c3,hle0,by rw [← c5]; exact hmod,c4.symm,?_⟩
 rw [← c5,Nat.mul_div_cancel _ hps]
theorem guess_le {A v1 v0:Nat} (h1:2147483648≤v1) (hA:A<v1*4294967296+v0) (h0:v0<4294967296):A / v1≤4294967297:=by
 have h:A / v1<4294967298:=(Nat.div_lt_iff_lt_mul (by omega)).2 (by omega)
 omega
theorem big_le (r:Nat) (h:(4294967296:Int)≤(r:Int)):4294967296≤r:=by omega
theorem big_lt (r:Nat) (h:¬ (4294967296:Int)≤(r:Int)):r<4294967296:=by omega
theorem start_facts {A v1 Q P r:Nat} (hv:2147483648≤v1) (hv':v1<4294967296) (dm:P+A%v1=A) (hP:P=Q*v1) (hr:r=A-P):Q*v1+r=A∧r<4294967296:=by
 have:=Nat.mod_lt A (show 0<v1 by omega)
 rw [← hP]; omega
theorem over_done {v1 v0 A u q r T:Nat} (hT:T=(A*4294967296+u) / (v1*4294967296+v0)) (hy:0<v1*4294967296+v0) (hqr:q*v1+r=A) (hge:T≤q) (h0:v0<4294967296) (hq:q≤4294967296) (hr:4294967296≤r):q=T:=by
 refine Nm.guess_done hT hy hqr hge ?_
 have h1:q*v0≤4294967296*4294967295:=Nat.mul_le_mul hq (by omega)
 have h2:4294967296*4294967296≤4294967296*r:=Nat.mul_le_mul_left _ hr
 omega
theorem d64_step {v1 v0 A u q r T:Nat} (hT:T=(A*4294967296+u) / (v1*4294967296+v0)) (h1:2147483648≤v1) (h1':v1<4294967296) (h0:v0<4294967296) (hu:u<4294967296) (hA:A<v1*4294967296+v0)
 (hqr:q*v1+r=A) (hge:T≤q) (hq:q≤4294967297) (hr:r<4294967296):
 (4294967296≤q→T<q)∧(q<4294967296→q*v0<18446744073709551616∧4294967296*r<18446744073709551616∧4294967296*r+u<18446744073709551616∧(4294967296*r+u<q*v0→T<q)∧(q*v0≤4294967296*r+u→q=T))∧
 (T<q→1≤q∧q<18446744073709551616∧(q-1)*v1+(r+v1)=A∧T≤q-1∧q-1≤4294967297∧r+v1<18446744073709551616∧q-1<q∧(4294967296≤r+v1→q-1=T)):=by
 refine ⟨fun h=>Nm.guess_down (by omega) hT hA hu hqr (.inl h),fun h=>?_,fun h=>?_⟩
 · have h2:q*v0≤4294967295*4294967295:=Nat.mul_le_mul (by omega) (by omega)
   exact ⟨by omega,by omega,by omega,fun h3=>Nm.guess_down (by omega) hT hA hu hqr (.inr h3),fun h3=>Nm.guess_done hT (by omega) hqr hge h3⟩
 · have e:(q-1)*v1+(r+v1)=A:=by
    obtain ⟨p,rfl⟩:∃ p,q=p+1:=⟨q-1,by omega⟩
    rw [Nat.add_mul,Nat.one_mul] at hqr
    rw [Nat.add_sub_cancel]; omega
   exact ⟨by omega,by omega,e,by omega,by omega,by omega,by omega,fun h3=>over_done hT (by omega) e (by omega) h0 (by omega) h3⟩
set_option maxHeartbeats 400000 in
theorem div64_spec (hi lo y:Nat) (hy:y≠0) (hlt:hi<y) (hy64:y<18446744073709551616) (hlo:lo<18446744073709551616):
 Spec Tryz.prog f_bits_Div64 [.i .u64 (hi:Int),.i .u64 (lo:Int),.i .u64 (y:Int)] (· =[.pure (.i .u64 (((hi*18446744073709551616+lo) / y:Nat):Int)),.pure (.i .u64 (((hi*18446744073709551616+lo)%y:Nat):Int))]):=by
 refine spec_at Tryz.func201 ok_bits_Div64 [] rfl (by simp) ?_
 unfold sc_bits_Div64
 obtain ⟨Qv,hQv⟩:∃ z,z=(hi*18446744073709551616+lo) / y:=⟨_,rfl⟩
 obtain ⟨Mv,hMv⟩:∃ z,z=(hi*18446744073709551616+lo)%y:=⟨_,rfl⟩
 rw [← hQv,←hMv]
 have hy0:¬ (y:Int)=0:=by omega
 refine Wr ?_; simp
 refine Ws ?_; simp
 refine WS_cF (by simp; omega) (WS_skip ?_)
 simp
 refine Ws ?_; simp
 refine WS_cF (by simp; omega) (WS_skip ?_)
 simp
 refine Ws ?_; simp
 by_cases hh:hi=0
 · subst hh
   have q1:(lo:Int).tdiv y=((lo / y:Nat):Int):=tdiv_nat lo y
   have q2:(lo:Int).tmod y=((lo%y:Nat):Int):=tmod_nat lo y
   have q3:IntKind.u64.wrap ((lo / y:Nat):Int)=((lo / y:Nat):Int):=u64_fit _ (Nat.lt_of_le_of_lt (Nat.div_le_self _ _) hlo)
   rw [Nat.zero_mul,Nat.zero_add] at hQv hMv
   rw [← hQv] at q1 q3
   rw [← hMv] at q2
   refine WS_cT (by simp) ?_
   refine WS_seq (WS_regD [] ?_); simp [q1,q2,q3,hy]
   refine ⟨rfl,?_⟩
   refine WS_ret ?_; simp
 · obtain ⟨s,yn,v1,v0,A,L,u1,u0,T1,R,T0,hs,hs64,hyn,hyn64,hv1,hv0,hv1lo,hv1hi,hsh,hor,hlosh,hAyn,hL,hu1,hu0,hT1,hyy,hR,hle1,hRy,hT1D,hT0,hT0D,hle0,hR0,hQ,hMod⟩:=d64_start hy hlt hy64 hlo
   have lz:=lz_spec y hy64
   rw [← hs] at lz
   rw [← hQ] at hQv
   rw [← hMod] at hMv
   have hv0D:v0<4294967296:=by omega
   have hu1D:u1<4294967296:=by omega
   have hu0D:u0<4294967296:=by omega
   have hypos:0<v1*4294967296+v0:=by omega
   have k0:=u64_fit s (by omega)
   have e1:=abin_shl (k:=.u64) y (s:Int) s rfl (by omega)
   rw [← hyn,Nat.mod_eq_of_lt hyn64] at e1
   have e2:=abin_shr (k:=.u64) yn 32 32 rfl (by omega)
   have e2':yn / 2^32=v1:=hv1.symm
   rw [e2'] at e2
   have e3:=abin_mask32 yn hyn64
   rw [← hv0] at e3
   have e4:=abin_shl (k:=.u64) hi (s:Int) s rfl (by omega)
   rw [Nat.mod_eq_of_lt hsh] at e4
   have e5:IntKind.u64.wrap (64-(s:Int))=((64-s:Nat):Int):=u64_sub 64 s (by omega) (by omega)
   have e6:=abin_shr (k:=.u64) lo ((64-s:Nat):Int) (64-s) rfl (by omega)
   have e7:=abin_or (hi*2^s) (lo / 2^(64-s)) hsh hlosh
   rw [hor] at e7
   have e8:=abin_shl (k:=.u64) lo (s:Int) s rfl (by omega)
   rw [← hL] at e8
   have hL64:L<18446744073709551616:=by rw [hL]; exact Nat.mod_lt _ (by omega)
   have e9:=abin_shr (k:=.u64) L 32 32 rfl (by omega)
   have e9':L / 2^32=u1:=hu1.symm
   rw [e9'] at e9
   have e10:=abin_mask32 L hL64
   rw [← hu0] at e10
   obtain ⟨hs1,hhs1⟩:∃ z,z=hi*2^s:=⟨_,rfl⟩
   obtain ⟨ls1,hls1⟩:∃ z,z=lo / 2^(64-s):=⟨_,rfl⟩
   obtain ⟨cs,hcs⟩:∃ z,z=64-s:=⟨_,rfl⟩
   rw [← hhs1] at e4 e7
   rw [← hls1] at e6 e7
   rw [← hcs] at e5 e6
   have hA64:A<18446744073709551616:=by omega
   have hv1z:v1≠0:=by omega
   have dm1:=Nat.div_add_mod A v1
   have ml1:=Nat.mod_lt A (show 0<v1 by omega)
   have gl1:=guess_le hv1lo (by rw [hyy]; exact hAyn) hv0D
   have gf1:=Nm.guess_first (v1:=v1) (v0:=v0) (A:=A) (u:=u1) (D:=4294967296) (by omega) hu1D
   rw [← hT1] at gf1
   have f1:(A:Int).tdiv v1=((A / v1:Nat):Int):=tdiv_nat A v1
   obtain ⟨Q1,hQ1⟩:∃ z,z=A / v1:=⟨_,rfl⟩
   rw [← hQ1] at dm1 gl1 gf1 f1
   have f2:=u64_fit Q1 (by omega)
   rw [Nat.mul_comm] at dm1
   have f3:=u64_mulf Q1 v1 (by omega)
   have f4:=u64_sub A (Q1*v1) (by omega) hA64
   obtain ⟨P1,hP1⟩:∃ z,z=Q1*v1:=⟨_,rfl⟩
   rw [← hP1] at dm1 f3 f4
   obtain ⟨r1,hr1⟩:∃ z,z=A-P1:=⟨_,rfl⟩
   rw [← hr1] at f4
   have g1:=u64_mul A 4294967296
   have g1':IntKind.u64.wrap ((A:Int)*4294967296)=((A*4294967296%18446744073709551616:Nat):Int):=g1
   have g2:=u64_add (A*4294967296%18446744073709551616) u1
   have g3:=u64_mul T1 yn
   have g4:=u64_subw ((A*4294967296%18446744073709551616+u1)%18446744073709551616) (T1*yn%18446744073709551616) (Nat.mod_lt _ (by omega)) (Nat.mod_lt _ (by omega))
   have wr:=Nm.wrap_rest (X:=A*4294967296) (Y:=T1*yn) (u:=u1) hle1 (by rw [← hR]; exact Nat.lt_trans hRy hyn64)
   rw [wr,←hR] at g4
   obtain ⟨z1,hz1⟩:∃ z,z=A*4294967296%18446744073709551616:=⟨_,rfl⟩
   obtain ⟨z3,hz3⟩:∃ z,z=T1*yn%18446744073709551616:=⟨_,rfl⟩
   rw [← hz1] at g1' g2 g4
   rw [← hz3] at g3 g4
   obtain ⟨z2,hz2⟩:∃ z,z=(z1+u1)%18446744073709551616:=⟨_,rfl⟩
   rw [← hz2] at g2 g4
   have hRyn:R<v1*4294967296+v0:=by rw [hyy]; exact hRy
   have dm2:=Nat.div_add_mod R v1
   have ml2:=Nat.mod_lt R (show 0<v1 by omega)
   have gl2:=guess_le hv1lo hRyn hv0D
   have gf2:=Nm.guess_first (v1:=v1) (v0:=v0) (A:=R) (u:=u0) (D:=4294967296) (by omega) hu0D
   rw [← hT0] at gf2
   have i1:(R:Int).tdiv v1=((R / v1:Nat):Int):=tdiv_nat R v1
   obtain ⟨Q0,hQ0⟩:∃ z,z=R / v1:=⟨_,rfl⟩
   rw [← hQ0] at dm2 gl2 gf2 i1
   have i2:=u64_fit Q0 (by omega)
   rw [Nat.mul_comm] at dm2
   have i3:=u64_mulf Q0 v1 (by omega)
   have i4:=u64_sub R (Q0*v1) (by omega) (by omega)
   obtain ⟨P0,hP0⟩:∃ z,z=Q0*v1:=⟨_,rfl⟩
   rw [← hP0] at dm2 i3 i4
   obtain ⟨r0,hr0⟩:∃ z,z=R-P0:=⟨_,rfl⟩
   rw [← hr0] at i4
   have j1:IntKind.u64.wrap ((T1:Int)*4294967296)=((T1*4294967296:Nat):Int):=u64_mulf T1 4294967296 (by omega)
   have j2:=u64_addf (T1*4294967296) T0 (by omega)
   have j3:IntKind.u64.wrap ((R:Int)*4294967296)=((R*4294967296%18446744073709551616:Nat):Int):=u64_mul R 4294967296
   have j4:=u64_add (R*4294967296%18446744073709551616) u0
   have j5:=u64_mul T0 yn
   have j6:=u64_subw ((R*4294967296%18446744073709551616+u0)%18446744073709551616) (T0*yn%18446744073709551616) (Nat.mod_lt _ (by omega)) (Nat.mod_lt _ (by omega))
   have wr0:=Nm.wrap_rest (X:=R*4294967296) (Y:=T0*yn) (u:=u0) hle0 hR0
   rw [wr0] at j6
   have j7:=abin_shr (k:=.u64) (R*4294967296+u0-T0*yn) (s:Int) s rfl (by omega)
   obtain ⟨w1,hw1⟩:∃ z,z=R*4294967296%18446744073709551616:=⟨_,rfl⟩
   obtain ⟨w3,hw3⟩:∃ z,z=T0*yn%18446744073709551616:=⟨_,rfl⟩
   rw [← hw1] at j3 j4 j6
   rw [← hw3] at j5 j6
   obtain ⟨w2,hw2⟩:∃ z,z=(w1+u0)%18446744073709551616:=⟨_,rfl⟩
   rw [← hw2] at j4 j6
   obtain ⟨fr,hfr⟩:∃ z,z=R*4294967296+u0-T0*yn:=⟨_,rfl⟩
   rw [← hfr] at j6 j7 hMv
   obtain ⟨fs,hfs⟩:∃ z,z=fr / 2^s:=⟨_,rfl⟩
   rw [← hfs] at j7 hMv
   obtain ⟨tt,htt⟩:∃ z,z=T1*4294967296:=⟨_,rfl⟩
   rw [← htt] at j1 j2 hQv
   rw [← hQv] at j2
   subst hMv
   refine WS_cF (by simp; omega) (WS_skip ?_)
   simp
   refine Wr ?_; simp
   refine callK lz ?_; simp [k0]
   refine Wr ?_; simp [e1]
   refine Wr ?_; simp [e2]
   refine Wr ?_; simp [e3]
   refine Wr ?_; simp [e4,e5,e6,e7]
   refine Wr ?_; simp [e8]
   refine Wr ?_; simp [e9]
   refine Wr ?_; simp [e10]
   refine Wr ?_; simp [f1,f2,hv1z]
   refine Wr ?_; simp [f3,f4]
   refine WS_cut (fun S=>S.σ 2= .p (.i .u64 (yn:Int))∧S.σ 8= .p (.i .u64 (s:Int))∧S.σ 9= .p (.i .u64 (v1:Int))∧S.σ 10= .p (.i .u64 (v0:Int))∧S.σ 11= .p (.i .u64 (A:Int))∧S.σ 13= .p (.i .u64 (u1:Int))∧S.σ 14= .p (.i .u64 (u0:Int))∧S.σ 15= .p (.i .u64 (T1:Int))) ?_ ?_
   · refine WS_block (WS_loop (fun S=>∃ q r:Nat,S.σ 2= .p (.i .u64 (yn:Int))∧S.σ 8= .p (.i .u64 (s:Int))∧S.σ 9= .p (.i .u64 (v1:Int))∧S.σ 10= .p (.i .u64 (v0:Int))∧S.σ 11= .p (.i .u64 (A:Int))∧S.σ 13= .p (.i .u64 (u1:Int))∧S.σ 14= .p (.i .u64 (u0:Int))∧
      S.σ 15= .p (.i .u64 (q:Int))∧S.σ 16= .p (.i .u64 (r:Int))∧q*v1+r=A∧T1≤q∧q≤4294967297∧r<4294967296) (fun S=>match S.σ 15 with | .p (.i _ k)=>k.toNat | _=>0)
      ⟨Q1,r1,by simp,by simp,by simp,by simp,by simp,by simp,by simp,by simp,by simp,(start_facts hv1lo hv1hi dm1 hP1 hr1).1,gf1,gl1,(start_facts hv1lo hv1hi dm1 hP1 hr1).2⟩ ?_)
     rintro S ⟨q,r,h2,h8,h9,h10,h11,h13,h14,h15,h16,hqr,hge,hq,hr⟩
     refine Ws ?_
     obtain ⟨st1,st2,st3⟩:=d64_step hT1 hv1lo hv1hi hv0D hu1D (by rw [hyy]; exact hAyn) hqr hge hq hr
     by_cases c1:(4294967296:Int)≤(q:Int)
     · have hgt:=st1 (big_le q c1)
       obtain ⟨b0,b00,b1,b2,b3,b4,b5,b6⟩:=st3 hgt
       have n5:IntKind.u64.wrap ((q:Int)-1)=((q-1:Nat):Int):=u64_sub q 1 b0 b00
       have n6:=u64_addf r v1 b4
       obtain ⟨q',hq'⟩:∃ z,z=q-1:=⟨_,rfl⟩
       obtain ⟨r',hr'⟩:∃ z,z=r+v1:=⟨_,rfl⟩
       rw [← hq'] at n5 b1 b2 b3 b5 b6
       rw [← hr'] at n6 b1 b6
       simp [h15,c1]
       refine WS_cT (by simp) (WS_skip ?_)
       simp
       refine WS_block (Wr ?_); simp [h15,n5]
       refine Wr ?_; simp [h9,h16,n6]
       refine Wr ?_; simp
       by_cases c3:(4294967296:Int)≤(r':Int)
       · have hdone:=b6 (big_le r' c3)
         refine WS_cond (t:=true) (by simp [c3]) (fun _=>WS_exit ?_) (fun h=>by cases h)
         simp [h2,h8,h9,h10,h11,h13,h14,hdone]
       · refine WS_cF (by simp; exact Int.not_le.1 c3) (WS_skip ?_)
         simp [h2,h8,h9,h10,h11,h13,h14]
         exact ⟨⟨q',rfl,r',rfl,b1,b2,b3,big_lt r' c3⟩,b5⟩
     · obtain ⟨m1,m2,m3,m4,m5⟩:=st2 (big_lt q c1)
       have n1:=u64_mulf q v0 m1
       have n2:IntKind.u64.wrap (4294967296*(r:Int))=((4294967296*r:Nat):Int):=u64_mulf 4294967296 r m2
       have n3:=u64_addf (4294967296*r) u1 m3
       obtain ⟨X,hX⟩:∃ z,z=q*v0:=⟨_,rfl⟩
       obtain ⟨Y0,hY0⟩:∃ z,z=4294967296*r:=⟨_,rfl⟩
       obtain ⟨Y,hY⟩:∃ z,z=Y0+u1:=⟨_,rfl⟩
       rw [← hX] at n1 m4 m5
       rw [← hY0] at n2 n3 m4 m5
       rw [← hY] at n3 m4 m5
       by_cases c2:Y<X
       · have hgt:=m4 c2
         obtain ⟨b0,b00,b1,b2,b3,b4,b5,b6⟩:=st3 hgt
         have n5:IntKind.u64.wrap ((q:Int)-1)=((q-1:Nat):Int):=u64_sub q 1 b0 b00
         have n6:=u64_addf r v1 b4
         obtain ⟨q',hq'⟩:∃ z,z=q-1:=⟨_,rfl⟩
         obtain ⟨r',hr'⟩:∃ z,z=r+v1:=⟨_,rfl⟩
         rw [← hq'] at n5 b1 b2 b3 b5 b6
         rw [← hr'] at n6 b1 b6
         simp [h15,h16,h13,h10,c1,n1,n2,n3,c2]
         refine WS_cT (by simp) (WS_skip ?_)
         simp
         refine WS_block (Wr ?_); simp [h15,n5]
         refine Wr ?_; simp [h9,h16,n6]
         refine Wr ?_; simp
         by_cases c3:(4294967296:Int)≤(r':Int)
         · have hdone:=b6 (big_le r' c3)
           refine WS_cond (t:=true) (by simp [c3]) (fun _=>WS_exit ?_) (fun h=>by cases h)
           simp [h2,h8,h9,h10,h11,h13,h14,hdone]
         · refine WS_cF (by simp; exact Int.not_le.1 c3) (WS_skip ?_)
           simp [h2,h8,h9,h10,h11,h13,h14]
           exact ⟨⟨q',rfl,r',rfl,b1,b2,b3,big_lt r' c3⟩,b5⟩
       · have hdone:=m5 (Nat.le_of_not_lt c2)
         simp [h15,h16,h13,h10,c1,n1,n2,n3,c2]
         refine WS_cond (t:=false) (by simp) (fun h=>by cases h) (fun _=>WS_exit ?_)
         simp [h2,h8,h9,h10,h11,h13,h14,h15,hdone]
   rintro S ⟨h2,h8,h9,h10,h11,h13,h14,h15⟩
   refine Wr ?_; simp [h2,h11,h13,h15,g1',g2,g3,g4]
   refine Wr ?_; simp [h9,i1,i2,hv1z]
   refine Wr ?_; simp [h9,i3,i4]
   refine WS_cut (fun S=>S.σ 2= .p (.i .u64 (yn:Int))∧S.σ 8= .p (.i .u64 (s:Int))∧S.σ 14= .p (.i .u64 (u0:Int))∧S.σ 15= .p (.i .u64 (T1:Int))∧S.σ 17= .p (.i .u64 (R:Int))∧S.σ 18= .p (.i .u64 (T0:Int))) ?_ ?_
   · refine WS_block (WS_loop (fun S=>∃ q r:Nat,S.σ 2= .p (.i .u64 (yn:Int))∧S.σ 8= .p (.i .u64 (s:Int))∧S.σ 9= .p (.i .u64 (v1:Int))∧S.σ 10= .p (.i .u64 (v0:Int))∧S.σ 14= .p (.i .u64 (u0:Int))∧S.σ 15= .p (.i .u64 (T1:Int))∧S.σ 17= .p (.i .u64 (R:Int))∧
      S.σ 18= .p (.i .u64 (q:Int))∧S.σ 16= .p (.i .u64 (r:Int))∧q*v1+r=R∧T0≤q∧q≤4294967297∧r<4294967296) (fun S=>match S.σ 18 with | .p (.i _ k)=>k.toNat | _=>0)
      ⟨Q0,r0,by simp [h2],by simp [h8],by simp [h9],by simp [h10],by simp [h14],by simp [h15],by simp,by simp,by simp,(start_facts hv1lo hv1hi dm2 hP0 hr0).1,gf2,gl2,(start_facts hv1lo hv1hi dm2 hP0 hr0).2⟩ ?_)
     clear h2 h8 h9 h10 h11 h13 h14 h15 S
     rintro S ⟨q,r,h2,h8,h9,h10,h14,h15,h17,h18,h16,hqr,hge,hq,hr⟩
     refine Ws ?_
     obtain ⟨st1,st2,st3⟩:=d64_step hT0 hv1lo hv1hi hv0D hu0D hRyn hqr hge hq hr
     by_cases c1:(4294967296:Int)≤(q:Int)
     · have hgt:=st1 (big_le q c1)
       obtain ⟨b0,b00,b1,b2,b3,b4,b5,b6⟩:=st3 hgt
       have n5:IntKind.u64.wrap ((q:Int)-1)=((q-1:Nat):Int):=u64_sub q 1 b0 b00
       have n6:=u64_addf r v1 b4
       obtain ⟨q',hq'⟩:∃ z,z=q-1:=⟨_,rfl⟩
       obtain ⟨r',hr'⟩:∃ z,z=r+v1:=⟨_,rfl⟩
       rw [← hq'] at n5 b1 b2 b3 b5 b6
       rw [← hr'] at n6 b1 b6
       simp [h18,c1]
       refine WS_cT (by simp) (WS_skip ?_)
       simp
       refine WS_block (Wr ?_); simp [h18,n5]
       refine Wr ?_; simp [h9,h16,n6]
       refine Wr ?_; simp
       by_cases c3:(4294967296:Int)≤(r':Int)
       · have hdone:=b6 (big_le r' c3)
         refine WS_cond (t:=true) (by simp [c3]) (fun _=>WS_exit ?_) (fun h=>by cases h)
         simp [h2,h8,h9,h10,h14,h15,h17,hdone]
       · refine WS_cF (by simp; exact Int.not_le.1 c3) (WS_skip ?_)
         simp [h2,h8,h9,h10,h14,h15,h17]
         exact ⟨⟨q',rfl,r',rfl,b1,b2,b3,big_lt r' c3⟩,b5⟩
     · obtain ⟨m1,m2,m3,m4,m5⟩:=st2 (big_lt q c1)
       have n1:=u64_mulf q v0 m1
       have n2:IntKind.u64.wrap (4294967296*(r:Int))=((4294967296*r:Nat):Int):=u64_mulf 4294967296 r m2
       have n3:=u64_addf (4294967296*r) u0 m3
       obtain ⟨X,hX⟩:∃ z,z=q*v0:=⟨_,rfl⟩
       obtain ⟨Y0,hY0⟩:∃ z,z=4294967296*r:=⟨_,rfl⟩
       obtain ⟨Y,hY⟩:∃ z,z=Y0+u0:=⟨_,rfl⟩
       rw [← hX] at n1 m4 m5
       rw [← hY0] at n2 n3 m4 m5
       rw [← hY] at n3 m4 m5
       by_cases c2:Y<X
       · have hgt:=m4 c2
         obtain ⟨b0,b00,b1,b2,b3,b4,b5,b6⟩:=st3 hgt
         have n5:IntKind.u64.wrap ((q:Int)-1)=((q-1:Nat):Int):=u64_sub q 1 b0 b00
         have n6:=u64_addf r v1 b4
         obtain ⟨q',hq'⟩:∃ z,z=q-1:=⟨_,rfl⟩
         obtain ⟨r',hr'⟩:∃ z,z=r+v1:=⟨_,rfl⟩
         rw [← hq'] at n5 b1 b2 b3 b5 b6
         rw [← hr'] at n6 b1 b6
         simp [h18,h16,h14,h10,c1,n1,n2,n3,c2]
         refine WS_cT (by simp) (WS_skip ?_)
         simp
         refine WS_block (Wr ?_); simp [h18,n5]
         refine Wr ?_; simp [h9,h16,n6]
         refine Wr ?_; simp
         by_cases c3:(4294967296:Int)≤(r':Int)
         · have hdone:=b6 (big_le r' c3)
           refine WS_cond (t:=true) (by simp [c3]) (fun _=>WS_exit ?_) (fun h=>by cases h)
           simp [h2,h8,h9,h10,h14,h15,h17,hdone]
         · refine WS_cF (by simp; exact Int.not_le.1 c3) (WS_skip ?_)
           simp [h2,h8,h9,h10,h14,h15,h17]
           exact ⟨⟨q',rfl,r',rfl,b1,b2,b3,big_lt r' c3⟩,b5⟩
       · have hdone:=m5 (Nat.le_of_not_lt c2)
         simp [h18,h16,h14,h10,c1,n1,n2,n3,c2]
         refine WS_cond (t:=false) (by simp) (fun h=>by cases h) (fun _=>WS_exit ?_)
         simp [h2,h8,h9,h10,h14,h15,h17,h18,hdone]
   clear h2 h8 h9 h10 h11 h13 h14 h15 S
   rintro S ⟨h2,h8,h14,h15,h17,h18⟩
   refine Wr ?_; simp [h2,h8,h14,h15,h17,h18,j1,j2,j3,j4,j5,j6,j7]
   refine WS_ret ?_; simp
theorem short_step {H x ai r:Nat} (hx:0<x) (hr:r=H%x):(ai+18446744073709551616*H) / x=18446744073709551616*(H / x)+(r*18446744073709551616+ai) / x∧(ai+18446744073709551616*H)%x=(r*18446744073709551616+ai)%x:=by
 have h:=Nat.div_add_mod H x
 rw [← hr] at h
 have e:ai+18446744073709551616*H=(r*18446744073709551616+ai)+x*(18446744073709551616*(H / x)):=by
  have h2:18446744073709551616*H=18446744073709551616*(x*(H / x))+18446744073709551616*r:=by rw [← Nat.mul_add,h]
  rw [h2,Nat.mul_left_comm x]; omega
 rw [e,Nat.add_mul_div_left _ _ hx,Nat.add_mul_mod_self_left]
 exact ⟨Nat.add_comm _ _,rfl⟩
theorem short_fit {r ai x:Nat} (hr:r<x) (ha:ai<18446744073709551616):(r*18446744073709551616+ai) / x<18446744073709551616:=by
 refine Nat.div_lt_of_lt_mul ?_
 have:(r+1)*18446744073709551616≤x*18446744073709551616:=Nat.mul_le_mul_right _ hr
 omega
theorem short_spec (a:List Nat) (ha:Nm.Dl 18446744073709551616 a) (x:Nat) (hx:0<x) (hx64:x<18446744073709551616) (hl:a.length≤2^40):
 Spec Tryz.prog f_nat_short [U a,.i .u64 (x:Int)] (· =[.pure (U (Nm.dig 18446744073709551616 (Nm.val 18446744073709551616 a / x))),.pure (.i .u64 ((Nm.val 18446744073709551616 a%x:Nat):Int))]):=by
 refine spec_at Tryz.func165 ok_nat_short [] rfl (by simp) ?_
 unfold sc_nat_short
 obtain ⟨Qv,hQv⟩:∃ z,z=Nm.val 18446744073709551616 a / x:=⟨_,rfl⟩
 obtain ⟨Mv,hMv⟩:∃ z,z=Nm.val 18446744073709551616 a%x:=⟨_,rfl⟩
 rw [← hQv,←hMv]
 obtain ⟨n,hn⟩:∃ n,n=a.length:=⟨_,rfl⟩
 have w0:IntKind.i64.wrap ((n:Int)-1)=(n:Int)-1:=i64_int _ (by omega) (by omega)
 refine Wr ?_; simp [U]
 refine Wr ?_; simp [← hn]
 refine ⟨by omega,?_⟩
 refine Ws ?_; simp [← hn,w0]
 refine WS_block (WS_loop (fun S=>∃ (j r:Nat) (out:List Nat),j≤n∧S.σ 0= .p (.sl none (uL a))∧S.σ 1= .p (.i .u64 (x:Int))∧S.σ 6= .own 11 1 0 n∧S.σ 7= .p (.i .u64 (r:Int))∧S.σ 8= .p (.i .i64 ((j:Int)-1))∧
  S.h 11=⟨1,some (.arr 118 none (uL out))⟩∧out.length=n∧Nm.Dl 18446744073709551616 out∧(∀ p,p<j→out.getD p 0=0)∧r=Nm.val 18446744073709551616 (a.drop j)%x∧Nm.val 18446744073709551616 out=18446744073709551616^j*(Nm.val 18446744073709551616 (a.drop j) / x))
  (fun S=>match S.σ 8 with | .p (.i _ k)=>(k+1).toNat | _=>0) ⟨n,0,List.replicate n 0,by omega,by simp,by simp,by simp,by simp,by simp,by simp,by simp,Nm.Dl.replicate (by omega) _,fun p _=>by simp [List.getD,List.getElem?_replicate]; split<;>simp,by simp [hn,Nm.val],by simp [hn,Nm.val,Nm.val_replicate]⟩ ?_)
 rintro S ⟨j,r,out,hj,h0,h1,h6,h7,h8,hh,ho1,ho2,ho3,hr,ho4⟩
 refine Ws ?_; simp [h8]
 by_cases hp:0<j
 · obtain ⟨i,rfl⟩:∃ i,j=i+1:=⟨j-1,by omega⟩
   have hi1:((i+1:Nat):Int)-1=(i:Int):=by omega
   rw [hi1] at h8
   have hia:i<a.length:=by omega
   have hai:=ha _ (List.getElem_mem hia)
   have hdrop:=Nm.val_drop 18446744073709551616 a i
   have hag:a.getD i 0=a[i]:=by simp [List.getD,hia]
   rw [hag] at hdrop
   obtain ⟨ai,haid⟩:∃ z,z=a[i]:=⟨_,rfl⟩
   rw [← haid] at hai hdrop
   have hrx:r<x:=by rw [hr]; exact Nat.mod_lt _ hx
   obtain ⟨s1,s2⟩:=short_step (ai:=ai) hx hr
   rw [← hdrop] at s1 s2
   have fit:=short_fit hrx hai
   have dv:=div64_spec r ai x (by omega) hrx hx64 hai
   obtain ⟨q,hq⟩:∃ z,z=(r*18446744073709551616+ai) / x:=⟨_,rfl⟩
   obtain ⟨r',hr'⟩:∃ z,z=(r*18446744073709551616+ai)%x:=⟨_,rfl⟩
   rw [← hq,←hr'] at dv
   rw [← hq] at s1 fit
   rw [← hr'] at s2
   have hol:i<out.length:=by omega
   have hset:=Nm.set_zero (B:=18446744073709551616) (c:=q) hol (ho3 i (by omega))
   have hval:Nm.val 18446744073709551616 (out.set i q)=18446744073709551616^i*(Nm.val 18446744073709551616 (a.drop i) / x):=by
    rw [hset,ho4,s1,Nat.mul_add,Nat.pow_succ,Nat.mul_assoc]
   have hin:i<n:=by omega
   have w1:IntKind.i64.wrap ((i:Int)-1)=(i:Int)-1:=i64_int _ (by omega) (by omega)
   refine WS_cT (by simp; omega) ?_
   refine WS_skip ?_; simp
   refine WS_seq (WS_block (WS_reg [] ?_)); simp [h0,h1,h6,h7,h8,hh,hia,hin,←haid]
   refine callK dv ?_; simp [hh,hin,hol]
   refine WS_reg [] ?_; simp [h0,h1,h6,h8,w1]
   refine ⟨i,by omega,r',rfl,rfl,out.set i q,rfl,by simp [ho1],ho2.set fit _,fun p hp=>?_,s2.symm,hval⟩
   have hz:=ho3 p (by omega)
   have:=Nm.getD_set_ne (l:=out) (show i≠p by omega) q
   rw [hz] at this
   simpa [List.getD] using this
 · have hj0:j=0:=by omega
   subst hj0
   refine WS_cF (by simp) ?_
   refine WS_exit ?_; simp
   simp only [List.drop_zero,Nat.pow_zero,Nat.one_mul] at hr ho4
   rw [← hMv] at hr
   rw [← hQv] at ho4
   refine WS_frz 11 6 none ?_
   simp [frzQ,h6,hh,ho1,take_all' ho1]
   refine Wr ?_; simp
   refine callK (plain_spec out (by omega)) ?_; simp [h7]
   refine WS_ret ?_
   rw [← Nm.dig_val (by omega) ho2,ho4,hr]
   simp [U]
theorem guess_cmp {p r u:Nat} (hu:u<18446744073709551616):
 (p / 18446744073709551616<r→p≤18446744073709551616*r+u)∧(¬ p / 18446744073709551616<r→p / 18446744073709551616=r→p%18446744073709551616≤u→p≤18446744073709551616*r+u)∧
 (¬ p / 18446744073709551616<r→p / 18446744073709551616=r→¬ p%18446744073709551616≤u→18446744073709551616*r+u<p)∧(¬ p / 18446744073709551616<r→¬ p / 18446744073709551616=r→18446744073709551616*r+u<p):=by
 refine ⟨fun h=>by omega,fun h1 h2 h3=>by omega,fun h1 h2 h3=>by omega,fun h1 h2=>by omega⟩
theorem guess_next {A v1 q r T:Nat} (hqr:q*v1+r=A) (h:T<q):1≤q∧(q-1)*v1+(r+v1)=A∧T≤q-1∧q-1<q:=by
 obtain ⟨p,rfl⟩:∃ p,q=p+1:=⟨q-1,by omega⟩
 rw [Nat.add_mul,Nat.one_mul] at hqr
 rw [Nat.add_sub_cancel]
 omega
theorem guess_spec (u2 u1 u0 v1 v0:Nat) (h2:u2<18446744073709551616) (h1:u1<18446744073709551616) (h0:u0<18446744073709551616) (hv1:v1<18446744073709551616) (hv0:v0<18446744073709551616) (hpos:0<v1):
 Spec Tryz.prog f_nat_guess [.i .u64 (u2:Int),.i .u64 (u1:Int),.i .u64 (u0:Int),.i .u64 (v1:Int),.i .u64 (v0:Int)] (fun r=>∃ x:Nat,r=[.pure (.i .u64 (x:Int))]∧x<18446744073709551616∧
  (∀ t:Nat,t<18446744073709551616→t≤((u2*18446744073709551616+u1)*18446744073709551616+u0) / (v1*18446744073709551616+v0)→t≤x)):=by
 refine spec_at Tryz.func174 ok_nat_guess [] rfl (by simp) ?_
 unfold sc_nat_guess
 obtain ⟨A,hA⟩:∃ z,z=u2*18446744073709551616+u1:=⟨_,rfl⟩
 rw [← hA]
 obtain ⟨T,hT⟩:∃ z,z=(A*18446744073709551616+u0) / (v1*18446744073709551616+v0):=⟨_,rfl⟩
 rw [← hT]
 refine Wr ?_; simp
 refine Ws ?_; simp
 by_cases hge:v1≤u2
 · refine WS_cT (by simp [hge]) ?_
   refine Wr ?_; simp
   refine WS_ret ?_; simp
   exact ⟨18446744073709551615,rfl,by omega,fun t h _=>by omega⟩
 · have hlt:u2<v1:=by omega
   have hAlt:A<v1*18446744073709551616+v0:=by
    have:(u2+1)*18446744073709551616≤v1*18446744073709551616:=Nat.mul_le_mul_right _ hlt
    omega
   have gf:=Nm.guess_first (v1:=v1) (v0:=v0) (A:=A) (u:=u0) (D:=18446744073709551616) hpos h0
   rw [← hT] at gf
   have dv:=div64_spec u2 u1 v1 (by omega) hlt hv1 h1
   rw [← hA] at dv
   have fit:A / v1<18446744073709551616:=by rw [hA]; exact short_fit hlt h1
   have dm:=Nat.div_add_mod A v1
   have ml:=Nat.mod_lt A hpos
   rw [Nat.mul_comm] at dm
   obtain ⟨Q,hQ⟩:∃ z,z=A / v1:=⟨_,rfl⟩
   obtain ⟨M,hM⟩:∃ z,z=A%v1:=⟨_,rfl⟩
   rw [← hQ] at gf dv fit dm
   rw [← hM] at dv dm ml
   refine WS_cF (by simp; omega) (WS_skip ?_)
   simp
   refine Wr ?_; simp
   refine callK dv ?_; simp
   refine WS_block (WS_loop (fun S=>∃ q r:Nat,S.σ 2= .p (.i .u64 (u0:Int))∧S.σ 3= .p (.i .u64 (v1:Int))∧S.σ 4= .p (.i .u64 (v0:Int))∧S.σ 11= .p (.i .u64 (q:Int))∧S.σ 12= .p (.i .u64 (r:Int))∧q*v1+r=A∧T≤q∧q<18446744073709551616∧r<18446744073709551616)
    (fun S=>match S.σ 11 with | .p (.i _ k)=>k.toNat | _=>0) ⟨Q,M,by simp,by simp,by simp,by simp,by simp,dm,gf,fit,by omega⟩ ?_)
   rintro S ⟨q,r,s2,s3,s4,s11,s12,hqr,hTq,hq,hr⟩
   have mu:=mul64_spec q v0 hq hv0
   obtain ⟨c1,c2,c3,c4⟩:=guess_cmp (p:=q*v0) (r:=r) h0
   have down:18446744073709551616*r+u0<q*v0→T<q:=fun h=>Nm.guess_down (by omega) hT hAlt h0 hqr (.inr h)
   have n5:1≤q→IntKind.u64.wrap ((q:Int)-1)=((q-1:Nat):Int):=fun h=>u64_sub q 1 h hq
   have nx:T<q→_:=fun h=>guess_next hqr h
   have ad:=add64_spec r v1 0 (by omega)
   rw [Nat.add_zero] at ad
   have ad':Spec Tryz.prog 177 [.i .u64 (r:Int),.i .u64 (v1:Int),.i .u64 0] (· =[.pure (.i .u64 (((r+v1)%18446744073709551616:Nat):Int)),.pure (.i .u64 (((r+v1) / 18446744073709551616:Nat):Int))]):=ad
   obtain ⟨p,hp⟩:∃ z,z=q*v0:=⟨_,rfl⟩
   rw [← hp] at mu c1 c2 c3 c4 down
   obtain ⟨hi,hhi⟩:∃ z,z=p / 18446744073709551616:=⟨_,rfl⟩
   obtain ⟨lo,hlo⟩:∃ z,z=p%18446744073709551616:=⟨_,rfl⟩
   rw [← hhi] at mu c1 c2 c3 c4
   rw [← hlo] at mu c2 c3
   obtain ⟨sm,hsm⟩:∃ z,z=(r+v1)%18446744073709551616:=⟨_,rfl⟩
   obtain ⟨cy,hcy⟩:∃ z,z=(r+v1) / 18446744073709551616:=⟨_,rfl⟩
   rw [← hsm,←hcy] at ad'
   have hsm2:cy=0→sm=r+v1:=fun h=>by omega
   have hsmlt:sm<18446744073709551616:=by rw [hsm]; exact Nat.mod_lt _ (by omega)
   have hcase:(hi<r)∨(¬ hi<r∧hi=r∧lo≤u0)∨(¬ hi<r∧hi=r∧¬ lo≤u0)∨(¬ hi<r∧¬ hi=r):=by omega
   refine WS_block (Wr ?_); simp [s4,s11]
   refine callK mu ?_; simp
   refine Ws ?_
   rcases hcase with k1 | ⟨k1,k2,k3⟩ | ⟨k1,k2,k3⟩ | ⟨k1,k2⟩
   · simp [s12,k1]
     refine WS_cT (by simp) ?_
     refine Wr ?_; simp [s11]
     refine WS_ret ?_; simp
     exact ⟨q,rfl,hq,fun t _ h=>Nat.le_trans h hTq⟩
   · simp [s2,s12,k2,k3]
     refine WS_cT (by simp) ?_
     refine Wr ?_; simp [s11]
     refine WS_ret ?_; simp
     exact ⟨q,rfl,hq,fun t _ h=>Nat.le_trans h hTq⟩
   · have hd:=down (c3 k1 k2 k3)
     obtain ⟨e1,e2,e3,e4⟩:=nx hd
     have n5:=n5 e1
     obtain ⟨q',hq'⟩:∃ z,z=q-1:=⟨_,rfl⟩
     rw [← hq'] at n5 e2 e3 e4
     simp [s2,s12,k2,k3]
     refine WS_cF (by simp) (WS_skip ?_)
     simp
     refine Wr ?_; simp [s11,n5]
     refine Wr ?_; simp [s3,s12]
     refine callK ad' ?_; simp
     refine Ws ?_; simp
     by_cases hc:0<cy
     · refine WS_cT (by simp; omega) ?_
       refine Wr ?_; simp
       refine WS_ret ?_; simp
       exact ⟨q',rfl,by omega,fun t _ h=>Nat.le_trans h e3⟩
     · refine WS_cF (by simp; omega) (WS_skip ?_)
       simp
       refine WS_reg [] ?_; simp [s2,s3,s4]
       exact ⟨⟨q',rfl,sm,rfl,by rw [hsm2 (by omega)]; exact e2,e3,by omega,hsmlt⟩,e4⟩
   · have hd:=down (c4 k1 k2)
     obtain ⟨e1,e2,e3,e4⟩:=nx hd
     have n5:=n5 e1
     obtain ⟨q',hq'⟩:∃ z,z=q-1:=⟨_,rfl⟩
     rw [← hq'] at n5 e2 e3 e4
     have k2':((hi:Int) == (r:Int))=false:=by simp; omega
     simp [s2,s12,k1,k2']
     refine WS_cF (by simp) (WS_skip ?_)
     simp
     refine Wr ?_; simp [s11,n5]
     refine Wr ?_; simp [s3,s12]
     refine callK ad' ?_; simp
     refine Ws ?_; simp
     by_cases hc:0<cy
     · refine WS_cT (by simp; omega) ?_
       refine Wr ?_; simp
       refine WS_ret ?_; simp
       exact ⟨q',rfl,by omega,fun t _ h=>Nat.le_trans h e3⟩
     · refine WS_cF (by simp; omega) (WS_skip ?_)
       simp
       refine WS_reg [] ?_; simp [s2,s3,s4]
       exact ⟨⟨q',rfl,sm,rfl,by rw [hsm2 (by omega)]; exact e2,e3,by omega,hsmlt⟩,e4⟩
def badText (l:List UInt8):Prop:=l.length=0∨4096<l.length∨((l.getD 0 0).toNat=48∧1<l.length)
instance (l:List UInt8):Decidable (badText l):=by unfold badText; exact inferInstance
theorem ndiv_zero (a b:List Nat) (ha:Nm.Dl 18446744073709551616 a) (hb:Nm.Dl 18446744073709551616 b) (la:a.length≤2^40) (lb:b.length≤2^40) (h0:Nm.val 18446744073709551616 b=0):
 Spec Tryz.prog f_nat_Div [U a,U b] (· =[.pure (U []),.pure (U []),.pure (.i .i64 3)]):=by
 refine spec_at Tryz.func125 ok_nat_Div [] rfl (by simp) ?_
 unfold sc_nat_Div
 have p1:=plain_spec a (by omega)
 have p2:=plain_spec b (by omega)
 rw [← Nm.dig_val (by omega) hb,h0,Nm.dig_zero] at p2
 refine Wr ?_; simp
 refine Wr ?_; simp
 refine callK p1 ?_; simp
 refine callK p2 ?_; simp
 refine WS_seq (WS_block (Wr ?_)); simp [U]
 refine WS_cT (by simp) ?_
 refine Wr ?_; simp
 refine WS_ret ?_; simp
theorem ndiv_one (a b:List Nat) (ha:Nm.Dl 18446744073709551616 a) (hb:Nm.Dl 18446744073709551616 b) (la:a.length≤2^38) (lb:b.length≤2^38) (h0:0<Nm.val 18446744073709551616 b) (h1:Nm.val 18446744073709551616 b<18446744073709551616):
 Spec Tryz.prog f_nat_Div [U a,U b] (· =[.pure (U (Nm.dig 18446744073709551616 (Nm.val 18446744073709551616 a / Nm.val 18446744073709551616 b))),.pure (U (Nm.dig 18446744073709551616 (Nm.val 18446744073709551616 a%Nm.val 18446744073709551616 b))),.pure (.i .i64 0)]):=by
 refine spec_at Tryz.func125 ok_nat_Div [] rfl (by simp) ?_
 unfold sc_nat_Div
 have p1:=plain_spec a (by omega)
 have p2:=plain_spec b (by omega)
 have l1:=Nm.trim_length_le a
 rw [← Nm.dig_val (by omega) ha] at p1 l1
 rw [← Nm.dig_val (by omega) hb] at p2
 obtain ⟨va,hva⟩:∃ v,v=Nm.val 18446744073709551616 a:=⟨_,rfl⟩
 obtain ⟨x,hx⟩:∃ v,v=Nm.val 18446744073709551616 b:=⟨_,rfl⟩
 rw [← hva] at p1 l1 ⊢
 rw [← hx] at p2 h0 h1 ⊢
 have hy:Nm.dig 18446744073709551616 x=[x]:=by
  rw [Nm.dig_pos (by omega) h0,Nat.mod_eq_of_lt h1,Nat.div_eq_of_lt h1,Nm.dig_zero]
 rw [hy] at p2
 have d1:=Nm.dig_lt (B:=18446744073709551616) (by omega) va
 have v1:=Nm.val_dig (B:=18446744073709551616) (by omega) va
 have t1:=Nm.trim_dig (B:=18446744073709551616) (by omega) va
 have dx:Nm.Dl 18446744073709551616 [x]:=Nm.Dl.cons h1 (Nm.Dl.nil _)
 have vx:Nm.val 18446744073709551616 [x]=x:=by simp [Nm.val]
 have cm:=ncmp_spec (Nm.dig 18446744073709551616 va) [x] d1 dx (by omega) (by simp)
 rw [v1,vx] at cm
 have nn:=nnorm_spec (Nm.dig 18446744073709551616 va) (by omega)
 rw [t1] at nn
 have sh:=short_spec (Nm.dig 18446744073709551616 va) d1 x h0 h1 (by omega)
 rw [v1] at sh
 have hr:va%x<18446744073709551616:=Nat.lt_trans (Nat.mod_lt _ h0) h1
 have pr:=plain_spec [va%x] (by simp)
 have tr:Nm.trim [va%x]=Nm.dig 18446744073709551616 (va%x):=by
  rw [← Nm.dig_val (by omega) (Nm.Dl.cons hr (Nm.Dl.nil 18446744073709551616))]
  simp [Nm.val]
 rw [tr] at pr
 have small:va<x→Nm.dig 18446744073709551616 (va / x)=[]∧Nm.dig 18446744073709551616 (va%x)=Nm.dig 18446744073709551616 va:=fun h=>by
  rw [Nat.div_eq_of_lt h,Nat.mod_eq_of_lt h]; exact ⟨Nm.dig_zero _,rfl⟩
 obtain ⟨Q,hQ⟩:∃ z,z=Nm.dig 18446744073709551616 (va / x):=⟨_,rfl⟩
 obtain ⟨R,hR⟩:∃ z,z=Nm.dig 18446744073709551616 (va%x):=⟨_,rfl⟩
 obtain ⟨r,hrd⟩:∃ z,z=va%x:=⟨_,rfl⟩
 obtain ⟨L,hL⟩:∃ z,z=Nm.dig 18446744073709551616 va:=⟨_,rfl⟩
 rw [← hQ,←hR] at small ⊢
 rw [← hQ,←hrd] at sh
 rw [← hR,←hrd] at pr
 rw [← hL] at p1 small nn cm sh
 refine Wr ?_; simp
 refine Wr ?_; simp
 refine callK p1 ?_; simp
 refine callK p2 ?_; simp
 refine WS_seq (WS_block (Wr ?_)); simp [U]
 refine WS_cF (by simp) ?_
 refine Wr ?_; simp
 refine callK cm ?_
 by_cases h:va<x
 · have e:Nm.cmpN va x= -1:=by unfold Nm.cmpN; rw [if_pos h]
   rw [e]
   simp
   refine WS_cT (by simp) ?_
   refine Wr ?_; simp
   refine callK nn ?_; simp
   refine WS_ret ?_
   obtain ⟨s1,s2⟩:=small h
   rw [s1,s2]
   simp [U]
 · have e:Nm.cmpN va x=0∨Nm.cmpN va x=1:=by unfold Nm.cmpN; rw [if_neg h]; split<;>simp
   rcases e with e | e
   all_goals
    rw [e]
    simp
    refine WS_cF (by simp) ?_
    refine Wr ?_; simp [uL]
    refine WS_cT (by simp) ?_
    refine Wr ?_; simp [uL]
    refine callK sh ?_; simp
    refine Wr ?_; simp
    refine callK pr ?_; simp
    refine WS_ret ?_; simp [U,uL]
end Go.Vw
