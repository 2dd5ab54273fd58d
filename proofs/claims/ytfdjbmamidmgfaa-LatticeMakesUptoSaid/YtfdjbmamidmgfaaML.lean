/- The contracts of the laws of layer 11 and 12 and 14. -/
import Derived.Test.YtfdjbmamidmgfaaMA
import Derived.Test.YtfdjbmamidmgfaaMB
import Derived.Test.YtfdjbmamidmgfaaMC
import Derived.Test.YtfdjbmamidmgfaaMD
import Derived.Test.YtfdjbmamidmgfaaME
import Derived.Test.YtfdjbmamidmgfaaMF
import Derived.Test.YtfdjbmamidmgfaaMG
import Derived.Test.YtfdjbmamidmgfaaMP
import Derived.Test.YtfdjbmamidmgfaaMR
import Derived.Test.YtfdjbmamidmgfaaMS
set_option linter.unusedVariables false
set_option linter.unusedSimpArgs false
namespace Go.Vw
open Go.Proofs Go.Py
attribute [local simp] zv V.fits fillOk fillV Z_eq
open Go.Dt
theorem row14 (a b:Int) (ha:a.natAbs<10) (hb:b.natAbs<10):Spec Try.prog f_law14_row [.i .i64 a,.i .i64 b] (· =[.pure (.sl (some 2) (PZ [a,b]))]):=by
 have o1:=zof a (by omega) (by omega);have o2:=zof b (by omega) (by omega);have e:PZ [a,b]=[Z a,Z b]:=rfl;rw [e];refine spec_at Try.func46 ok_law14_row [] rfl (by simp) ?_;unfold sc_law14_row;refine Wr ?_; simp;refine Wr ?_; simp;refine callK o1 ?_; simp;refine callK o2 ?_; simp;refine WS_ret ?_; simp
theorem awake14:Spec Try.prog f_law14_awake [] (· =[.pure (.b true)]):=by
 have r1:=row14 1 0 (by decide) (by decide);have r2:=row14 4 1 (by decide) (by decide);have r3:=row14 3 (-2) (by decide) (by decide);have r4:=row14 1 2 (by decide) (by decide);have r5:=row14 3 4 (by decide) (by decide);have rd:=awake_red;have ri:=awake_in;have rg:=awake_gram;have t1:=ztext (k:=1) (isZ_Z (z:=11) (zlen_small (by decide))) (by omega);rw [show zT 11=[49,49] by rw [zT,if_neg (by omega)]; decide +kernel] at t1;have t2:=ztext (k:=1) (isZ_Z (z:= -2) (zlen_small (by decide))) (by omega);rw [show zT (-2)=[45,50] by rw [zT,if_pos (by omega)]; decide +kernel] at t2;have t3:=ztext (k:=1) (isZ_Z (z:=4) (zlen_small (by decide))) (by omega);rw [show zT 4=[52] by rw [zT,if_neg (by omega)]; decide +kernel] at t3;obtain ⟨A1,h1⟩:∃ A,A=PZ [1,0]:=⟨_,rfl⟩;obtain ⟨A2,h2⟩:∃ A,A=PZ [4,1]:=⟨_,rfl⟩;obtain ⟨A3,h3⟩:∃ A,A=PZ [3,-2]:=⟨_,rfl⟩;obtain ⟨A4,h4⟩:∃ A,A=PZ [1,2]:=⟨_,rfl⟩;obtain ⟨A5,h5⟩:∃ A,A=PZ [3,4]:=⟨_,rfl⟩;rw [<- h1] at r1 rd ri;rw [<- h2] at r2 rd ri;rw [<- h3] at r3 ri;rw [<- h4] at r4 rg;rw [<- h5] at r5 rg;rw [show PZ [11,-2]=[Z 11,Z (-2)] from rfl] at ri;refine spec_at Try.func19 ok_law14_awake [] rfl (by simp) ?_;unfold sc_law14_awake;refine Wr ?_; simp [tx,abin_seql];refine Wr ?_; simp [tx,abin_seql];refine callK r1 ?_; simp [tx,abin_seql];refine callK r2 ?_; simp [tx,abin_seql];refine callR rd ?_;rintro rvs ⟨us,hus,rfl⟩;simp [tx,abin_seql,hus];refine Wr ?_; simp [tx,abin_seql,hus];refine callK r1 ?_; simp [tx,abin_seql,hus];refine callK r2 ?_; simp [tx,abin_seql,hus];refine callK r3 ?_; simp [tx,abin_seql,hus];refine callK ri ?_; simp [tx,abin_seql,hus];refine Wr ?_; simp [tx,abin_seql,hus];refine callK r4 ?_; simp [tx,abin_seql,hus];refine callK r5 ?_; simp [tx,abin_seql,hus];refine callK rg ?_; simp [tx,abin_seql,hus];refine Wr ?_; simp [tx,abin_seql,hus];refine callK t1 ?_; simp [tx,abin_seql,hus];refine callK t2 ?_; simp [tx,abin_seql,hus];refine callK t3 ?_; simp [tx,abin_seql,hus];refine WS_ret ?_; simp [tx,abin_seql,hus]
set_option maxHeartbeats 1000000 in
theorem small14 (n w:Nat) (hn:n<=2^40) (hw:w<=2^40) (Ms:List (List (Bool × List Nat))) (hM:Ms.length<=2^40) (hMs:∀ M∈Ms,M.length<=2^40):Spec Try.prog f_law14_small [.i .i64 (n:Int),.i .i64 (w:Int),.sl none (mL Ms)] (· =[.pure (.b (smL n w Ms))]):=by
 have hml:(mL Ms).length=Ms.length:=by simp [mL]
 have wn:IntKind.i64.wrap ((n:Int)+2)=((n+2:Nat):Int):=i64_addn n 2 (by omega);refine spec_at Try.func20 ok_law14_small [] rfl (by simp) ?_;unfold sc_law14_small;by_cases h0:Ms.length<=n
 . have h0I:¬ (n:Int)<(Ms.length:Int):=by omega
   rw [show smL n w Ms=smB (n+2) w Ms by unfold smL; rw [decide_eq_true h0,Bool.true_and]];refine Wr ?_; simp [hml,h0I];refine Ws ?_; simp [hml,h0I];refine WS_cF (by simp [hml,h0I]) ?_;refine WS_skip ?_; simp [hml,h0I];refine Ws ?_; simp [hml,h0I];refine WS_block ?_;refine WS_loop (SlmS n w Ms) (fun S=>Ms.length-nM 7 S) ⟨0,by omega,by simp,by simp,by simp,by simp,rfl⟩ ?_;rintro S ⟨i,hi,s0,s1,s2,s7,hall⟩;have d7:=nM_eq s7;by_cases hlt:i<Ms.length
   . have hltI:(i:Int)<(Ms.length:Int):=by omega
     have hml2:i<(mL Ms).length:=by omega
     have hget:(mL Ms)[i]= .sl (some 2) (zL Ms[i]):=by simp [mL]
     have hmem:=List.getElem_mem hlt;have htk:=List.take_succ_eq_append_getElem hlt;obtain ⟨M,hMe⟩:∃ M,M=Ms[i]:=⟨_,rfl⟩;rw [<- hMe] at hget hmem htk;have hMl:=hMs M hmem;have hzl:(zL M).length=M.length:=by simp [zL]
     have wi:=i64_succ i (by omega);obtain ⟨O,hO⟩:∃ O,O=mL Ms:=⟨_,rfl⟩;have hOl:i<O.length:=by rw [hO]; omega
     have hg2:O[i]= .sl (some 2) (zL M):=by simp only [hO]; exact hget
     rw [<- hO] at hml s2;by_cases hb:M.length<=n+2
     . have hbI:¬ ((n+2:Nat):Int)<(M.length:Int):=by omega
       have hbJ:¬ (n:Int)+2<(M.length:Int):=by omega
       refine Ws ?_; simp [s0,s1,s2,s7,hlt,hltI,hml,hg2,hzl,hbI,hbJ,wn];refine WS_cT (by simp [s0,s1,s2,s7,hlt,hltI,hml,hg2,hzl,hbI,hbJ,wn]) ?_;refine WS_skip ?_; simp [s0,s1,s2,s7,hlt,hltI,hml,hg2,hzl,hbI,hbJ,wn];refine WS_seq (WS_block (Ws ?_)); simp [s0,s1,s2,s7,hlt,hltI,hml,hg2,hzl,hbI,hbJ,wn];refine WS_cF (by simp [s0,s1,s2,s7,hlt,hltI,hml,hg2,hzl,hbI,hbJ,wn]) ?_;refine WS_skip ?_; simp [s0,s1,s2,s7,hlt,hltI,hml,hg2,hzl,hbI,hbJ,wn];refine Wr ?_; simp [s0,s1,s2,s7,hlt,hltI,hml,hg2,hzl,hbI,hbJ,wn];refine WS_block ?_;refine WS_loop (SlmJ n w Ms i M) (fun S=>M.length-nM 8 S) ⟨0,by omega,by simp,rfl,by simp [s0],by simp [s1],by simp [s2,hO],by simp [s7],hall⟩ ?_;clear s0 s1 s2 s7;rintro S' ⟨k,hk,s8,hr,s0,s1,s2,s7,-⟩;have d8:=nM_eq s8;rw [<- hO] at s2;by_cases hlt2:k<M.length
       . have hltI2:(k:Int)<(M.length:Int):=by omega
         have hzk:k<(zL M).length:=by omega
         have hgk:(zL M)[k]= .agg [.b M[k].1,.sl none (uL M[k].2)]:=by simp [zL]
         have htk2:=List.take_succ_eq_append_getElem hlt2;have hmem2:=List.getElem_mem hlt2;obtain ⟨p,hp⟩:∃ p,p=M[k]:=⟨_,rfl⟩;rw [<- hp] at hgk htk2 hmem2;have wk:=i64_succ k (by omega);obtain ⟨Z1,hZ1⟩:∃ O,O=zL M:=⟨_,rfl⟩;have hZl:k<Z1.length:=by rw [hZ1]; omega
         have hg3:Z1[k]= .agg [.b p.1,.sl none (uL p.2)]:=by simp only [hZ1]; exact hgk
         rw [<- hZ1] at hzl hg2;by_cases hq:p.2.length<=w
         . have hqI:¬ (w:Int)<(p.2.length:Int):=by omega
           refine Ws ?_; simp [s0,s1,s2,s7,s8,hlt,hltI,hlt2,hltI2,hml,hg2,hzl,hg3,hqI,wk];refine WS_cT (by simp [s0,s1,s2,s7,s8,hlt,hltI,hlt2,hltI2,hml,hg2,hzl,hg3,hqI,wk]) ?_;refine WS_skip ?_; simp [s0,s1,s2,s7,s8,hlt,hltI,hlt2,hltI2,hml,hg2,hzl,hg3,hqI,wk];refine WS_seq (WS_block (Wr ?_)); simp [s0,s1,s2,s7,s8,hlt,hltI,hlt2,hltI2,hml,hg2,hzl,hg3,hqI,wk];refine WS_cF (by simp [s0,s1,s2,s7,s8,hlt,hltI,hlt2,hltI2,hml,hg2,hzl,hg3,hqI,wk]) ?_;refine WS_skip ?_; simp [s0,s1,s2,s7,s8,hlt,hltI,hlt2,hltI2,hml,hg2,hzl,hg3,hqI,wk];refine WS_reg [] ?_; simp [s0,s1,s2,s7,s8,hlt,hltI,hlt2,hltI2,hml,hg2,hzl,hg3,hqI,wk];refine ⟨⟨k+1,by omega,by simp,by rw [htk2]; exact smR_snoc hr hq,by simp [s0],by simp [s1],by simp [s2,hO],by simp [s7],hall⟩,?_⟩;show M.length-nM 8 _<M.length-nM 8 S';rw [d8,nM_eq (i:=8) (n:=k+1) (by simp)];omega
         . have hqI:(w:Int)<(p.2.length:Int):=by omega
           have hno:smR w M=false:=by
            rw [smR,List.all_eq_false];exact ⟨p,hmem2,by simp; omega⟩
           rw [smB_false hmem (by rw [hno,Bool.and_false])];refine Ws ?_; simp [s0,s1,s2,s7,s8,hlt,hltI,hlt2,hltI2,hml,hg2,hzl,hg3,hqI,wk];refine WS_cT (by simp [s0,s1,s2,s7,s8,hlt,hltI,hlt2,hltI2,hml,hg2,hzl,hg3,hqI,wk]) ?_;refine WS_skip ?_; simp [s0,s1,s2,s7,s8,hlt,hltI,hlt2,hltI2,hml,hg2,hzl,hg3,hqI,wk];refine WS_seq (WS_block (Wr ?_)); simp [s0,s1,s2,s7,s8,hlt,hltI,hlt2,hltI2,hml,hg2,hzl,hg3,hqI,wk];refine WS_cT (by simp [s0,s1,s2,s7,s8,hlt,hltI,hlt2,hltI2,hml,hg2,hzl,hg3,hqI,wk]) ?_;refine Wr ?_; simp [s0,s1,s2,s7,s8,hlt,hltI,hlt2,hltI2,hml,hg2,hzl,hg3,hqI,wk];refine WS_ret ?_; simp [s0,s1,s2,s7,s8,hlt,hltI,hlt2,hltI2,hml,hg2,hzl,hg3,hqI,wk]
       . obtain rfl:k=M.length:=by omega
         have hltI2:¬ (M.length:Int)<(M.length:Int):=by omega
         rw [List.take_length] at hr;refine Ws ?_; simp [s0,s1,s2,s7,s8,hlt,hltI,hltI2,hml,hg2,hzl,wi];refine WS_cF (by simp [s0,s1,s2,s7,s8,hlt,hltI,hltI2,hml,hg2,hzl,wi]) ?_;refine WS_exit ?_; simp [s0,s1,s2,s7,s8,hlt,hltI,hltI2,hml,hg2,hzl,wi];refine WS_reg [] ?_; simp [s0,s1,s2,s7,s8,hlt,hltI,hltI2,hml,hg2,hzl,wi];refine ⟨⟨i+1,by omega,by simp [s0],by simp [s1],by simp [s2,hO],by simp,by rw [htk]; exact smB_snoc hall hb hr⟩,?_⟩;show Ms.length-nM 7 _<Ms.length-nM 7 S;rw [d7,nM_eq (i:=7) (n:=i+1) (by simp)];omega
     . have hbI:((n+2:Nat):Int)<(M.length:Int):=by omega
       have hbJ:(n:Int)+2<(M.length:Int):=by omega
       rw [smB_false hmem (by simp; omega)];refine Ws ?_; simp [s0,s1,s2,s7,hlt,hltI,hml,hg2,hzl,hbI,hbJ,wn];refine WS_cT (by simp [s0,s1,s2,s7,hlt,hltI,hml,hg2,hzl,hbI,hbJ,wn]) ?_;refine WS_skip ?_; simp [s0,s1,s2,s7,hlt,hltI,hml,hg2,hzl,hbI,hbJ,wn];refine WS_seq (WS_block (Ws ?_)); simp [s0,s1,s2,s7,hlt,hltI,hml,hg2,hzl,hbI,hbJ,wn];refine WS_cT (by simp [s0,s1,s2,s7,hlt,hltI,hml,hg2,hzl,hbI,hbJ,wn]) ?_;refine Wr ?_; simp [s0,s1,s2,s7,hlt,hltI,hml,hg2,hzl,hbI,hbJ,wn];refine WS_ret ?_; simp [s0,s1,s2,s7,hlt,hltI,hml,hg2,hzl,hbI,hbJ,wn]
   . obtain rfl:i=Ms.length:=by omega
     have hltI:¬ (Ms.length:Int)<(Ms.length:Int):=by omega
     rw [List.take_length] at hall;rw [hall];refine Ws ?_; simp [s0,s1,s2,s7,hltI,hml];refine WS_cF (by simp [s0,s1,s2,s7,hltI,hml]) ?_;refine WS_exit ?_; simp [s0,s1,s2,s7,hltI,hml];refine Wr ?_; simp [s0,s1,s2,s7,hltI,hml];refine WS_ret ?_; simp [s0,s1,s2,s7,hltI,hml]
 . have h0I:(n:Int)<(Ms.length:Int):=by omega
   rw [show smL n w Ms=false by unfold smL; rw [decide_eq_false h0,Bool.false_and]];refine Wr ?_; simp [hml,h0I];refine Ws ?_; simp [hml,h0I];refine WS_cT (by simp [hml,h0I]) ?_;refine Wr ?_; simp [hml,h0I];refine WS_ret ?_; simp [hml,h0I]
attribute [local simp] acK_stuck XCore aopX acD_stuck XD HOp svCells SV.cell cloC svref svFits svPart partOkS okSV okSV1 S0H maskH_add maskH_lt maskH_ge retQM retPM retAllH retOneH rowZ_length rowZ_at St.elemsS packSV rowsT_length rowsT_at SV.solid svPack fillS fillOkS nilZ St.evN
set_option maxHeartbeats 4000000 in
theorem first_add {Q':Exit->St->Prop} {S:St} {n w i g:Nat} {x:Nat->Int} {xs cs:List V} {L:List (List Int)} (hL:IsL 2 xs L) (hx:xs.length=n) (hn:n<=5) (hw:w<=7) (hwid:∀ a,a<n->(L.getD a []).length=w) (hi:i<n) (hic:i<cs.length)
 (hc:cs[i]= .i .i64 (x i)) (h64:∀ t,-9223372036854775808<=x t/\x t<=9223372036854775807) (s0:S.σ 0= .p (.sl none xs)) (s1:S.σ 1= .p (.sl none cs)) (s9:S.σ 9= .p (.i .i64 (i:Int))) (s8:S.σ 8= .own 50 g 0 w) (h50:S.h 50=⟨g,some (.arr 27 (some 2) (rowZ w (fun c=>smI x (bOf L) c i)))⟩)
 (hQ:∀ S':St,S'.σ 8= .own 50 g 0 w->S'.h 50=⟨g,some (.arr 27 (some 2) (rowZ w (fun c=>smI x (bOf L) c (i+1))))⟩->(∀ t,t<=9->t≠8->S'.σ t=S.σ t)->Q' .normal S'):
 WS Try.prog 140 sc_law14_LatticeFirst.snd.snd.snd.snd.snd.snd.snd.fst.snd.fst.fst.snd.fst.fst Q' S:=by
 unfold sc_law14_LatticeFirst;simp only [SC.snd,SC.fst];refine Wr ?_; simp;refine WS_block ?_;refine WS_loop (FsK S x (bOf L) w i g) (fun S=>w-nM 10 S) ⟨0,by omega,by simp [s8],by rw [sumV_first]; simp [h50],by simp,fun t ht h8=>?_⟩ ?_
 . simp only [upd_apply];repeat rw [if_neg (by omega)]
 rintro S1 ⟨k,hk,t8,k50,t10,hs⟩;have d10:=nM_eq t10;have t0:=(hs 0 (by omega) (by omega)).trans s0;have t1:=(hs 1 (by omega) (by omega)).trans s1;have t9:=(hs 9 (by omega) (by omega)).trans s9;by_cases hlt:k<w
 . have hltI:(k:Int)<(w:Int):=by omega
   have wk:=i64_succ k (by omega);have hix:i<xs.length:=by omega
   have hixI:(i:Int)<(xs.length:Int):=by omega
   have hicI:(i:Int)<(cs.length:Int):=by omega
   obtain ⟨ws,hws,pw⟩:=hL.row i hix;have lw:=pw.len;rw [hwid i hi] at lw;have hkw:k<ws.length:=by omega
   have hkwI:(k:Int)<(ws.length:Int):=by omega
   obtain ⟨b1,l1,e1,hz1,hzi1⟩:=pw.cell k hkw;have of1:=zof (x i) (h64 i).1 (h64 i).2;have zx:∀ t,zlen (x t)<=1:=fun t=>zlen_small (by have:=h64 t; omega);have zb:=pw.pl k;have mu:=zmul (isZ_of (x:=x i) (k:=2^20) (Nat.le_trans (zx i) (by omega))) ((pw.get k hkw).mono (show 2<=2^20 by omega)) (by omega);rw [e1] at mu;have q1:=zlen_mul (x i) (cf (L.getD i []) k);have q2:=smI_len (x:=x) (b:=bOf L) (c:=k) (p:=1) (q:=2) i (fun u _=>zx u) (fun u _=>bOf_len hL u k);have q3:=zx i;have ad:=zadd (isZ_of (x:=smI x (bOf L) k i) (k:=2^22) (by omega)) (isZ_of (x:=x i*cf (L.getD i []) k) (k:=2^22) (by omega)) (by omega);rw [show smI x (bOf L) k i+x i*cf (L.getD i []) k=smI x (bOf L) k (i+1) from rfl] at ad;have hRl:=rowZ_length w (sumV x (bOf L) i k);have hat:(rowZ w (sumV x (bOf L) i k))[k]'(by rw [hRl]; exact hlt)=Z (smI x (bOf L) k i):=by rw [rowZ_at]; unfold sumV; rw [if_neg (by omega)]
   have hset:=sumV_set (x:=x) (b:=bOf L) (w:=w) (i:=i) (k:=k);obtain ⟨y,hy⟩:∃ y,y=x i:=⟨_,rfl⟩;obtain ⟨z,hz⟩:∃ z,z=smI x (bOf L) k (i+1):=⟨_,rfl⟩;obtain ⟨u,hu⟩:∃ u,u=smI x (bOf L) k i:=⟨_,rfl⟩;obtain ⟨R,hR⟩:∃ R,R=rowZ w (sumV x (bOf L) i k):=⟨_,rfl⟩;rw [<- hy] at of1 mu ad hc;rw [<- hz] at ad hset;rw [<- hu] at ad hat;simp only [<- hR] at hat;rw [<- hR] at hset hRl k50;rw [Z_eq] at hat hset;refine Ws ?_; simp [t0,t1,t8,t9,t10,k50,hlt,hltI,hix,hixI,hic,hicI,hc,hws,hkw,hkwI,lw,e1,hRl,hat,hset,wk];refine WS_cT (by simp [t0,t1,t8,t9,t10,k50,hlt,hltI,hix,hixI,hic,hicI,hc,hws,hkw,hkwI,lw,e1,hRl,hat,hset,wk]) ?_;refine WS_skip ?_; simp [t0,t1,t8,t9,t10,k50,hlt,hltI,hix,hixI,hic,hicI,hc,hws,hkw,hkwI,lw,e1,hRl,hat,hset,wk];refine WS_seq (WS_block (WS_regD [] ?_)); simp [t0,t1,t8,t9,t10,k50,hlt,hltI,hix,hixI,hic,hicI,hc,hws,hkw,hkwI,lw,e1,hRl,hat,hset,wk];refine callD of1 rfl ?_; simp [t0,t1,t8,t9,t10,k50,hlt,hltI,hix,hixI,hic,hicI,hc,hws,hkw,hkwI,lw,e1,hRl,hat,hset,wk];refine callD mu rfl ?_; simp [t0,t1,t8,t9,t10,k50,hlt,hltI,hix,hixI,hic,hicI,hc,hws,hkw,hkwI,lw,e1,hRl,hat,hset,wk];refine callD ad rfl ?_; simp [t0,t1,t8,t9,t10,k50,hlt,hltI,hix,hixI,hic,hicI,hc,hws,hkw,hkwI,lw,e1,hRl,hat,hset,wk];refine ⟨rfl,?_⟩;refine WS_reg [] ?_; simp [t0,t1,t8,t9,t10,k50,hlt,hltI,hix,hixI,hic,hicI,hc,hws,hkw,hkwI,lw,e1,hRl,hat,hset,wk];refine ⟨⟨k+1,by omega,by simp [t8],by simp,by simp,fun t ht h8=>?_⟩,?_⟩
   . simp only [upd_apply];repeat rw [if_neg (by omega)]
     exact hs t ht h8
   . rw [d10,nM_eq (i:=10) (n:=k+1) (by simp)]; omega
 . obtain rfl:k=w:=by omega
   have hltI:¬ (k:Int)<(k:Int):=by omega
   rw [sumV_last] at k50;refine Ws ?_; simp [t8,t10,k50,hltI];refine WS_cF (by simp [t8,t10,k50,hltI]) ?_;refine WS_exit ?_; simp [t8,t10,k50,hltI];refine hQ _ (by simp [t8]) (by simp [k50]) fun t ht h8=>?_;simp only [upd_apply];repeat rw [if_neg (by omega)]
   exact hs t ht h8
set_option maxHeartbeats 4000000 in
theorem first_loop {Q':Exit->St->Prop} {S:St} {n w g:Nat} {xs:List V} {l:List Int} {L:List (List Int)} (hL:IsL 2 xs L) (hx:xs.length=n) (hn:n<=5) (hw:w<=7) (hwid:∀ a,a<n->(L.getD a []).length=w) (hl:l.length<=2^40)
 (h64:∀ t,-9223372036854775808<=cf l t/\cf l t<=9223372036854775807) (s0:S.σ 0= .p (.sl none xs)) (s1:S.σ 1= .p (.sl none (IL l))) (s8:S.σ 8= .own 50 g 0 w) (h50:S.h 50=⟨g,some (.arr 27 (some 2) (rowZ w (fun _=>0)))⟩)
 (hQ:∀ S':St,S'.σ 8= .own 50 g 0 w->S'.h 50=⟨g,some (.arr 27 (some 2) (rowZ w (fun c=>smI (cf l) (bOf L) c n)))⟩->(∀ t,t<=7->S'.σ t=S.σ t)->Q' .normal S'):
 WS Try.prog 140 sc_law14_LatticeFirst.snd.snd.snd.snd.snd.snd.snd.fst Q' S:=by
 have hIl:=IL_length l;unfold sc_law14_LatticeFirst;simp only [SC.snd,SC.fst];refine Wr ?_; simp;refine WS_block ?_;refine WS_loop (FsO S (cf l) (bOf L) w n l.length g) (fun S=>n-nM 9 S) ⟨0,by omega,by omega,by simp [s8],by simp [h50,smI],by simp,fun t ht=>?_⟩ ?_
 . simp only [upd_apply];repeat rw [if_neg (by omega)]
 rintro S1 ⟨i,hi,him,t8,k50,t9,hs⟩;have d9:=nM_eq t9;have t0:=(hs 0 (by omega)).trans s0;have t1:=(hs 1 (by omega)).trans s1;have fin:(i=n\/i=l.length)->rowZ w (fun c=>smI (cf l) (bOf L) c i)=rowZ w (fun c=>smI (cf l) (bOf L) c n):=fun h=>rowZ_congr fun c _=>by
  rcases h with h | h
  . rw [h]
  . rw [show n=i+(n-i) by omega];exact (smI_stop (fun t ht=>cf_ge (by omega)) (n-i)).symm
 by_cases hlt:i<n
 . have hltI:(i:Int)<(n:Int):=by omega
   by_cases hlm:i<l.length
   . have hlmI:(i:Int)<(l.length:Int):=by omega
     have wi:=i64_succ i (by omega);refine Ws ?_; simp [t0,t1,t9,hx,hIl,hltI,hlmI];refine WS_cT (by simp [t0,t1,t9,hx,hIl,hltI,hlmI]) ?_;refine WS_skip ?_; simp [t0,t1,t9,hx,hIl,hltI,hlmI];refine WS_seq (WS_block ?_);refine first_add (g:=g) hL hx hn hw hwid hlt (by rw [hIl]; exact hlm) (IL_get l i _) h64 (by simp [t0]) (by simp [t1]) (by simp [t9]) (by simp [t8]) (by simp [k50]) ?_;intro S2 u8 j50 hs2;have u9:=(hs2 9 (by omega) (by omega)).trans (show _=SV.p (.i .i64 (i:Int)) by simp [t9]);show WS Try.prog 140 _ _ S2;refine WS_reg [] ?_; simp [u9,wi];refine ⟨⟨i+1,by omega,by omega,by simp [u8],by simp [j50],by simp,fun t ht=>?_⟩,?_⟩
     . have e:=hs2 t (by omega) (by omega);simp only [upd_apply] at e ⊢;repeat rw [if_neg (by omega)] at e
       repeat rw [if_neg (by omega)]
       exact e.trans (hs t ht)
     . rw [d9,nM_eq (i:=9) (n:=i+1) (by simp)]; omega
   . have hlmI:¬ (i:Int)<(l.length:Int):=by omega
     rw [fin (.inr (by omega))] at k50;refine Ws ?_; simp [t0,t1,t9,hx,hIl,hltI,hlmI];refine WS_cF (by simp [t0,t1,t9,hx,hIl,hltI,hlmI]) ?_;refine WS_exit ?_; simp [t0,t1,t9,hx,hIl,hltI,hlmI];refine hQ _ (by simp [t8]) (by simp [k50]) fun t ht=>?_;simp only [upd_apply];repeat rw [if_neg (by omega)]
     exact hs t ht
 . have hltI:¬ (i:Int)<(n:Int):=by omega
   rw [fin (.inl (by omega))] at k50;refine Ws ?_; simp [t0,t1,t9,hx,hIl,hltI];refine WS_cF (by simp [t0,t1,t9,hx,hIl,hltI]) ?_;refine WS_exit ?_; simp [t0,t1,t9,hx,hIl,hltI];refine hQ _ (by simp [t8]) (by simp [k50]) fun t ht=>?_;simp only [upd_apply];repeat rw [if_neg (by omega)]
   exact hs t ht
set_option maxHeartbeats 4000000 in
theorem first_dbl {Q':Exit->St->Prop} {S:St} {n g:Nat} {xs:List V} {s:Int} (hx:xs.length=n) (h0:0<n) (hn:n<=5) (hz:zlen s<=2^10) (s0:S.σ 0= .p (.sl none xs)) (s11:S.σ 11= .ptr 11 g 0) (h11:S.h 11=⟨g,some (.box 27 [.b (zn s),.sl none (uL (zl s))])⟩)
 (hQ:∀ (S':St) z,z=2^(n-1)*s->zlen z<=2^11->S'.h 11=⟨g,some (.box 27 [.b (zn z),.sl none (uL (zl z))])⟩->(∀ u,u<=12->S'.σ u=S.σ u)->Q' .normal S'):
 WS Try.prog 140 sc_law14_LatticeFirst.snd.snd.snd.snd.snd.snd.snd.snd.snd.snd.fst Q' S:=by
 unfold sc_law14_LatticeFirst;simp only [SC.snd,SC.fst];refine Wr ?_; simp;refine WS_block ?_;refine WS_loop (FdO S s n g) (fun S=>n-nM 13 S) ⟨1,s,by omega,by omega,by simp,by omega,by simp [h11],by simp,fun t ht=>?_⟩ ?_
 . simp only [upd_apply];repeat rw [if_neg (by omega)]
 rintro S1 ⟨t,z,h1,ht,rfl,hzl,k11,t13,hs⟩;have d13:=nM_eq t13;have t0:=(hs 0 (by omega)).trans s0;have t11:=(hs 11 (by omega)).trans s11;by_cases hlt:t<n
 . have hltI:(t:Int)<(n:Int):=by omega
   have wt:=i64_succ t (by omega);have e2:2^(t-1)*s+2^(t-1)*s=2^(t+1-1)*s:=by
    rw [show t+1-1=t-1+1 by omega,Int.pow_succ]; grind
   have la:=zlen_add (2^(t-1)*s) (2^(t-1)*s);have ad:=zadd (isZ_of (x:=2^(t-1)*s) (k:=2^22) (by omega)) (isZ_of (x:=2^(t-1)*s) (k:=2^22) (by omega)) (by omega);rw [e2] at ad la;obtain ⟨z,hz⟩:∃ z,z=2^(t-1)*s:=⟨_,rfl⟩;obtain ⟨z2,hz2⟩:∃ z,z=2^(t+1-1)*s:=⟨_,rfl⟩;rw [<- hz] at ad la hzl k11;rw [<- hz2] at ad la;refine Ws ?_; simp [t0,t11,t13,k11,hx,hltI,wt];refine WS_cT (by simp [t0,t11,t13,k11,hx,hltI,wt]) ?_;refine WS_skip ?_; simp [t0,t11,t13,k11,hx,hltI,wt];refine WS_seq (WS_block (WS_reg [] ?_)); simp [t0,t11,t13,k11,hx,hltI,wt];refine callK ad ?_; simp [t0,t11,t13,k11,hx,hltI,wt];refine WS_reg [] ?_; simp [t0,t11,t13,k11,hx,hltI,wt];refine ⟨⟨t+1,z2,by omega,by omega,hz2,by omega,by simp,by simp,fun u hu=>?_⟩,?_⟩
   . simp only [upd_apply];repeat rw [if_neg (by omega)]
     exact hs u hu
   . rw [d13,nM_eq (i:=13) (n:=t+1) (by simp)]; omega
 . obtain rfl:t=n:=by omega
   have hltI:¬ (t:Int)<(t:Int):=by omega
   refine Ws ?_; simp [t0,t13,hx,hltI];refine WS_cF (by simp [t0,t13,hx,hltI]) ?_;refine WS_exit ?_; simp [t0,t13,hx,hltI];refine hQ _ _ rfl (by omega) (by simp [k11]) fun u hu=>?_;simp only [upd_apply];repeat rw [if_neg (by omega)]
   exact hs u hu
set_option maxHeartbeats 4000000 in
theorem first_end {S:St} {n w:Nat} {xs X:List V} {L:List (List Int)} {b:Nat->Nat->Int} {x:Nat->Int} (hx:xs.length=n) (h0:0<n) (hn:n<=5) (hw:w<=7) (R:RedOk L n w b) (hX:X=rowZ w (fun c=>smI x (bOf L) c n)) (hv:IsP 8 X ((List.range w).map fun c=>smI x (bOf L) c n))
 (s0:S.σ 0= .p (.sl none xs)) (s5:S.σ 5= .p (.b true)) (s6:S.σ 6= .p (.sl none (redV n w b))) (s8:S.σ 8= .p (.sl (some 2) X)):
 WS Try.prog 140 sc_law14_LatticeFirst.snd.snd.snd.snd.snd.snd.snd.snd (retQ [.tmp 4] [] (· =[.pure (.b true)])) S:=by
 have hXl:X.length=w:=by rw [hX,rowZ_length]
 have dt:=ldotE hv hv (by omega) (by omega);rw [if_pos rfl,hXl,dtZ_row] at dt;have l1:=dtZ_len hv.pl hv.pl w;rw [dtZ_row] at l1;have hfa:=first_all R h0 x;obtain ⟨s,hs⟩:∃ s,s=dz (fun c=>smI x (bOf L) c n) (fun c=>smI x (bOf L) c n) w:=⟨_,rfl⟩;rw [<- hs] at dt l1 hfa;have sg:=zsign (isZ_of (x:=s) (k:=2^10) (by omega)) (by omega);have hsg:=sgn_ne0 (x:=s);obtain ⟨a,ha⟩:∃ a,a=s.sign:=⟨_,rfl⟩;rw [<- ha] at sg hsg;have hV0:0<(redV n w b).length:=by rw [redV_len]; exact h0
 have hV0I:(0:Int)<((redV n w b).length:Int):=by omega
 have hVat:(redV n w b)[0]= .sl (some 2) (rowZ w (b 0)):=by simp [redV]
 have hvb:IsP 33 (rowZ w (b 0)) ((List.range w).map (b 0)):=isP_rowZ fun c hc=>R.lim 0 c h0 hc;have dt2:=ldotE hvb hvb (by omega) (by rw [rowZ_length]; omega);rw [if_pos rfl,rowZ_length,dtZ_row] at dt2;have l2:=dtZ_len hvb.pl hvb.pl w;rw [dtZ_row] at l2;have hpos:=first_pos R.ind h0;obtain ⟨D,hD⟩:∃ D,D=dz (b 0) (b 0) w:=⟨_,rfl⟩;rw [<- hD] at dt2 l2 hpos hfa;have sg2:=zsign (isZ_of (x:=D) (k:=2^10) (by omega)) (by omega);have hsg2:=sign_pos hpos;obtain ⟨c,hc⟩:∃ a,a=D.sign:=⟨_,rfl⟩;rw [<- hc] at sg2 hsg2;obtain ⟨W,hW⟩:∃ W,W=redV n w b:=⟨_,rfl⟩;obtain ⟨Y,hY⟩:∃ Y,Y=rowZ w (b 0):=⟨_,rfl⟩;rw [<- hY] at dt2;simp only [<- hW,<-hY] at hV0 hV0I hVat s6;clear hX hs ha hD hc hv hvb;unfold sc_law14_LatticeFirst;simp only [SC.snd,SC.fst];by_cases h:a=0
 . refine Wr ?_; simp [s8,h];refine callK dt ?_; simp [s8,h];refine Ws ?_; simp [s8,h];refine callK sg ?_; simp [s8,h];refine WS_cT (by simp [s8,h]) ?_;refine Wr ?_; simp [s8,h];refine WS_ret ?_; simp [s8,h]
 . have hle:=hfa (fun e=>h (hsg.2 e));refine Wr ?_; simp [s8,h];refine callK dt ?_; simp [s8,h];refine Ws ?_; simp [s8,h];refine callK sg ?_; simp [s8,h];refine WS_cF (by simp [s8,h]) ?_;refine WS_skip ?_; simp [s8,h];refine WS_abs (fun S'=>S'.σ 0= .p (.sl none xs)/\S'.σ 5= .p (.b true)/\S'.σ 6= .p (.sl none W)/\S'.σ 11= .ptr 11 ((S.h 11).g+1) 0/\S'.h 11=⟨(S.h 11).g+1,some (.box 27 [.b (zn s),.sl none (uL (zl s))])⟩) ?_ ?_
   . refine ⟨by simp [s0],by simp [s5],by simp [s6],by simp,by simp⟩
   obtain ⟨g11,hg11⟩:∃ g,g=(S.h 11).g+1:=⟨_,rfl⟩;rw [<- hg11];rintro S1 ⟨t0,t5,t6,t11,k11⟩;refine WS_seq ?_;refine first_dbl hx h0 hn (by omega) t0 t11 k11 ?_;intro S2 z hz hzl j11 hs2;rw [<- hz] at hle;have u5:=(hs2 5 (by omega)).trans t5;have u6:=(hs2 6 (by omega)).trans t6;have u11:=(hs2 11 (by omega)).trans t11;have cm:=zcmp (isZ_of (x:=D) (k:=2^12) (by omega)) (isZ_of (x:=z) (k:=2^12) (by omega)) (by omega);have hcm:=sign_nonpos (x:=D-z) (by omega);obtain ⟨d,hd⟩:∃ d,d=(D-z).sign:=⟨_,rfl⟩;rw [<- hd] at cm hcm;show WS Try.prog 140 _ _ S2;refine WS_seq (WS_regD [] ?_); simp [u5,u6,u11,j11,hV0,hV0I,hVat,hcm,hsg2];refine callD dt2 rfl ?_; simp [u5,u6,u11,j11,hV0,hV0I,hVat,hcm,hsg2];refine ⟨rfl,?_⟩;refine Wr ?_; simp [u5,u6,u11,j11,hV0,hV0I,hVat,hcm,hsg2];refine callK cm ?_; simp [u5,u6,u11,j11,hV0,hV0I,hVat,hcm,hsg2];refine callK sg2 ?_; simp [u5,u6,u11,j11,hV0,hV0I,hVat,hcm,hsg2];refine WS_ret ?_; simp [u5,u6,u11,j11,hV0,hV0I,hVat,hcm,hsg2]
set_option maxHeartbeats 4000000 in
theorem first_tail {S:St} {n w:Nat} {xs:List V} {l:List Int} {L:List (List Int)} {b:Nat->Nat->Int} (hL:IsL 2 xs L) (hx:xs.length=n) (h0:0<n) (hn:n<=5) (hw:w<=7) (hwid:∀ a,a<n->(L.getD a []).length=w) (hl:l.length<=2^40)
 (h64:∀ t,-9223372036854775808<=cf l t/\cf l t<=9223372036854775807) (R:RedOk L n w b) (s0:S.σ 0= .p (.sl none xs)) (s1:S.σ 1= .p (.sl none (IL l))) (s5:S.σ 5= .p (.b true)) (s6:S.σ 6= .p (.sl none (redV n w b))):
 WS Try.prog 140 sc_law14_LatticeFirst.snd.snd.snd.snd.snd.snd (retQ [.tmp 4] [] (· =[.pure (.b true)])) S:=by
 have hx0:0<xs.length:=by omega
 have hx0I:(0:Int)<(xs.length:Int):=by omega
 obtain ⟨ws,hws,pw⟩:=hL.row 0 hx0;have lw:=pw.len;rw [hwid 0 h0] at lw;have hz:=rowZ_zero w;unfold sc_law14_LatticeFirst;simp only [SC.snd,SC.fst];refine Wr ?_; simp [s0,hx0,hx0I,hws,lw,hz];refine ⟨by omega,?_⟩;refine WS_abs (fun S'=>S'.σ 0= .p (.sl none xs)/\S'.σ 1= .p (.sl none (IL l))/\S'.σ 5= .p (.b true)/\S'.σ 6= .p (.sl none (redV n w b))/\S'.σ 8= .own 50 ((S.h 50).g+1) 0 w/\S'.h 50=⟨(S.h 50).g+1,some (.arr 27 (some 2) (rowZ w (fun _=>0)))⟩) ?_ ?_
 . refine ⟨by simp [s0],by simp [s1],by simp [s5],by simp [s6],by simp,by simp⟩
 obtain ⟨g,hg⟩:∃ g,g=(S.h 50).g+1:=⟨_,rfl⟩;rw [<- hg];rintro S1 ⟨t0,t1,t5,t6,t8,k50⟩;refine WS_seq ?_;refine first_loop hL hx hn hw hwid hl h64 t0 t1 t8 k50 ?_;intro S2 u8 j50 hs2;have u0:=(hs2 0 (by omega)).trans t0;have u5:=(hs2 5 (by omega)).trans t5;have u6:=(hs2 6 (by omega)).trans t6;have hv:IsP 8 (rowZ w (fun c=>smI (cf l) (bOf L) c n)) ((List.range w).map fun c=>smI (cf l) (bOf L) c n):=isP_rowZ fun c _=>by
  have:=smI_len (x:=cf l) (b:=bOf L) (c:=c) (p:=1) (q:=2) n (fun u _=>zlen_small (by have:=h64 u; omega)) (fun u _=>bOf_len hL u c);omega
 have hlr:=rowZ_length w (fun c=>smI (cf l) (bOf L) c n);have fe:=fun (S:St) (X:List V) (hX:X=rowZ w (fun c=>smI (cf l) (bOf L) c n))=>first_end (S:=S) (X:=X) hx h0 hn hw R hX (by rw [hX]; exact hv);obtain ⟨X,hX⟩:∃ X,X=rowZ w (fun c=>smI (cf l) (bOf L) c n):=⟨_,rfl⟩;rw [<- hX] at j50 hlr;have htk:X.take w=X:=List.take_of_length_le (by omega);show WS Try.prog 140 _ _ S2;refine WS_frz 50 8 none ?_;simp [frzQ,u8,j50,hlr,htk];refine fe _ X hX ?_ ?_ ?_ ?_
 . simp [u0]
 . simp [u5]
 . simp [u6]
 . simp
set_option maxHeartbeats 4000000 in
theorem law_LatticeFirst (Ms:List (List (Bool × List Nat))) (hm:MW Ms) (l:List Int) (hl:l.length<=1048576) (hl64:∀ x∈l,-9223372036854775808<=x/\x<=9223372036854775807):
 Spec Try.prog f_law14_LatticeFirst [.sl none (mL Ms),.sl none (IL l)] (· =[.pure (.b true)]):=by
 have aw:=awake14;have s1:=small14 5 2 (by omega) (by omega) Ms (by have:=hm.len; omega) hm.wid;have h64:∀ t,-9223372036854775808<=cf l t/\cf l t<=9223372036854775807:=fun t=>by
  by_cases h:t<l.length
  . rw [cf_lt h]; exact hl64 _ (List.getElem_mem _)
  . rw [cf_ge (by omega)]; omega
 by_cases c1:smL 5 2 Ms=true
 . rw [c1] at s1;obtain ⟨m1,hL,m3⟩:=smL_of hm c1;have hxl:(mL Ms).length<=5:=by rw [mL_len]; exact m1
   obtain ⟨xs,hC⟩:∃ A,A=mL Ms:=⟨_,rfl⟩;obtain ⟨L,hLe⟩:∃ A,A=mpL Ms:=⟨_,rfl⟩;rw [<- hC] at s1 hL hxl ⊢;rw [<- hLe] at hL m3;clear hC hLe c1 m1 hm;have hlen:=hL.len;have hw40:∀ i,i<xs.length->(L.getD i []).length<=2^40:=fun i _=>by have:=m3 i; omega
   obtain ⟨r,hr⟩:=boolP (okL L/\detZ L.length (gm L)≠0);obtain ⟨C,hCC⟩:∃ C,C=IL l:=⟨_,rfl⟩;cases r with
   | false=>
    have rd:=lreduce_no hL (by omega) (by omega) hw40 (fun h=>by have:=hr.2 ⟨h.1,(basis_iff h.1).1.1 h.2⟩; cases this);rw [<- hCC];refine spec_at Try.func5 ok_law14_LatticeFirst [] rfl (by simp) ?_;unfold sc_law14_LatticeFirst;refine Wr ?_; simp;refine Wr ?_; simp;refine callK aw ?_; simp;refine Ws ?_; simp;refine callK s1 ?_; simp;refine WS_cF (by simp) ?_;refine WS_skip ?_; simp;refine Wr ?_; simp;refine callK rd ?_; simp;refine Ws ?_; simp;refine WS_cT (by simp) ?_;refine Wr ?_; simp;refine WS_ret ?_; simp
   | true=>
    obtain ⟨ho,hd⟩:=hr.1 rfl;obtain ⟨n,hx⟩:∃ n,xs.length=n:=⟨_,rfl⟩;obtain ⟨w,hw0⟩:∃ w,(L.getD 0 []).length=w:=⟨_,rfl⟩;have hw7:w<=7:=by have:=m3 0; omega
    have hLn:L.length=n:=by omega
    have hnz:=(ind_of ho hLn hw0 hd).1;have rd:=lreduce_few hL (by omega) hx (by omega) hw0 hw7 ho hnz;have hwid:∀ a,a<n->(L.getD a []).length=w:=fun a ha=>by rw [<- hw0]; exact (ho.2 a (by omega)).2
    have key:=fun (S:St) b h0 R=>first_tail (S:=S) (l:=l) (b:=b) hL hx h0 (by omega) hw7 hwid (by omega) h64 R;rw [hCC.symm] at key ⊢;by_cases h0:0<n
    . have h0I:¬ (n:Int)=0:=by omega
      have h0N:¬ n=0:=by omega
      refine spec_at Try.func5 ok_law14_LatticeFirst [] rfl (by simp) ?_;unfold sc_law14_LatticeFirst;refine Wr ?_; simp;refine Wr ?_; simp;refine callK aw ?_; simp;refine Ws ?_; simp;refine callK s1 ?_; simp;refine WS_cF (by simp) ?_;refine WS_skip ?_; simp;refine Wr ?_; simp;refine callR rd ?_;rintro rvs ⟨b,R,rfl⟩;have key:=fun S=>key S b h0 R;have hV:=redV_len n w b;rw [show ((List.range n).map fun a=>V.sl (some 2) (rowZ w (b a)))=redV n w b from rfl];obtain ⟨W,hW⟩:∃ W,W=redV n w b:=⟨_,rfl⟩;rw [<- hW] at hV ⊢;simp only [<- hW] at key;simp [hx,hV,h0I,h0N];show WS Try.prog 140 _ _ _;refine Ws ?_; simp [hx,hV,h0I,h0N];refine WS_cF (by simp [hx,hV,h0I,h0N]) ?_;refine WS_skip ?_; simp [hx,hV,h0I,h0N];refine Ws ?_; simp [hx,hV,h0I,h0N];refine WS_cF (by simp [hx,hV,h0I,h0N]) ?_;refine WS_skip ?_; simp [hx,hV,h0I,h0N];show WS Try.prog 140 _ _ _;refine key _ ?_ ?_ ?_ ?_
      . simp
      . simp
      . simp
      . simp
    . obtain rfl:n=0:=by omega
      refine spec_at Try.func5 ok_law14_LatticeFirst [] rfl (by simp) ?_;unfold sc_law14_LatticeFirst;refine Wr ?_; simp;refine Wr ?_; simp;refine callK aw ?_; simp;refine Ws ?_; simp;refine callK s1 ?_; simp;refine WS_cF (by simp) ?_;refine WS_skip ?_; simp;refine Wr ?_; simp;refine callR rd ?_;rintro rvs ⟨b,R,rfl⟩;simp [hx];refine Ws ?_; simp [hx];refine WS_cT (by simp [hx]) ?_;refine Wr ?_; simp [hx];refine WS_ret ?_; simp [hx]
 . rw [show smL 5 2 Ms=false by simpa using c1] at s1;obtain ⟨A,hA⟩:∃ A,A=mL Ms:=⟨_,rfl⟩;obtain ⟨C,hC⟩:∃ C,C=IL l:=⟨_,rfl⟩;rw [<- hA] at s1 ⊢;rw [<- hC];refine spec_at Try.func5 ok_law14_LatticeFirst [] rfl (by simp) ?_;unfold sc_law14_LatticeFirst;refine Wr ?_; simp;refine Wr ?_; simp;refine callK aw ?_; simp;refine Ws ?_; simp;refine callK s1 ?_; simp;refine WS_cT (by simp) ?_;refine Wr ?_; simp;refine WS_ret ?_; simp
set_option maxHeartbeats 4000000 in
theorem makes_add {Q':Exit->St->Prop} {S:St} {n w i g:Nat} {x:Nat->Int} {xs:List V} {L:List (List Int)} (hL:IsL 2 xs L) (hx:xs.length=n) (hn:n<=5) (hw:w<=7) (hi:i<n)
 (h64:∀ t,-9223372036854775808<=x t/\x t<=9223372036854775807) (s0:S.σ 0= .p (.sl none xs)) (s10:S.σ 10= .p (.i .i64 (i:Int))) (s11:S.σ 11= .p (.i .i64 (x i))) (s8:S.σ 8= .own 49 g 0 w) (h50:S.h 49=⟨g,some (.arr 27 (some 2) (rowZ w (fun c=>smI x (bOf L) c i)))⟩)
 (hQ:∀ S':St,S'.σ 8= .own 49 g 0 w->S'.h 49=⟨g,some (.arr 27 (some 2) (rowZ w (fun c=>smI x (bOf L) c (i+1))))⟩->(∀ t,t<=11->t≠8->S'.σ t=S.σ t)->(∀ q,q≠49->S'.h q=S.h q)->Q' .normal S'):
 WS Try.prog 171 sc_law14_LatticeMakes.snd.snd.snd.snd.snd.snd.fst.snd.fst.fst.snd.fst.fst.snd.snd.snd Q' S:=by
 have hix:i<xs.length:=by omega
 have hixI:(i:Int)<(xs.length:Int):=by omega
 obtain ⟨ws,hws,pw⟩:=hL.row i hix;have lw:=pw.len;unfold sc_law14_LatticeMakes;simp only [SC.snd,SC.fst];refine Wr ?_; simp;refine WS_block ?_;refine WS_loop (MkK S x (bOf L) w ws.length i g) (fun S=>w-nM 12 S) ⟨0,by omega,by omega,by simp [s8],by rw [sumV_first]; simp [h50],by simp,fun t ht h8=>?_,fun q hq=>by simp⟩ ?_
 . simp only [upd_apply];repeat rw [if_neg (by omega)]
 rintro S1 ⟨k,hk,hkr,t8,k50,t12,hs,hh⟩;have d12:=nM_eq t12;have t0:=(hs 0 (by omega) (by omega)).trans s0;have t10:=(hs 10 (by omega) (by omega)).trans s10;have t11:=(hs 11 (by omega) (by omega)).trans s11;by_cases hlt:k<w
 . have hltI:(k:Int)<(w:Int):=by omega
   by_cases hkw:k<ws.length
   . have hkwI:(k:Int)<(ws.length:Int):=by omega
     have wk:=i64_succ k (by omega);obtain ⟨b1,l1,e1,hz1,hzi1⟩:=pw.cell k hkw;have of1:=zof (x i) (h64 i).1 (h64 i).2;have zx:∀ t,zlen (x t)<=1:=fun t=>zlen_small (by have:=h64 t; omega);have zb:=pw.pl k;have mu:=zmul (isZ_of (x:=x i) (k:=2^20) (Nat.le_trans (zx i) (by omega))) ((pw.get k hkw).mono (show 2<=2^20 by omega)) (by omega);rw [e1] at mu;have q1:=zlen_mul (x i) (cf (L.getD i []) k);have q2:=smI_len (x:=x) (b:=bOf L) (c:=k) (p:=1) (q:=2) i (fun u _=>zx u) (fun u _=>bOf_len hL u k);have q3:=zx i;have ad:=zadd (isZ_of (x:=smI x (bOf L) k i) (k:=2^22) (by omega)) (isZ_of (x:=x i*cf (L.getD i []) k) (k:=2^22) (by omega)) (by omega);rw [show smI x (bOf L) k i+x i*cf (L.getD i []) k=smI x (bOf L) k (i+1) from rfl] at ad;have hRl:=rowZ_length w (sumV x (bOf L) i k);have hat:(rowZ w (sumV x (bOf L) i k))[k]'(by rw [hRl]; exact hlt)=Z (smI x (bOf L) k i):=by rw [rowZ_at]; unfold sumV; rw [if_neg (by omega)]
     have hset:=sumV_set (x:=x) (b:=bOf L) (w:=w) (i:=i) (k:=k);obtain ⟨y,hy⟩:∃ y,y=x i:=⟨_,rfl⟩;obtain ⟨z,hz⟩:∃ z,z=smI x (bOf L) k (i+1):=⟨_,rfl⟩;obtain ⟨u,hu⟩:∃ u,u=smI x (bOf L) k i:=⟨_,rfl⟩;obtain ⟨R,hR⟩:∃ R,R=rowZ w (sumV x (bOf L) i k):=⟨_,rfl⟩;rw [<- hy] at of1 mu ad t11;rw [<- hz] at ad hset;rw [<- hu] at ad hat;simp only [<- hR] at hat;rw [<- hR] at hset hRl k50;rw [Z_eq] at hat hset;refine Ws ?_; simp [t0,t8,t10,t11,t12,k50,hlt,hltI,hix,hixI,hws,hkw,hkwI,e1,hRl,hat,hset,wk];refine WS_cT (by simp [t0,t8,t10,t11,t12,k50,hlt,hltI,hix,hixI,hws,hkw,hkwI,e1,hRl,hat,hset,wk]) ?_;refine WS_skip ?_; simp [t0,t8,t10,t11,t12,k50,hlt,hltI,hix,hixI,hws,hkw,hkwI,e1,hRl,hat,hset,wk];refine WS_seq (WS_block (WS_regD [] ?_)); simp [t0,t8,t10,t11,t12,k50,hlt,hltI,hix,hixI,hws,hkw,hkwI,e1,hRl,hat,hset,wk];refine callD of1 rfl ?_; simp [t0,t8,t10,t11,t12,k50,hlt,hltI,hix,hixI,hws,hkw,hkwI,e1,hRl,hat,hset,wk];refine callD mu rfl ?_; simp [t0,t8,t10,t11,t12,k50,hlt,hltI,hix,hixI,hws,hkw,hkwI,e1,hRl,hat,hset,wk];refine callD ad rfl ?_; simp [t0,t8,t10,t11,t12,k50,hlt,hltI,hix,hixI,hws,hkw,hkwI,e1,hRl,hat,hset,wk];refine ⟨rfl,?_⟩;refine WS_reg [] ?_; simp [t0,t8,t10,t11,t12,k50,hlt,hltI,hix,hixI,hws,hkw,hkwI,e1,hRl,hat,hset,wk];refine ⟨⟨k+1,by omega,by omega,by simp [t8],by simp,by simp,fun t ht h8=>?_,fun q hq=>by simp [hq,hh q hq]⟩,?_⟩
     . simp only [upd_apply];repeat rw [if_neg (by omega)]
       exact hs t ht h8
     . rw [d12,nM_eq (i:=12) (n:=k+1) (by simp)]; omega
   . have hkwI:¬ (k:Int)<(ws.length:Int):=by omega
     rw [sumV_short fun c h1 h2=>cf_ge (by omega)] at k50;refine Ws ?_; simp [t0,t8,t10,t12,k50,hltI,hix,hixI,hws,hkwI];refine WS_cF (by simp [t0,t8,t10,t12,k50,hltI,hix,hixI,hws,hkwI]) ?_;refine WS_exit ?_; simp [t0,t8,t10,t12,k50,hltI,hix,hixI,hws,hkwI];refine hQ _ (by simp [t8]) (by simp [k50]) (fun t ht h8=>?_) fun q hq=>by simp [hh q hq]
     simp only [upd_apply];repeat rw [if_neg (by omega)]
     exact hs t ht h8
 . obtain rfl:k=w:=by omega
   have hltI:¬ (k:Int)<(k:Int):=by omega
   rw [sumV_last] at k50;refine Ws ?_; simp [t8,t12,k50,hltI];refine WS_cF (by simp [t8,t12,k50,hltI]) ?_;refine WS_exit ?_; simp [t8,t12,k50,hltI];refine hQ _ (by simp [t8]) (by simp [k50]) (fun t ht h8=>?_) fun q hq=>by simp [hh q hq]
   simp only [upd_apply];repeat rw [if_neg (by omega)]
   exact hs t ht h8
set_option maxHeartbeats 4000000 in
theorem makes_row {Q':Exit->St->Prop} {S:St} {n w i g g9:Nat} {x:Nat->Int} {xs:List V} {L:List (List Int)} (hL:IsL 2 xs L) (hx:xs.length=n) (hn:n<=5) (hw:w<=7) (hi:i<n)
 (h64:∀ t,-9223372036854775808<=x t/\x t<=9223372036854775807) (s0:S.σ 0= .p (.sl none xs)) (s10:S.σ 10= .p (.i .i64 (i:Int))) (s11:S.σ 11= .p (.i .i64 (x i))) (s8:S.σ 8= .own 49 g 0 w) (h50:S.h 49=⟨g,some (.arr 27 (some 2) (rowZ w (fun c=>smI x (bOf L) c i)))⟩)
 (s9:S.σ 9= .own 9 g9 0 i) (h9:S.h 9=⟨g9,some (.arr 27 (some 2) (rowZ i x))⟩)
 (hQ:∀ S':St,S'.σ 8= .own 49 g 0 w->S'.h 49=⟨g,some (.arr 27 (some 2) (rowZ w (fun c=>smI x (bOf L) c (i+1))))⟩->S'.σ 9= .own 9 (g9+1) 0 (i+1)->S'.h 9=⟨g9+1,some (.arr 27 (some 2) (rowZ (i+1) x))⟩->S'.σ 10= .p (.i .i64 (i:Int))->(∀ t,t<=7->S'.σ t=S.σ t)->Q' .normal S'):
 WS Try.prog 171 sc_law14_LatticeMakes.snd.snd.snd.snd.snd.snd.fst.snd.fst.fst.snd.fst.fst.snd.snd Q' S:=by
 have add:=fun (S:St)=>makes_add (Q':=Q') (S:=S) (g:=g) hL hx hn hw hi h64;have of1:=zof (x i) (h64 i).1 (h64 i).2;have hsn:=rowZ_snoc (k:=i) (f:=x);have hlr:=rowZ_length i x;rw [Z_eq] at hsn;obtain ⟨X,hX⟩:∃ X,X=rowZ i x:=⟨_,rfl⟩;rw [<- hX] at h9 hsn hlr;have htk:X.take i=X:=List.take_of_length_le (by omega);obtain ⟨y,hy⟩:∃ y,y=x i:=⟨_,rfl⟩;rw [<- hy] at of1 hsn;have s11':=s11;rw [<- hy] at s11';have b1:(i+1)*32<=140737488355328:=app_bnd _ _ _ (by omega) (by omega) (by omega);have b2:i<=140737488355327:=by omega
 unfold sc_law14_LatticeMakes at*
 simp only [SC.snd,SC.fst] at*
 refine Wr ?_; simp [s9,s11',h9,htk,hlr,b1,b2];refine callK of1 ?_; simp [s9,s11',h9,htk,hlr,b1,b2];refine add _ ?_ ?_ ?_ ?_ ?_ ?_
 . simp [s0]
 . simp [s10]
 . simp [s11]
 . simp [s8]
 . simp [h50]
 . intro S' u8 j49 hs' hh';refine hQ S' u8 j49 ((hs' 9 (by omega) (by omega)).trans (by simp)) ((hh' 9 (by omega)).trans (by simp [hsn])) ((hs' 10 (by omega) (by omega)).trans (by simp [s10])) fun t ht=>?_;have e:=hs' t (by omega) (by omega);simp only [upd_apply] at e;repeat rw [if_neg (by omega)] at e
   exact e
set_option maxHeartbeats 4000000 in
theorem makes_loop {Q':Exit->St->Prop} {S:St} {n w g g9:Nat} {xs:List V} {l:List Int} {L:List (List Int)} (hL:IsL 2 xs L) (hx:xs.length=n) (hn:n<=5) (hw:w<=7) (hl:l.length<=2^40)
 (h64:∀ t,-9223372036854775808<=cf l t/\cf l t<=9223372036854775807) (s0:S.σ 0= .p (.sl none xs)) (s1:S.σ 1= .p (.sl none (IL l))) (s8:S.σ 8= .own 49 g 0 w) (h50:S.h 49=⟨g,some (.arr 27 (some 2) (rowZ w (fun _=>0)))⟩)
 (s9:S.σ 9= .own 9 g9 0 0) (h9:S.h 9=⟨g9,some (.arr 27 (some 2) [])⟩)
 (hQ:∀ (S':St) g9',S'.σ 8= .own 49 g 0 w->S'.h 49=⟨g,some (.arr 27 (some 2) (rowZ w (fun c=>smI (cf l) (bOf L) c n)))⟩->S'.σ 9= .own 9 g9' 0 n->S'.h 9=⟨g9',some (.arr 27 (some 2) (rowZ n (cf l)))⟩->(∀ t,t<=7->S'.σ t=S.σ t)->Q' .normal S'):
 WS Try.prog 171 sc_law14_LatticeMakes.snd.snd.snd.snd.snd.snd.fst Q' S:=by
 have hIl:=IL_length l;unfold sc_law14_LatticeMakes;simp only [SC.snd,SC.fst];refine Wr ?_; simp;refine WS_block ?_;refine WS_loop (MkO S (cf l) (bOf L) w n g) (fun S=>n-nM 10 S) ⟨0,g9,by omega,by simp [s8],by simp [h50,smI],by simp [s9],by simp [h9,rowZ],by simp,fun t ht=>?_⟩ ?_
 . simp only [upd_apply];repeat rw [if_neg (by omega)]
 rintro S1 ⟨i,g9',hi,t8,k50,t9,k9,t10,hs⟩;have d10:=nM_eq t10;have t0:=(hs 0 (by omega)).trans s0;have t1:=(hs 1 (by omega)).trans s1;by_cases hlt:i<n
 . have hltI:(i:Int)<(n:Int):=by omega
   have wi:=i64_succ i (by omega);by_cases hlm:i<l.length
   . have hlmI:(i:Int)<(l.length:Int):=by omega
     have hat:=IL_get l i (by rw [hIl]; exact hlm);refine Ws ?_; simp [t0,t1,t10,hx,hIl,hltI,hlm,hlmI,hat];refine WS_cT (by simp [t0,t1,t10,hx,hIl,hltI,hlm,hlmI,hat]) ?_;refine WS_skip ?_; simp [t0,t1,t10,hx,hIl,hltI,hlm,hlmI,hat];refine WS_seq (WS_block (Wr ?_)); simp [t0,t1,t10,hx,hIl,hltI,hlm,hlmI,hat];refine Ws ?_; simp [t0,t1,t10,hx,hIl,hltI,hlm,hlmI,hat];refine WS_cT (by simp [t0,t1,t10,hx,hIl,hltI,hlm,hlmI,hat]) ?_;refine WS_reg [] ?_; simp [t0,t1,t10,hx,hIl,hltI,hlm,hlmI,hat];refine makes_row (i:=i) (g:=g) (g9:=g9') hL hx hn hw hlt h64 (by simp [t0]) (by simp [t10]) (by simp) (by simp [t8]) (by simp [k50]) (by simp [t9]) (by simp [k9]) ?_;intro S2 u8 j50 u9 j9 u10 hs2;show WS Try.prog 171 _ _ S2;refine WS_reg [] ?_; simp [u10,wi];refine ⟨⟨i+1,g9'+1,by omega,by simp [u8],by simp [j50],by simp [u9],by simp [j9],by simp,fun t ht=>?_⟩,?_⟩
     . have e:=hs2 t (by omega);simp only [upd_apply] at e ⊢;repeat rw [if_neg (by omega)] at e
       repeat rw [if_neg (by omega)]
       exact e.trans (hs t ht)
     . rw [d10,nM_eq (i:=10) (n:=i+1) (by simp)]; omega
   . have hlmI:¬ (i:Int)<(l.length:Int):=by omega
     have hz:cf l i=0:=cf_ge (by omega);refine Ws ?_; simp [t0,t1,t10,hx,hIl,hltI,hlm,hlmI];refine WS_cT (by simp [t0,t1,t10,hx,hIl,hltI,hlm,hlmI]) ?_;refine WS_skip ?_; simp [t0,t1,t10,hx,hIl,hltI,hlm,hlmI];refine WS_seq (WS_block (Wr ?_)); simp [t0,t1,t10,hx,hIl,hltI,hlm,hlmI];refine Ws ?_; simp [t0,t1,t10,hx,hIl,hltI,hlm,hlmI];refine WS_cF (by simp [t0,t1,t10,hx,hIl,hltI,hlm,hlmI]) ?_;refine WS_skip ?_; simp [t0,t1,t10,hx,hIl,hltI,hlm,hlmI];refine makes_row (i:=i) (g:=g) (g9:=g9') hL hx hn hw hlt h64 (by simp [t0]) (by simp [t10]) (by simp [hz]) (by simp [t8]) (by simp [k50]) (by simp [t9]) (by simp [k9]) ?_;intro S2 u8 j50 u9 j9 u10 hs2;show WS Try.prog 171 _ _ S2;refine WS_reg [] ?_; simp [u10,wi];refine ⟨⟨i+1,g9'+1,by omega,by simp [u8],by simp [j50],by simp [u9],by simp [j9],by simp,fun t ht=>?_⟩,?_⟩
     . have e:=hs2 t (by omega);simp only [upd_apply] at e ⊢;repeat rw [if_neg (by omega)] at e
       repeat rw [if_neg (by omega)]
       exact e.trans (hs t ht)
     . rw [d10,nM_eq (i:=10) (n:=i+1) (by simp)]; omega
 . obtain rfl:i=n:=by omega
   have hltI:¬ (i:Int)<(i:Int):=by omega
   refine Ws ?_; simp [t0,t10,hx,hltI];refine WS_cF (by simp [t0,t10,hx,hltI]) ?_;refine WS_exit ?_; simp [t0,t10,hx,hltI];refine hQ _ g9' (by simp [t8]) (by simp [k50]) (by simp [t9]) (by simp [k9]) fun t ht=>?_;simp only [upd_apply];repeat rw [if_neg (by omega)]
   exact hs t ht
set_option maxHeartbeats 4000000 in
theorem makes_check {Q':Exit->St->Prop} {S:St} {n:Nat} {x:Nat->Int} (hn:n<=5) (hx:∀ t,zlen (x t)<=1) (s9:S.σ 9= .p (.sl (some 2) (rowZ n x))) (s13:S.σ 13= .p (.sl (some 2) (rowZ n x)))
 (hQ:∀ S':St,(∀ t,t<=16->S'.σ t=S.σ t)->Q' .normal S'):
 WS Try.prog 171 sc_law14_LatticeMakes.snd.snd.snd.snd.snd.snd.snd.snd.snd.snd.snd.fst Q' S:=by
 unfold sc_law14_LatticeMakes;simp only [SC.snd,SC.fst];refine Wr ?_; simp;refine WS_block ?_;refine WS_loop (MkC S n) (fun S=>n-nM 17 S) ⟨0,by omega,by simp,fun t ht=>?_⟩ ?_
 . simp only [upd_apply];repeat rw [if_neg (by omega)]
 rintro S1 ⟨k,hk,t17,hs⟩;have d17:=nM_eq t17;have t9:=(hs 9 (by omega)).trans s9;have t13:=(hs 13 (by omega)).trans s13;have hlr:=rowZ_length n x;by_cases hlt:k<n
 . have hltI:(k:Int)<(n:Int):=by omega
   have wk:=i64_succ k (by omega);have cm:=zcmp (isZ_of (x:=x k) (k:=2^12) (Nat.le_trans (hx k) (by omega))) (isZ_of (x:=x k) (k:=2^12) (Nat.le_trans (hx k) (by omega))) (by omega);rw [Int.sub_self,Int.sign_zero] at cm;have hat:(rowZ n x)[k]'(by rw [hlr]; exact hlt)=Z (x k):=rowZ_at _;obtain ⟨y,hy⟩:∃ y,y=x k:=⟨_,rfl⟩;rw [<- hy] at cm hat;rw [Z_eq] at hat;obtain ⟨X,hX⟩:∃ X,X=rowZ n x:=⟨_,rfl⟩;rw [<- hX] at hlr t9 t13;simp only [<- hX] at hat;refine Ws ?_; simp [t9,t13,t17,hlr,hlt,hltI,hat,wk];refine WS_cT (by simp [t9,t13,t17,hlr,hlt,hltI,hat,wk]) ?_;refine WS_skip ?_; simp [t9,t13,t17,hlr,hlt,hltI,hat,wk];refine WS_seq (WS_block (WS_seq (WS_regD [] ?_))); simp [t9,t13,t17,hlr,hlt,hltI,hat,wk];refine callD cm rfl ?_; simp [t9,t13,t17,hlr,hlt,hltI,hat,wk];refine ⟨rfl,?_⟩;refine WS_cF (by simp [t9,t13,t17,hlr,hlt,hltI,hat,wk]) ?_;refine WS_skip ?_; simp [t9,t13,t17,hlr,hlt,hltI,hat,wk];refine WS_reg [] ?_; simp [t9,t13,t17,hlr,hlt,hltI,hat,wk];refine ⟨⟨k+1,by omega,by simp,fun t ht=>?_⟩,?_⟩
   . simp only [upd_apply];repeat rw [if_neg (by omega)]
     exact hs t ht
   . rw [d17,nM_eq (i:=17) (n:=k+1) (by simp)]; omega
 . obtain rfl:k=n:=by omega
   have hltI:¬ (k:Int)<(k:Int):=by omega
   refine Ws ?_; simp [t13,t17,hlr,hltI];refine WS_cF (by simp [t13,t17,hlr,hltI]) ?_;refine WS_exit ?_; simp [t13,t17,hlr,hltI];refine hQ _ fun t ht=>?_;simp only [upd_apply];repeat rw [if_neg (by omega)]
   exact hs t ht
set_option maxHeartbeats 4000000 in
theorem makes_yes {S:St} {n w:Nat} {D:Int} {x:Nat->Int} {xs v:List V} {L:List (List Int)} (hn:n<=5) (h0:0<n) (hw:w<=7) (hx:∀ t,zlen (x t)<=1) (ho:okL L) (hLn:L.length=n) (hw0:(L.getD 0 []).length=w) (hnz:∀ t,t<n->brM (gW L w) t t t≠0)
 (li:Spec Try.prog f_lattice_In [.sl none xs,.sl (some 2) v] (· =[.pure (.sl (some 2) (rowZ n x)),.pure (.i .i64 0)])) (gr:Spec Try.prog f_lattice_Gram [.sl none xs] (· =[.pure (Z D),.pure (.i .i64 0)]))
 (rd:Spec Try.prog f_lattice_Reduce [.sl none xs] (fun rvs=>∃ b,RedOk L n w b/\rvs=[.pure (.sl none ((List.range n).map fun a=>.sl (some 2) (rowZ w (b a)))),.pure (.i .i64 0)]))
 (s0:S.σ 0= .p (.sl none xs)) (s5:S.σ 5= .p (.b true)) (s8:S.σ 8= .p (.sl (some 2) v)) (s9:S.σ 9= .p (.sl (some 2) (rowZ n x))):
 WS Try.prog 171 sc_law14_LatticeMakes.snd.snd.snd.snd.snd.snd.snd (retQ [.tmp 4] [] (· =[.pure (.b true)])) S:=by
 have hlr:=rowZ_length n x;have ck:=fun (Q':Exit->St->Prop) (S:St) (X:List V) (hX:X=rowZ n x)=>makes_check (Q':=Q') (S:=S) (x:=x) hn hx;obtain ⟨X,hX⟩:∃ X,X=rowZ n x:=⟨_,rfl⟩;have ck:=fun Q' S=>ck Q' S X hX;rw [<- hX] at li s9 hlr;simp only [<- hX] at ck;unfold sc_law14_LatticeMakes at*
 simp only [SC.snd,SC.fst] at*
 refine Wr ?_; simp [s0,s5,s8,s9,hlr];refine callK li ?_; simp [s0,s5,s8,s9,hlr];refine Wr ?_; simp [s0,s5,s8,s9,hlr];refine callK gr ?_; simp [s0,s5,s8,s9,hlr];refine Ws ?_; simp [s0,s5,s8,s9,hlr];refine WS_cF (by simp [s0,s5,s8,s9,hlr]) ?_;refine WS_skip ?_; simp [s0,s5,s8,s9,hlr];refine Ws ?_; simp [s0,s5,s8,s9,hlr];refine WS_cF (by simp [s0,s5,s8,s9,hlr]) ?_;refine WS_skip ?_; simp [s0,s5,s8,s9,hlr];refine WS_abs (fun S'=>S'.σ 0= .p (.sl none xs)/\S'.σ 5= .p (.b true)/\S'.σ 9= .p (.sl (some 2) X)/\S'.σ 13= .p (.sl (some 2) X)) ?_ ?_
 . refine ⟨by simp [s0],by simp [s5],by simp [s9],by simp⟩
 rintro S1 ⟨t0,t5,t9,t13⟩;refine WS_seq ?_;refine ck _ _ t9 t13 ?_;intro S2 hs2;have u0:=(hs2 0 (by omega)).trans t0;have u5:=(hs2 5 (by omega)).trans t5;clear s0 s5 s8 s9 t0 t5 t9 t13 hs2 S S1;show WS Try.prog 171 _ _ S2;refine Wr ?_; simp [u0];refine callR rd ?_;rintro rvs ⟨b,R,rfl⟩;simp [u0];have RA:=redA R ho hLn hw0 hnz (by omega) (by omega);have hL':=redV_isL R.lim;have hV:=redV_len n w b;have rr:=lreduced hL' (by omega) hV (RA.wid 0 h0) RA.ok (by rw [gW_eq]; exact RA.ind) (lim_congr R.big fun a c ha hc=>redL_bOf ha hc) true (by simp only [true_iff]; exact RA.red);rw [show ((List.range n).map fun a=>V.sl (some 2) (rowZ w (b a)))=redV n w b from rfl];obtain ⟨W,hW⟩:∃ W,W=redV n w b:=⟨_,rfl⟩;rw [<- hW] at rr ⊢;show WS Try.prog 171 _ _ _;refine Wr ?_; simp [u5];refine callK rr ?_; simp [u5];refine Wr ?_; simp [u5];refine WS_ret ?_; simp [u5]
set_option maxHeartbeats 4000000 in
theorem makes_no {S:St} {xs v:List V} (li:Spec Try.prog f_lattice_In [.sl none xs,.sl (some 2) v] (· =[.pure (.sl (some 2) []),.pure (.i .i64 1)])) (gr:Spec Try.prog f_lattice_Gram [.sl none xs] (· =[.pure (Z 0),.pure (.i .i64 1)]))
 (s0:S.σ 0= .p (.sl none xs)) (s5:S.σ 5= .p (.b true)) (s8:S.σ 8= .p (.sl (some 2) v)):
 WS Try.prog 171 sc_law14_LatticeMakes.snd.snd.snd.snd.snd.snd.snd (retQ [.tmp 4] [] (· =[.pure (.b true)])) S:=by
 obtain ⟨z,hz⟩:∃ z:Int,z=0:=⟨_,rfl⟩;rw [show Z 0=Z z by rw [hz]] at gr;clear hz;unfold sc_law14_LatticeMakes;simp only [SC.snd,SC.fst];refine Wr ?_; simp [s0,s5,s8];refine callK li ?_; simp [s0,s5,s8];refine Wr ?_; simp [s0,s5,s8];refine callK gr ?_; simp [s0,s5,s8];refine Ws ?_; simp [s0,s5,s8];refine WS_cT (by simp [s0,s5,s8]) ?_;refine Wr ?_; simp [s0,s5,s8];refine WS_ret ?_; simp [s0,s5,s8]
set_option maxHeartbeats 4000000 in
theorem makes_mid {Q':Exit->St->Prop} {S:St} {n w:Nat} {xs:List V} {l:List Int} {L:List (List Int)} (hL:IsL 2 xs L) (hx:xs.length=n) (h0:0<n) (hn:n<=5) (hw0:(L.getD 0 []).length=w) (hw:w<=7) (hl:l.length<=2^40)
 (h64:∀ t,-9223372036854775808<=cf l t/\cf l t<=9223372036854775807) (s0:S.σ 0= .p (.sl none xs)) (s1:S.σ 1= .p (.sl none (IL l))) (s5:S.σ 5= .p (.b true))
 (hQ:∀ S':St,S'.σ 0= .p (.sl none xs)->S'.σ 5= .p (.b true)->S'.σ 8= .p (.sl (some 2) (rowZ w (fun c=>smI (cf l) (bOf L) c n)))->S'.σ 9= .p (.sl (some 2) (rowZ n (cf l)))->WS Try.prog 171 sc_law14_LatticeMakes.snd.snd.snd.snd.snd.snd.snd Q' S'):
 WS Try.prog 171 sc_law14_LatticeMakes.snd.snd.snd.snd Q' S:=by
 have hx0:0<xs.length:=by omega
 have hx0I:(0:Int)<(xs.length:Int):=by omega
 obtain ⟨ws,hws,pw⟩:=hL.row 0 hx0;have lw:=pw.len;rw [hw0] at lw;have hz:=rowZ_zero w;unfold sc_law14_LatticeMakes at*
 simp only [SC.snd,SC.fst] at*
 refine Wr ?_; simp [s0,hx0,hx0I,hws,lw,hz];refine ⟨by omega,?_⟩;refine WS_seq (WS_reg [9] ?_); simp [s0,hx0,hx0I,hws,lw,hz];refine WS_abs (fun S'=>S'.σ 0= .p (.sl none xs)/\S'.σ 1= .p (.sl none (IL l))/\S'.σ 5= .p (.b true)/\S'.σ 8= .own 49 ((S.h 49).g+1) 0 w/\S'.h 49=⟨(S.h 49).g+1,some (.arr 27 (some 2) (rowZ w (fun _=>0)))⟩/\S'.σ 9= .own 9 ((S.h 9).g+1) 0 0/\S'.h 9=⟨(S.h 9).g+1,some (.arr 27 (some 2) [])⟩) ?_ ?_
 . refine ⟨by simp [s0],by simp [s1],by simp [s5],by simp,by simp,by simp,by simp⟩
 obtain ⟨g,hg⟩:∃ g,g=(S.h 49).g+1:=⟨_,rfl⟩;obtain ⟨g9,hg9⟩:∃ g,g=(S.h 9).g+1:=⟨_,rfl⟩;rw [<- hg,<-hg9];rintro S1 ⟨t0,t1,t5,t8,k49,t9,k9⟩;refine WS_seq ?_;refine makes_loop hL hx hn hw hl h64 t0 t1 t8 k49 t9 k9 ?_;intro S2 g9' u8 j49 u9 j9 hs2;have u0:=(hs2 0 (by omega)).trans t0;have u5:=(hs2 5 (by omega)).trans t5;have hlr:=rowZ_length w (fun c=>smI (cf l) (bOf L) c n);have hly:=rowZ_length n (cf l);obtain ⟨X,hX⟩:∃ X,X=rowZ w (fun c=>smI (cf l) (bOf L) c n):=⟨_,rfl⟩;obtain ⟨Y,hY⟩:∃ Y,Y=rowZ n (cf l):=⟨_,rfl⟩;rw [<- hX] at j49 hlr;rw [<- hY] at j9 hly;simp only [<- hX,<-hY] at hQ;have htk:X.take w=X:=List.take_of_length_le (by omega);have hty:Y.take n=Y:=List.take_of_length_le (by omega);refine WS_frz 49 8 none ?_;simp [frzQ,u8,j49,hlr,htk];refine WS_frz 9 9 none ?_;simp [frzQ,u9,j9,hly,hty];refine hQ _ ?_ ?_ ?_ ?_
 . simp [u0]
 . simp [u5]
 . simp
 . simp
set_option maxHeartbeats 4000000 in
theorem law_LatticeMakes (Ms:List (List (Bool × List Nat))) (hm:MW Ms) (l:List Int) (hl:l.length<=1048576) (hl64:∀ x∈l,-9223372036854775808<=x/\x<=9223372036854775807):
 Spec Try.prog f_law14_LatticeMakes [.sl none (mL Ms),.sl none (IL l)] (· =[.pure (.b true)]):=by
 have aw:=awake14;have s1:=small14 5 2 (by omega) (by omega) Ms (by have:=hm.len; omega) hm.wid;have h64:∀ t,-9223372036854775808<=cf l t/\cf l t<=9223372036854775807:=fun t=>by
  by_cases h:t<l.length
  . rw [cf_lt h]; exact hl64 _ (List.getElem_mem _)
  . rw [cf_ge (by omega)]; omega
 by_cases c1:smL 5 2 Ms=true
 . rw [c1] at s1;obtain ⟨m1,hL,m3⟩:=smL_of hm c1;have hxl:(mL Ms).length<=5:=by rw [mL_len]; exact m1
   obtain ⟨xs,hC⟩:∃ A,A=mL Ms:=⟨_,rfl⟩;obtain ⟨L,hLe⟩:∃ A,A=mpL Ms:=⟨_,rfl⟩;rw [<- hC] at s1 hL hxl ⊢;rw [<- hLe] at hL m3;clear hC hLe c1 m1 hm;have hlen:=hL.len;have hw40:∀ i,i<xs.length->(L.getD i []).length<=2^40:=fun i _=>by have:=m3 i; omega
   obtain ⟨n,hx⟩:∃ n,xs.length=n:=⟨_,rfl⟩;obtain ⟨w,hw0⟩:∃ w,(L.getD 0 []).length=w:=⟨_,rfl⟩;have hw7:w<=7:=by have:=m3 0; omega
   have hLn:L.length=n:=by omega
   by_cases h0:0<n
   . have h0I:¬ (n:Int)=0:=by omega
     have h0N:¬ n=0:=by omega
     have mid:=fun (Q':Exit->St->Prop) (S:St)=>makes_mid (Q':=Q') (S:=S) (l:=l) hL hx h0 (by omega) hw0 hw7 (by omega) h64;have hv:IsP 4 (rowZ w (fun c=>smI (cf l) (bOf L) c n)) ((List.range w).map fun c=>smI (cf l) (bOf L) c n):=isP_rowZ fun c _=>smI_four (k:=0) hL (by omega) h64 c;have hvl:=rowZ_length w (fun c=>smI (cf l) (bOf L) c n);obtain ⟨r,hr⟩:=boolP (okL L/\detZ L.length (gm L)≠0);have gr:=lgramE hL (by omega) (by omega) hw40 r hr;have fin:∀ S:St,S.σ 0= .p (.sl none xs)->S.σ 5= .p (.b true)->S.σ 8= .p (.sl (some 2) (rowZ w (fun c=>smI (cf l) (bOf L) c n)))->S.σ 9= .p (.sl (some 2) (rowZ n (cf l)))->WS Try.prog 171 sc_law14_LatticeMakes.snd.snd.snd.snd.snd.snd.snd (retQ [.tmp 4] [] (· =[.pure (.b true)])) S:=by
      intro S z0 z5 z8 z9;cases r with
      | false=>
       rw [if_neg (by decide)] at gr;have li:=lin_no hL hv (by omega) (by omega) hw40 (by omega) (.inl fun h=>by have:=hr.2 ⟨h.1,(basis_iff h.1).1.1 h.2⟩; cases this);exact makes_no li gr z0 z5 z8
      | true=>
       rw [if_pos rfl] at gr;obtain ⟨ho,hd⟩:=hr.1 rfl;have hnz:=(ind_of ho hLn hw0 hd).1;have rd:=lreduce_few hL (by omega) hx (by omega) hw0 hw7 ho hnz;have hwid:∀ a,a<n->(L.getD a []).length=w:=fun a ha=>by rw [<- hw0]; exact (ho.2 a (by omega)).2
       have hcv:∀ c,c<w->cf ((List.range w).map fun c=>smI (cf l) (bOf L) c n) c=smI (cf l) (bOf L) c n:=fun c hc=>by rw [cf_range,if_pos hc]
       have hd':=hd;rw [hLn] at hd';have li:=lin_yes (res:=[.pure (.sl (some 2) (rowZ n (cf l))),.pure (.i .i64 0)]) (hL.mono (show 2<=4 by omega)) hv (by omega) (by omega) hx hvl (by omega) ho hwid hnz (fun c hc=>kk_four c (by omega)) (fun x hxx=>by
        rw [rowZ_congr (f:=cf l) (g:=x) fun t ht=>((crX_eq hwid hd' hcv ht).2.symm.trans (crX_eq hwid hd' hxx ht).2)]) fun h=>absurd ⟨cf l,hcv⟩ h
       exact makes_yes (by omega) h0 hw7 (fun t=>zlen_small (by have:=h64 t; omega)) ho hLn hw0 hnz li gr rd z0 z5 z8 z9
     obtain ⟨C,hCC⟩:∃ C,C=IL l:=⟨_,rfl⟩;simp only [<- hCC] at mid;rw [<- hCC];clear gr hv hvl;refine spec_at Try.func6 ok_law14_LatticeMakes [] rfl (by simp) ?_;unfold sc_law14_LatticeMakes;refine Wr ?_; simp [hx,h0I,h0N];refine Wr ?_; simp [hx,h0I,h0N];refine callK aw ?_; simp [hx,h0I,h0N];refine Ws ?_; simp [hx,h0I,h0N];refine callK s1 ?_; simp [hx,h0I,h0N];refine WS_cF (by simp [hx,h0I,h0N]) ?_;refine WS_skip ?_; simp [hx,h0I,h0N];refine Ws ?_; simp [hx,h0I,h0N];refine WS_cF (by simp [hx,h0I,h0N]) ?_;refine WS_skip ?_; simp [hx,h0I,h0N];show WS Try.prog 171 _ _ _;refine mid _ _ ?_ ?_ ?_ fin
     . simp
     . simp
     . simp
   . obtain rfl:n=0:=by omega
     have li:=lin_yes (res:=[.pure (.sl (some 2) []),.pure (.i .i64 0)]) (xs:=xs) (k:=2) (n:=0) (W:=0) hL (isP_rowZ (w:=0) (f:=fun _=>0) fun j hj=>by omega) (by omega) (by omega) hx rfl (by omega) ⟨by omega,fun i hi=>by omega⟩ (fun a ha=>by omega) (fun t ht=>by omega) (fun c hc=>by
      obtain rfl:c=0:=by omega
      decide) (fun x _=>rfl) fun h=>absurd ⟨fun _=>0,fun c hc=>by omega⟩ h
     rw [show rowZ 0 (fun _=>0)=[] from rfl] at li;obtain ⟨C,hCC⟩:∃ C,C=IL l:=⟨_,rfl⟩;rw [<- hCC];refine spec_at Try.func6 ok_law14_LatticeMakes [] rfl (by simp) ?_;unfold sc_law14_LatticeMakes;refine Wr ?_; simp [hx];refine Wr ?_; simp [hx];refine callK aw ?_; simp [hx];refine Ws ?_; simp [hx];refine callK s1 ?_; simp [hx];refine WS_cF (by simp [hx]) ?_;refine WS_skip ?_; simp [hx];refine Ws ?_; simp [hx];refine WS_cT (by simp [hx]) ?_;refine Wr ?_; simp [hx];refine callK li ?_; simp [hx];refine Wr ?_; simp [hx];refine WS_ret ?_; simp [hx]
 . rw [show smL 5 2 Ms=false by simpa using c1] at s1;obtain ⟨A,hA⟩:∃ A,A=mL Ms:=⟨_,rfl⟩;obtain ⟨C,hC⟩:∃ C,C=IL l:=⟨_,rfl⟩;rw [<- hA] at s1 ⊢;rw [<- hC];refine spec_at Try.func6 ok_law14_LatticeMakes [] rfl (by simp) ?_;unfold sc_law14_LatticeMakes;refine Wr ?_; simp;refine Wr ?_; simp;refine callK aw ?_; simp;refine Ws ?_; simp;refine callK s1 ?_; simp;refine WS_cT (by simp) ?_;refine Wr ?_; simp;refine WS_ret ?_; simp
end Go.Vw
