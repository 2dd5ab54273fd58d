/- The contracts of the laws of layer 11 and 12 and 14. -/
import Derived.Test.YtfdjbmamidmgfaaGreatMA
import Derived.Test.YtfdjbmamidmgfaaGreatMB
import Derived.Test.YtfdjbmamidmgfaaGreatMC
import Derived.Test.YtfdjbmamidmgfaaGreatMD
import Derived.Test.YtfdjbmamidmgfaaGreatME
import Derived.Test.YtfdjbmamidmgfaaGreatMF
import Derived.Test.YtfdjbmamidmgfaaGreatMG
import Derived.Test.YtfdjbmamidmgfaaGreatMP
import Derived.Test.YtfdjbmamidmgfaaGreatMR
import Derived.Test.YtfdjbmamidmgfaaGreatMS
set_option linter.unusedVariables false
set_option linter.unusedSimpArgs false
namespace Go.Vw
open Go.Proofs Go.Py
attribute [local simp] zv V.fits fillOk fillV Z_eq
open Go.Dt
theorem row14 (a b:Int) (ha:a.natAbs<10) (hb:b.natAbs<10):Spec Tryz.prog f_law14_row [.i .i64 a,.i .i64 b] (· =[.pure (.sl (some 2) (PZ [a,b]))]):=by
 have o1:=zof a (by omega) (by omega);have o2:=zof b (by omega) (by omega);have e:PZ [a,b]=[Z a,Z b]:=rfl;rw [e];refine spec_at Tryz.func95 ok_law14_row [] rfl (by simp) ?_;unfold sc_law14_row;refine Wr ?_; simp;refine Wr ?_; simp;refine callK o1 ?_; simp;refine callK o2 ?_; simp;refine WS_ret ?_; simp
theorem awake14:Spec Tryz.prog f_law14_awake [] (· =[.pure (.b true)]):=by
 have r1:=row14 1 0 (by decide) (by decide);have r2:=row14 4 1 (by decide) (by decide);have r3:=row14 3 (-2) (by decide) (by decide);have r4:=row14 1 2 (by decide) (by decide);have r5:=row14 3 4 (by decide) (by decide);have rd:=awake_red;have ri:=awake_in;have rg:=awake_gram;have t1:=ztext (k:=1) (isZ_Z (z:=11) (zlen_small (by decide))) (by omega);rw [show zT 11=[49,49] by rw [zT,if_neg (by omega)]; decide +kernel] at t1;have t2:=ztext (k:=1) (isZ_Z (z:= -2) (zlen_small (by decide))) (by omega);rw [show zT (-2)=[45,50] by rw [zT,if_pos (by omega)]; decide +kernel] at t2;have t3:=ztext (k:=1) (isZ_Z (z:=4) (zlen_small (by decide))) (by omega);rw [show zT 4=[52] by rw [zT,if_neg (by omega)]; decide +kernel] at t3;obtain ⟨A1,h1⟩:∃ A,A=PZ [1,0]:=⟨_,rfl⟩;obtain ⟨A2,h2⟩:∃ A,A=PZ [4,1]:=⟨_,rfl⟩;obtain ⟨A3,h3⟩:∃ A,A=PZ [3,-2]:=⟨_,rfl⟩;obtain ⟨A4,h4⟩:∃ A,A=PZ [1,2]:=⟨_,rfl⟩;obtain ⟨A5,h5⟩:∃ A,A=PZ [3,4]:=⟨_,rfl⟩;rw [<- h1] at r1 rd ri;rw [<- h2] at r2 rd ri;rw [<- h3] at r3 ri;rw [<- h4] at r4 rg;rw [<- h5] at r5 rg;rw [show PZ [11,-2]=[Z 11,Z (-2)] from rfl] at ri;refine spec_at Tryz.func42 ok_law14_awake [] rfl (by simp) ?_;unfold sc_law14_awake;refine Wr ?_; simp [tx,abin_seql];refine Wr ?_; simp [tx,abin_seql];refine callK r1 ?_; simp [tx,abin_seql];refine callK r2 ?_; simp [tx,abin_seql];refine callR rd ?_;rintro rvs ⟨us,hus,rfl⟩;simp [tx,abin_seql,hus];refine Wr ?_; simp [tx,abin_seql,hus];refine callK r1 ?_; simp [tx,abin_seql,hus];refine callK r2 ?_; simp [tx,abin_seql,hus];refine callK r3 ?_; simp [tx,abin_seql,hus];refine callK ri ?_; simp [tx,abin_seql,hus];refine Wr ?_; simp [tx,abin_seql,hus];refine callK r4 ?_; simp [tx,abin_seql,hus];refine callK r5 ?_; simp [tx,abin_seql,hus];refine callK rg ?_; simp [tx,abin_seql,hus];refine Wr ?_; simp [tx,abin_seql,hus];refine callK t1 ?_; simp [tx,abin_seql,hus];refine callK t2 ?_; simp [tx,abin_seql,hus];refine callK t3 ?_; simp [tx,abin_seql,hus];refine WS_ret ?_; simp [tx,abin_seql,hus]
set_option maxHeartbeats 1000000 in
theorem small14 (n w:Nat) (hn:n<=2^40) (hw:w<=2^40) (Ms:List (List (Bool × List Nat))) (hM:Ms.length<=2^40) (hMs:∀ M∈Ms,M.length<=2^40):Spec Tryz.prog f_law14_small [.i .i64 (n:Int),.i .i64 (w:Int),.sl none (mL Ms)] (· =[.pure (.b (smL n w Ms))]):=by
 have hml:(mL Ms).length=Ms.length:=by simp [mL]
 have wn:IntKind.i64.wrap ((n:Int)+2)=((n+2:Nat):Int):=i64_addn n 2 (by omega);refine spec_at Tryz.func43 ok_law14_small [] rfl (by simp) ?_;unfold sc_law14_small;by_cases h0:Ms.length<=n
 . have h0I:¬ (n:Int)<(Ms.length:Int):=by omega
   rw [show smL n w Ms=smB (n+2) w Ms by unfold smL; rw [decide_eq_true h0,Bool.true_and]];refine Wr ?_; simp [hml,h0I];refine Ws ?_; simp [hml,h0I];refine WS_cF (by simp [hml,h0I]) ?_;refine WS_skip ?_; simp [hml,h0I];refine Ws ?_; simp [hml,h0I];refine WS_block ?_;refine WS_loop (SlmS n w Ms) (λS=>Ms.length-nM 7 S) ⟨0,by omega,by simp,by simp,by simp,by simp,rfl⟩ ?_;rintro S ⟨i,hi,s0,s1,s2,s7,hall⟩;have d7:=nM_eq s7;by_cases hlt:i<Ms.length
   . have hltI:(i:Int)<(Ms.length:Int):=by omega
     have hml2:i<(mL Ms).length:=by omega
     have hget:(mL Ms)[i]= .sl (some 2) (zL Ms[i]):=by simp [mL]
     have hmem:=List.getElem_mem hlt;have htk:=List.take_succ_eq_append_getElem hlt;obtain ⟨M,hMe⟩:∃ M,M=Ms[i]:=⟨_,rfl⟩;rw [<- hMe] at hget hmem htk;have hMl:=hMs M hmem;have hzl:(zL M).length=M.length:=by simp [zL]
     have wi:=i64_succ i (by omega);obtain ⟨O,hO⟩:∃ O,O=mL Ms:=⟨_,rfl⟩;have hOl:i<O.length:=by rw [hO]; omega
     have hg2:O[i]= .sl (some 2) (zL M):=by simp only [hO]; exact hget
     rw [<- hO] at hml s2;by_cases hb:M.length<=n+2
     . have hbI:¬ ((n+2:Nat):Int)<(M.length:Int):=by omega
       have hbJ:¬ (n:Int)+2<(M.length:Int):=by omega
       refine Ws ?_; simp [s0,s1,s2,s7,hlt,hltI,hml,hg2,hzl,hbI,hbJ,wn];refine WS_cT (by simp [s0,s1,s2,s7,hlt,hltI,hml,hg2,hzl,hbI,hbJ,wn]) ?_;refine WS_skip ?_; simp [s0,s1,s2,s7,hlt,hltI,hml,hg2,hzl,hbI,hbJ,wn];refine WS_seq (WS_block (Ws ?_)); simp [s0,s1,s2,s7,hlt,hltI,hml,hg2,hzl,hbI,hbJ,wn];refine WS_cF (by simp [s0,s1,s2,s7,hlt,hltI,hml,hg2,hzl,hbI,hbJ,wn]) ?_;refine WS_skip ?_; simp [s0,s1,s2,s7,hlt,hltI,hml,hg2,hzl,hbI,hbJ,wn];refine Wr ?_; simp [s0,s1,s2,s7,hlt,hltI,hml,hg2,hzl,hbI,hbJ,wn];refine WS_block ?_;refine WS_loop (SlmJ n w Ms i M) (λS=>M.length-nM 8 S) ⟨0,by omega,by simp,rfl,by simp [s0],by simp [s1],by simp [s2,hO],by simp [s7],hall⟩ ?_;clear s0 s1 s2 s7;rintro S' ⟨k,hk,s8,hr,s0,s1,s2,s7,-⟩;have d8:=nM_eq s8;rw [<- hO] at s2;by_cases hlt2:k<M.length
       . have hltI2:(k:Int)<(M.length:Int):=by omega
         have hzk:k<(zL M).length:=by omega
         have hgk:(zL M)[k]= .agg [.b M[k].1,.sl none (uL M[k].2)]:=by simp [zL]
         have htk2:=List.take_succ_eq_append_getElem hlt2;have hmem2:=List.getElem_mem hlt2;obtain ⟨p,hp⟩:∃ p,p=M[k]:=⟨_,rfl⟩;rw [<- hp] at hgk htk2 hmem2;have wk:=i64_succ k (by omega);obtain ⟨Z1,hZ1⟩:∃ O,O=zL M:=⟨_,rfl⟩;have hZl:k<Z1.length:=by rw [hZ1]; omega
         have hg3:Z1[k]= .agg [.b p.1,.sl none (uL p.2)]:=by simp only [hZ1]; exact hgk
         rw [<- hZ1] at hzl hg2;by_cases hq:p.2.length<=w
         . have hqI:¬ (w:Int)<(p.2.length:Int):=by omega
           refine Ws ?_; simp [s0,s1,s2,s7,s8,hlt,hltI,hlt2,hltI2,hml,hg2,hzl,hg3,hqI,wk];refine WS_cT (by simp [s0,s1,s2,s7,s8,hlt,hltI,hlt2,hltI2,hml,hg2,hzl,hg3,hqI,wk]) ?_;refine WS_skip ?_; simp [s0,s1,s2,s7,s8,hlt,hltI,hlt2,hltI2,hml,hg2,hzl,hg3,hqI,wk];refine WS_seq (WS_block (Wr ?_)); simp [s0,s1,s2,s7,s8,hlt,hltI,hlt2,hltI2,hml,hg2,hzl,hg3,hqI,wk];refine WS_cF (by simp [s0,s1,s2,s7,s8,hlt,hltI,hlt2,hltI2,hml,hg2,hzl,hg3,hqI,wk]) ?_;refine WS_skip ?_; simp [s0,s1,s2,s7,s8,hlt,hltI,hlt2,hltI2,hml,hg2,hzl,hg3,hqI,wk];refine WS_reg [] ?_; simp [s0,s1,s2,s7,s8,hlt,hltI,hlt2,hltI2,hml,hg2,hzl,hg3,hqI,wk];refine ⟨⟨k+1,by omega,by simp,by rw [htk2]; exact smR_snoc hr hq,by simp [s0],by simp [s1],by simp [s2,hO],by simp [s7],hall⟩,?_⟩;show M.length-nM 8 _<M.length-nM 8 S';rw [d8,nM_eq (i:=8) (n:=k+1) (by simp)];omega
         . have hqI:(w:Int)<(p.2.length:Int):=by omega
           have hno:smR w M=false:=by
            rw [smR,List.all_eq_false];exact ⟨p,hmem2,by simp; omega⟩
           rw [smB_false hmem (by rw [hno,Bool.and_false])];refine Ws ?_; simp [s0,s1,s2,s7,s8,hlt,hltI,hlt2,hltI2,hml,hg2,hzl,hg3,hqI,wk];refine WS_cT (by simp [s0,s1,s2,s7,s8,hlt,hltI,hlt2,hltI2,hml,hg2,hzl,hg3,hqI,wk]) ?_;refine WS_skip ?_; simp [s0,s1,s2,s7,s8,hlt,hltI,hlt2,hltI2,hml,hg2,hzl,hg3,hqI,wk];refine WS_seq (WS_block (Wr ?_)); simp [s0,s1,s2,s7,s8,hlt,hltI,hlt2,hltI2,hml,hg2,hzl,hg3,hqI,wk];refine WS_cT (by simp [s0,s1,s2,s7,s8,hlt,hltI,hlt2,hltI2,hml,hg2,hzl,hg3,hqI,wk]) ?_;refine Wr ?_; simp [s0,s1,s2,s7,s8,hlt,hltI,hlt2,hltI2,hml,hg2,hzl,hg3,hqI,wk];refine WS_ret ?_; simp [s0,s1,s2,s7,s8,hlt,hltI,hlt2,hltI2,hml,hg2,hzl,hg3,hqI,wk]
       . obtain rfl:k=M.length:=by omega
         have hltI2:¬ (M.length:Int)<(M.length:Int):=by omega
         rw [List.take_length] at hr;refine Ws ?_; simp [s0,s1,s2,s7,s8,hlt,hltI,hltI2,hml,hg2,hzl,wi];refine WS_cF (by simp [s0,s1,s2,s7,s8,hlt,hltI,hltI2,hml,hg2,hzl,wi]) ?_;refine WS_exit ?_; simp [s0,s1,s2,s7,s8,hlt,hltI,hltI2,hml,hg2,hzl,wi];refine WS_reg [] ?_; simp [s0,s1,s2,s7,s8,hlt,hltI,hltI2,hml,hg2,hzl,wi];refine ⟨⟨i+1,by omega,by simp [s0],by simp [s1],by simp [s2,hO],by simp,by rw [htk]; exact smB_snoc hall hb hr⟩,?_⟩;show Ms.length-nM 7 _<Ms.length-nM 7 S;rw [d7,nM_eq (i:=7) (n:=i+1) (by simp)];omega
     . have hbI:((n+2:Nat):Int)<(M.length:Int):=by omega
       have hbJ:(n:Int)+2<(M.length:Int):=by omega
       rw [smB_false hmem (by simp; omega)];refine Ws ?_; simp [s0,s1,s2,s7,hlt,hltI,hml,hg2,hzl,hbI,hbJ,wn];refine WS_cT (by simp [s0,s1,s2,s7,hlt,hltI,hml,hg2,hzl,hbI,hbJ,wn]) ?_;refine WS_skip ?_; simp [s0,s1,s2,s7,hlt,hltI,hml,hg2,hzl,hbI,hbJ,wn];refine WS_seq (WS_block (Ws ?_)); simp [s0,s1,s2,s7,hlt,hltI,hml,hg2,hzl,hbI,hbJ,wn];refine WS_cT (by simp [s0,s1,s2,s7,hlt,hltI,hml,hg2,hzl,hbI,hbJ,wn]) ?_;refine Wr ?_; simp [s0,s1,s2,s7,hlt,hltI,hml,hg2,hzl,hbI,hbJ,wn];refine WS_ret ?_; simp [s0,s1,s2,s7,hlt,hltI,hml,hg2,hzl,hbI,hbJ,wn]
   . obtain rfl:i=Ms.length:=by omega
     have hltI:¬ (Ms.length:Int)<(Ms.length:Int):=by omega
     rw [List.take_length] at hall;rw [hall];refine Ws ?_; simp [s0,s1,s2,s7,hltI,hml];refine WS_cF (by simp [s0,s1,s2,s7,hltI,hml]) ?_;refine WS_exit ?_; simp [s0,s1,s2,s7,hltI,hml];refine Wr ?_; simp [s0,s1,s2,s7,hltI,hml];refine WS_ret ?_; simp [s0,s1,s2,s7,hltI,hml]
 . have h0I:(n:Int)<(Ms.length:Int):=by omega
   rw [show smL n w Ms=false by unfold smL; rw [decide_eq_false h0,Bool.false_and]];refine Wr ?_; simp [hml,h0I];refine Ws ?_; simp [hml,h0I];refine WS_cT (by simp [hml,h0I]) ?_;refine Wr ?_; simp [hml,h0I];refine WS_ret ?_; simp [hml,h0I]
attribute [local simp] acK_stuck XCore aopX acD_stuck XD HOp svCells SV.cell cloC svref svFits svPart partOkS okSV okSV1 S0H maskH_add maskH_lt maskH_ge retQM retPM retAllH retOneH rowZ_length rowZ_at St.elemsS packSV rowsT_length rowsT_at SV.solid svPack fillS fillOkS nilZ St.evN
set_option maxHeartbeats 4000000 in
theorem law_LatticeShort (Ms:List (List (Bool × List Nat))) (hm:MW Ms):
 Spec Tryz.prog f_law14_LatticeShort [.sl none (mL Ms)] (· =[.pure (.b true)]):=by
 have aw:=awake14;have s1:=small14 5 2 (by omega) (by omega) Ms (by have:=hm.len; omega) hm.wid;by_cases c1:smL 5 2 Ms=true
 . rw [c1] at s1;obtain ⟨m1,m2,m3⟩:=smL_of hm c1;obtain ⟨v,e,r1,r2⟩:=reds_same m2 (by rw [mL_len]; exact m1) m3;obtain ⟨C,hC⟩:∃ A,A=mL Ms:=⟨_,rfl⟩;rw [<- hC] at s1 r1 r2 ⊢;refine spec_at Tryz.func12 ok_law14_LatticeShort [] rfl (by simp) ?_;unfold sc_law14_LatticeShort;refine Wr ?_; simp;refine Wr ?_; simp;refine callP aw rfl ?_;simp;refine Ws ?_; simp;refine callP s1 rfl ?_;simp;refine WS_cF (by simp) ?_;refine WS_skip ?_; simp;refine Wr ?_; simp;refine callP r1 rfl ?_;simp;refine Wr ?_; simp;refine callP r2 rfl ?_;simp;refine Wr ?_; simp;refine WS_ret ?_; simp
 . rw [show smL 5 2 Ms=false by simpa using c1] at s1;obtain ⟨C,hC⟩:∃ A,A=mL Ms:=⟨_,rfl⟩;rw [<- hC] at s1 ⊢;refine spec_at Tryz.func12 ok_law14_LatticeShort [] rfl (by simp) ?_;unfold sc_law14_LatticeShort;refine Wr ?_; simp;refine Wr ?_; simp;refine callP aw rfl ?_;simp;refine Ws ?_; simp;refine callP s1 rfl ?_;simp;refine WS_cT (by simp) ?_;refine Wr ?_; simp;refine WS_ret ?_; simp
set_option maxHeartbeats 4000000 in
theorem law_LatticeIn (Ms:List (List (Bool × List Nat))) (hm:MW Ms) (M:List (Bool × List Nat)) (h1:PW (2^24) M):
 Spec Tryz.prog f_law14_LatticeIn [.sl none (mL Ms),.sl (some 2) (zL M)] (· =[.pure (.b true)]):=by
 have aw:=awake14;have s1:=small14 5 2 (by omega) (by omega) Ms (by have:=hm.len; omega) hm.wid;have la:(zL M).length=M.length:=by simp [zL]
 by_cases c1:smL 5 2 Ms=true
 . rw [c1] at s1;obtain ⟨m1,m2,m3⟩:=smL_of hm c1;by_cases ha:M.length<=7
   . have haI:¬ (7:Int)<(M.length:Int):=by omega
     obtain ⟨C,hC⟩:∃ A,A=mL Ms:=⟨_,rfl⟩;rw [<- hC] at s1 m2 ⊢;have hCl:C.length<=5:=by rw [hC,mL_len]; exact m1
     refine spec_at Tryz.func11 ok_law14_LatticeIn [] rfl (by simp) ?_;unfold sc_law14_LatticeIn;refine Wr ?_; simp [la,haI];refine Wr ?_; simp [la,haI];refine callK aw ?_; simp [la,haI];refine Ws ?_; simp [la,haI];refine callK s1 ?_; simp [la,haI];refine WS_cF (by simp [la,haI]) ?_;refine WS_skip ?_; simp [la,haI];refine Ws ?_; simp [la,haI];refine WS_block ?_;refine WS_loop (LiI (.sl none C) M) (λS=>M.length-nM 6 S) ⟨0,by omega,by simp,by simp,by simp,by simp,by simp⟩ ?_;rintro S ⟨i,hi,t0,t1,t5,t6,hsm⟩;have d6:=nM_eq t6;by_cases hlt:i<M.length
     . have hltI:(i:Int)<(M.length:Int):=by omega
       have hiz:i<(zL M).length:=by omega
       have hget:(zL M)[i]= .agg [.b M[i].1,.sl none (uL M[i].2)]:=by simp [zL]
       have htk:=List.take_succ_eq_append_getElem hlt;have wi:=i64_succ i (by omega);obtain ⟨p,hp⟩:∃ p,p=M[i]:=⟨_,rfl⟩;rw [<- hp] at hget htk;obtain ⟨O,hO⟩:∃ O,O=zL M:=⟨_,rfl⟩;have hOi:i<O.length:=by rw [hO]; exact hiz
       have hg2:O[i]= .agg [.b p.1,.sl none (uL p.2)]:=by simp only [hO]; exact hget
       rw [<- hO] at t1 la;by_cases hb:p.2.length<=2
       . have hbI:¬ (2:Int)<(p.2.length:Int):=by omega
         refine Ws ?_; simp [t0,t1,t5,t6,la,hlt,hltI,hOi,hg2,hbI,wi];refine WS_cT (by simp [t0,t1,t5,t6,la,hlt,hltI,hOi,hg2,hbI,wi]) ?_;refine WS_skip ?_; simp [t0,t1,t5,t6,la,hlt,hltI,hOi,hg2,hbI,wi];refine WS_seq (WS_block (Wr ?_)); simp [t0,t1,t5,t6,la,hlt,hltI,hOi,hg2,hbI,wi];refine WS_cF (by simp [t0,t1,t5,t6,la,hlt,hltI,hOi,hg2,hbI,wi]) ?_;refine WS_skip ?_; simp [t0,t1,t5,t6,la,hlt,hltI,hOi,hg2,hbI,wi];refine WS_reg [] ?_; simp [t0,t1,t5,t6,la,hlt,hltI,hOi,hg2,hbI,wi];refine ⟨⟨i+1,by omega,by simp [t0],by simp [t1,hO],by simp [t5],by simp,λq hq=>?_⟩,?_⟩
         . rw [htk] at hq;rcases List.mem_append.1 hq with h | h
           . exact hsm q h
           . simp only [List.mem_singleton] at h; rw [h]; exact hb
         . rw [d6,nM_eq (i:=6) (n:=i+1) (by simp)]; omega
       . have hbI:(2:Int)<(p.2.length:Int):=by omega
         refine Ws ?_; simp [t0,t1,t5,t6,la,hlt,hltI,hOi,hg2,hbI,wi];refine WS_cT (by simp [t0,t1,t5,t6,la,hlt,hltI,hOi,hg2,hbI,wi]) ?_;refine WS_skip ?_; simp [t0,t1,t5,t6,la,hlt,hltI,hOi,hg2,hbI,wi];refine WS_seq (WS_block (Wr ?_)); simp [t0,t1,t5,t6,la,hlt,hltI,hOi,hg2,hbI,wi];refine WS_cT (by simp [t0,t1,t5,t6,la,hlt,hltI,hOi,hg2,hbI,wi]) ?_;refine Wr ?_; simp [t0,t1,t5,t6,la,hlt,hltI,hOi,hg2,hbI,wi];refine WS_ret ?_; simp [t0,t1,t5,t6,la,hlt,hltI,hOi,hg2,hbI,wi]
     . obtain rfl:i=M.length:=by omega
       have hltI:¬ ((M.length:Nat):Int)<(M.length:Int):=by omega
       rw [List.take_length] at hsm;have hv:IsP 2 (zL M) (piL M):=isP_zL λp hp=>⟨(h1.each p hp).dl,hsm p hp⟩;obtain ⟨l,e,pl,ll,i1,i2⟩:=ins_same m2 hv hCl m3 (by omega);have nm:=own_plain (pnorm (isP_PZ pl) (by omega) (by rw [PZ_length]; omega));have htr:=tr_len l;have sm:=psame (tr l) (λi=>Nat.le_trans (pl_tr pl i) (by omega)) (by omega);obtain ⟨O,hO⟩:∃ O,O=zL M:=⟨_,rfl⟩;rw [<- hO] at t1 la i1 i2;obtain ⟨P,hP⟩:∃ P,P=PZ l:=⟨_,rfl⟩;rw [<- hP] at i1 i2 nm;obtain ⟨R,hR⟩:∃ R,R=PZ (tr l):=⟨_,rfl⟩;rw [<- hR] at nm sm;refine Ws ?_; simp [t0,t1,t5,t6,la,hltI];refine WS_cF (by simp [t0,t1,t5,t6,la,hltI]) ?_;refine WS_exit ?_; simp [t0,t1,t5,t6,la,hltI];refine Wr ?_; simp [t0,t1,t5,t6,la,hltI];refine callK i1 ?_; simp [t0,t1,t5,t6,la,hltI];refine Wr ?_; simp [t0,t1,t5,t6,la,hltI];refine callK i2 ?_; simp [t0,t1,t5,t6,la,hltI];refine Wr ?_; simp [t0,t1,t5,t6,la,hltI];refine callK nm ?_; simp [t0,t1,t5,t6,la,hltI];refine callK nm ?_; simp [t0,t1,t5,t6,la,hltI];refine callK sm ?_; simp [t0,t1,t5,t6,la,hltI];refine WS_ret ?_; simp [t0,t1,t5,t6,la,hltI]
   . have haI:(7:Int)<(M.length:Int):=by omega
     obtain ⟨C,hC⟩:∃ A,A=mL Ms:=⟨_,rfl⟩;obtain ⟨O,hO⟩:∃ O,O=zL M:=⟨_,rfl⟩;rw [<- hC] at s1 ⊢;rw [<- hO] at la ⊢;refine spec_at Tryz.func11 ok_law14_LatticeIn [] rfl (by simp) ?_;unfold sc_law14_LatticeIn;refine Wr ?_; simp [la,haI];refine Wr ?_; simp [la,haI];refine callK aw ?_; simp [la,haI];refine Ws ?_; simp [la,haI];refine callK s1 ?_; simp [la,haI];refine WS_cT (by simp [la,haI]) ?_;refine Wr ?_; simp [la,haI];refine WS_ret ?_; simp [la,haI]
 . rw [show smL 5 2 Ms=false by simpa using c1] at s1;obtain ⟨C,hC⟩:∃ A,A=mL Ms:=⟨_,rfl⟩;obtain ⟨O,hO⟩:∃ O,O=zL M:=⟨_,rfl⟩;rw [<- hC] at s1 ⊢;rw [<- hO] at la ⊢;refine spec_at Tryz.func11 ok_law14_LatticeIn [] rfl (by simp) ?_;unfold sc_law14_LatticeIn;refine Wr ?_; simp [la];refine Wr ?_; simp [la];refine callK aw ?_; simp [la];refine Ws ?_; simp [la];refine callK s1 ?_; simp [la];refine WS_cT (by simp [la]) ?_;refine Wr ?_; simp [la];refine WS_ret ?_; simp [la]
end Go.Vw
