/- The contracts of the laws of layer 11 and 12 and 14. -/
import Derived.Test.YtfdjbmamidmgfaaGreatMA
import Derived.Test.YtfdjbmamidmgfaaGreatMB
import Derived.Test.YtfdjbmamidmgfaaGreatMC
import Derived.Test.YtfdjbmamidmgfaaGreatMD
import Derived.Test.YtfdjbmamidmgfaaGreatME
import Derived.Test.YtfdjbmamidmgfaaGreatMF
import Derived.Test.YtfdjbmamidmgfaaGreatMG
import Derived.Test.YtfdjbmamidmgfaaGreatMP
import Derived.Test.YtfdjbmamidmgfaaGreatMR
import Derived.Test.YtfdjbmamidmgfaaGreatMS
set_option linter.unusedVariables false
set_option linter.unusedSimpArgs false
namespace Go.Vw
open Go.Proofs Go.Py
attribute [local simp] zv V.fits fillOk fillV Z_eq
open Go.Dt
theorem row14 (a b:Int) (ha:a.natAbs<10) (hb:b.natAbs<10):Spec Tryz.prog f_law14_row [.i .i64 a,.i .i64 b] (· =[.pure (.sl (some 2) (PZ [a,b]))]):=by
 have o1:=zof a (by omega) (by omega);have o2:=zof b (by omega) (by omega);have e:PZ [a,b]=[Z a,Z b]:=rfl;rw [e];refine spec_at Tryz.func95 ok_law14_row [] rfl (by simp) ?_;unfold sc_law14_row;refine Wr ?_; simp;refine Wr ?_; simp;refine callK o1 ?_; simp;refine callK o2 ?_; simp;refine WS_ret ?_; simp
theorem awake14:Spec Tryz.prog f_law14_awake [] (· =[.pure (.b true)]):=by
 have r1:=row14 1 0 (by decide) (by decide);have r2:=row14 4 1 (by decide) (by decide);have r3:=row14 3 (-2) (by decide) (by decide);have r4:=row14 1 2 (by decide) (by decide);have r5:=row14 3 4 (by decide) (by decide);have rd:=awake_red;have ri:=awake_in;have rg:=awake_gram;have t1:=ztext (k:=1) (isZ_Z (z:=11) (zlen_small (by decide))) (by omega);rw [show zT 11=[49,49] by rw [zT,if_neg (by omega)]; decide +kernel] at t1;have t2:=ztext (k:=1) (isZ_Z (z:= -2) (zlen_small (by decide))) (by omega);rw [show zT (-2)=[45,50] by rw [zT,if_pos (by omega)]; decide +kernel] at t2;have t3:=ztext (k:=1) (isZ_Z (z:=4) (zlen_small (by decide))) (by omega);rw [show zT 4=[52] by rw [zT,if_neg (by omega)]; decide +kernel] at t3;obtain ⟨A1,h1⟩:∃ A,A=PZ [1,0]:=⟨_,rfl⟩;obtain ⟨A2,h2⟩:∃ A,A=PZ [4,1]:=⟨_,rfl⟩;obtain ⟨A3,h3⟩:∃ A,A=PZ [3,-2]:=⟨_,rfl⟩;obtain ⟨A4,h4⟩:∃ A,A=PZ [1,2]:=⟨_,rfl⟩;obtain ⟨A5,h5⟩:∃ A,A=PZ [3,4]:=⟨_,rfl⟩;rw [<- h1] at r1 rd ri;rw [<- h2] at r2 rd ri;rw [<- h3] at r3 ri;rw [<- h4] at r4 rg;rw [<- h5] at r5 rg;rw [show PZ [11,-2]=[Z 11,Z (-2)] from rfl] at ri;refine spec_at Tryz.func42 ok_law14_awake [] rfl (by simp) ?_;unfold sc_law14_awake;refine Wr ?_; simp [tx,abin_seql];refine Wr ?_; simp [tx,abin_seql];refine callK r1 ?_; simp [tx,abin_seql];refine callK r2 ?_; simp [tx,abin_seql];refine callR rd ?_;rintro rvs ⟨us,hus,rfl⟩;simp [tx,abin_seql,hus];refine Wr ?_; simp [tx,abin_seql,hus];refine callK r1 ?_; simp [tx,abin_seql,hus];refine callK r2 ?_; simp [tx,abin_seql,hus];refine callK r3 ?_; simp [tx,abin_seql,hus];refine callK ri ?_; simp [tx,abin_seql,hus];refine Wr ?_; simp [tx,abin_seql,hus];refine callK r4 ?_; simp [tx,abin_seql,hus];refine callK r5 ?_; simp [tx,abin_seql,hus];refine callK rg ?_; simp [tx,abin_seql,hus];refine Wr ?_; simp [tx,abin_seql,hus];refine callK t1 ?_; simp [tx,abin_seql,hus];refine callK t2 ?_; simp [tx,abin_seql,hus];refine callK t3 ?_; simp [tx,abin_seql,hus];refine WS_ret ?_; simp [tx,abin_seql,hus]
set_option maxHeartbeats 1000000 in
theorem small14 (n w:Nat) (hn:n<=2^40) (hw:w<=2^40) (Ms:List (List (Bool × List Nat))) (hM:Ms.length<=2^40) (hMs:∀ M∈Ms,M.length<=2^40):Spec Tryz.prog f_law14_small [.i .i64 (n:Int),.i .i64 (w:Int),.sl none (mL Ms)] (· =[.pure (.b (smL n w Ms))]):=by
 have hml:(mL Ms).length=Ms.length:=by simp [mL]
 have wn:IntKind.i64.wrap ((n:Int)+2)=((n+2:Nat):Int):=i64_addn n 2 (by omega);refine spec_at Tryz.func43 ok_law14_small [] rfl (by simp) ?_;unfold sc_law14_small;by_cases h0:Ms.length<=n
 . have h0I:¬ (n:Int)<(Ms.length:Int):=by omega
   rw [show smL n w Ms=smB (n+2) w Ms by unfold smL; rw [decide_eq_true h0,Bool.true_and]];refine Wr ?_; simp [hml,h0I];refine Ws ?_; simp [hml,h0I];refine WS_cF (by simp [hml,h0I]) ?_;refine WS_skip ?_; simp [hml,h0I];refine Ws ?_; simp [hml,h0I];refine WS_block ?_;refine WS_loop (SlmS n w Ms) (fun S=>Ms.length-nM 7 S) ⟨0,by omega,by simp,by simp,by simp,by simp,rfl⟩ ?_;rintro S ⟨i,hi,s0,s1,s2,s7,hall⟩;have d7:=nM_eq s7;by_cases hlt:i<Ms.length
   . have hltI:(i:Int)<(Ms.length:Int):=by omega
     have hml2:i<(mL Ms).length:=by omega
     have hget:(mL Ms)[i]= .sl (some 2) (zL Ms[i]):=by simp [mL]
     have hmem:=List.getElem_mem hlt;have htk:=List.take_succ_eq_append_getElem hlt;obtain ⟨M,hMe⟩:∃ M,M=Ms[i]:=⟨_,rfl⟩;rw [<- hMe] at hget hmem htk;have hMl:=hMs M hmem;have hzl:(zL M).length=M.length:=by simp [zL]
     have wi:=i64_succ i (by omega);obtain ⟨O,hO⟩:∃ O,O=mL Ms:=⟨_,rfl⟩;have hOl:i<O.length:=by rw [hO]; omega
     have hg2:O[i]= .sl (some 2) (zL M):=by simp only [hO]; exact hget
     rw [<- hO] at hml s2;by_cases hb:M.length<=n+2
     . have hbI:¬ ((n+2:Nat):Int)<(M.length:Int):=by omega
       have hbJ:¬ (n:Int)+2<(M.length:Int):=by omega
       refine Ws ?_; simp [s0,s1,s2,s7,hlt,hltI,hml,hg2,hzl,hbI,hbJ,wn];refine WS_cT (by simp [s0,s1,s2,s7,hlt,hltI,hml,hg2,hzl,hbI,hbJ,wn]) ?_;refine WS_skip ?_; simp [s0,s1,s2,s7,hlt,hltI,hml,hg2,hzl,hbI,hbJ,wn];refine WS_seq (WS_block (Ws ?_)); simp [s0,s1,s2,s7,hlt,hltI,hml,hg2,hzl,hbI,hbJ,wn];refine WS_cF (by simp [s0,s1,s2,s7,hlt,hltI,hml,hg2,hzl,hbI,hbJ,wn]) ?_;refine WS_skip ?_; simp [s0,s1,s2,s7,hlt,hltI,hml,hg2,hzl,hbI,hbJ,wn];refine Wr ?_; simp [s0,s1,s2,s7,hlt,hltI,hml,hg2,hzl,hbI,hbJ,wn];refine WS_block ?_;refine WS_loop (SlmJ n w Ms i M) (fun S=>M.length-nM 8 S) ⟨0,by omega,by simp,rfl,by simp [s0],by simp [s1],by simp [s2,hO],by simp [s7],hall⟩ ?_;clear s0 s1 s2 s7;rintro S' ⟨k,hk,s8,hr,s0,s1,s2,s7,-⟩;have d8:=nM_eq s8;rw [<- hO] at s2;by_cases hlt2:k<M.length
       . have hltI2:(k:Int)<(M.length:Int):=by omega
         have hzk:k<(zL M).length:=by omega
         have hgk:(zL M)[k]= .agg [.b M[k].1,.sl none (uL M[k].2)]:=by simp [zL]
         have htk2:=List.take_succ_eq_append_getElem hlt2;have hmem2:=List.getElem_mem hlt2;obtain ⟨p,hp⟩:∃ p,p=M[k]:=⟨_,rfl⟩;rw [<- hp] at hgk htk2 hmem2;have wk:=i64_succ k (by omega);obtain ⟨Z1,hZ1⟩:∃ O,O=zL M:=⟨_,rfl⟩;have hZl:k<Z1.length:=by rw [hZ1]; omega
         have hg3:Z1[k]= .agg [.b p.1,.sl none (uL p.2)]:=by simp only [hZ1]; exact hgk
         rw [<- hZ1] at hzl hg2;by_cases hq:p.2.length<=w
         . have hqI:¬ (w:Int)<(p.2.length:Int):=by omega
           refine Ws ?_; simp [s0,s1,s2,s7,s8,hlt,hltI,hlt2,hltI2,hml,hg2,hzl,hg3,hqI,wk];refine WS_cT (by simp [s0,s1,s2,s7,s8,hlt,hltI,hlt2,hltI2,hml,hg2,hzl,hg3,hqI,wk]) ?_;refine WS_skip ?_; simp [s0,s1,s2,s7,s8,hlt,hltI,hlt2,hltI2,hml,hg2,hzl,hg3,hqI,wk];refine WS_seq (WS_block (Wr ?_)); simp [s0,s1,s2,s7,s8,hlt,hltI,hlt2,hltI2,hml,hg2,hzl,hg3,hqI,wk];refine WS_cF (by simp [s0,s1,s2,s7,s8,hlt,hltI,hlt2,hltI2,hml,hg2,hzl,hg3,hqI,wk]) ?_;refine WS_skip ?_; simp [s0,s1,s2,s7,s8,hlt,hltI,hlt2,hltI2,hml,hg2,hzl,hg3,hqI,wk];refine WS_reg [] ?_; simp [s0,s1,s2,s7,s8,hlt,hltI,hlt2,hltI2,hml,hg2,hzl,hg3,hqI,wk];refine ⟨⟨k+1,by omega,by simp,by rw [htk2]; exact smR_snoc hr hq,by simp [s0],by simp [s1],by simp [s2,hO],by simp [s7],hall⟩,?_⟩;show M.length-nM 8 _<M.length-nM 8 S';rw [d8,nM_eq (i:=8) (n:=k+1) (by simp)];omega
         . have hqI:(w:Int)<(p.2.length:Int):=by omega
           have hno:smR w M=false:=by
            rw [smR,List.all_eq_false];exact ⟨p,hmem2,by simp; omega⟩
           rw [smB_false hmem (by rw [hno,Bool.and_false])];refine Ws ?_; simp [s0,s1,s2,s7,s8,hlt,hltI,hlt2,hltI2,hml,hg2,hzl,hg3,hqI,wk];refine WS_cT (by simp [s0,s1,s2,s7,s8,hlt,hltI,hlt2,hltI2,hml,hg2,hzl,hg3,hqI,wk]) ?_;refine WS_skip ?_; simp [s0,s1,s2,s7,s8,hlt,hltI,hlt2,hltI2,hml,hg2,hzl,hg3,hqI,wk];refine WS_seq (WS_block (Wr ?_)); simp [s0,s1,s2,s7,s8,hlt,hltI,hlt2,hltI2,hml,hg2,hzl,hg3,hqI,wk];refine WS_cT (by simp [s0,s1,s2,s7,s8,hlt,hltI,hlt2,hltI2,hml,hg2,hzl,hg3,hqI,wk]) ?_;refine Wr ?_; simp [s0,s1,s2,s7,s8,hlt,hltI,hlt2,hltI2,hml,hg2,hzl,hg3,hqI,wk];refine WS_ret ?_; simp [s0,s1,s2,s7,s8,hlt,hltI,hlt2,hltI2,hml,hg2,hzl,hg3,hqI,wk]
       . obtain rfl:k=M.length:=by omega
         have hltI2:¬ (M.length:Int)<(M.length:Int):=by omega
         rw [List.take_length] at hr;refine Ws ?_; simp [s0,s1,s2,s7,s8,hlt,hltI,hltI2,hml,hg2,hzl,wi];refine WS_cF (by simp [s0,s1,s2,s7,s8,hlt,hltI,hltI2,hml,hg2,hzl,wi]) ?_;refine WS_exit ?_; simp [s0,s1,s2,s7,s8,hlt,hltI,hltI2,hml,hg2,hzl,wi];refine WS_reg [] ?_; simp [s0,s1,s2,s7,s8,hlt,hltI,hltI2,hml,hg2,hzl,wi];refine ⟨⟨i+1,by omega,by simp [s0],by simp [s1],by simp [s2,hO],by simp,by rw [htk]; exact smB_snoc hall hb hr⟩,?_⟩;show Ms.length-nM 7 _<Ms.length-nM 7 S;rw [d7,nM_eq (i:=7) (n:=i+1) (by simp)];omega
     . have hbI:((n+2:Nat):Int)<(M.length:Int):=by omega
       have hbJ:(n:Int)+2<(M.length:Int):=by omega
       rw [smB_false hmem (by simp; omega)];refine Ws ?_; simp [s0,s1,s2,s7,hlt,hltI,hml,hg2,hzl,hbI,hbJ,wn];refine WS_cT (by simp [s0,s1,s2,s7,hlt,hltI,hml,hg2,hzl,hbI,hbJ,wn]) ?_;refine WS_skip ?_; simp [s0,s1,s2,s7,hlt,hltI,hml,hg2,hzl,hbI,hbJ,wn];refine WS_seq (WS_block (Ws ?_)); simp [s0,s1,s2,s7,hlt,hltI,hml,hg2,hzl,hbI,hbJ,wn];refine WS_cT (by simp [s0,s1,s2,s7,hlt,hltI,hml,hg2,hzl,hbI,hbJ,wn]) ?_;refine Wr ?_; simp [s0,s1,s2,s7,hlt,hltI,hml,hg2,hzl,hbI,hbJ,wn];refine WS_ret ?_; simp [s0,s1,s2,s7,hlt,hltI,hml,hg2,hzl,hbI,hbJ,wn]
   . obtain rfl:i=Ms.length:=by omega
     have hltI:¬ (Ms.length:Int)<(Ms.length:Int):=by omega
     rw [List.take_length] at hall;rw [hall];refine Ws ?_; simp [s0,s1,s2,s7,hltI,hml];refine WS_cF (by simp [s0,s1,s2,s7,hltI,hml]) ?_;refine WS_exit ?_; simp [s0,s1,s2,s7,hltI,hml];refine Wr ?_; simp [s0,s1,s2,s7,hltI,hml];refine WS_ret ?_; simp [s0,s1,s2,s7,hltI,hml]
 . have h0I:(n:Int)<(Ms.length:Int):=by omega
   rw [show smL n w Ms=false by unfold smL; rw [decide_eq_false h0,Bool.false_and]];refine Wr ?_; simp [hml,h0I];refine Ws ?_; simp [hml,h0I];refine WS_cT (by simp [hml,h0I]) ?_;refine Wr ?_; simp [hml,h0I];refine WS_ret ?_; simp [hml,h0I]
attribute [local simp] acK_stuck XCore aopX acD_stuck XD HOp svCells SV.cell cloC svref svFits svPart partOkS okSV okSV1 S0H maskH_add maskH_lt maskH_ge retQM retPM retAllH retOneH rowZ_length rowZ_at St.elemsS packSV rowsT_length rowsT_at SV.solid svPack fillS fillOkS nilZ St.evN
set_option maxHeartbeats 4000000 in
theorem law_LatticeShort (Ms:List (List (Bool × List Nat))) (hm:MW Ms):
 Spec Tryz.prog f_law14_LatticeShort [.sl none (mL Ms)] (· =[.pure (.b true)]):=by
 have aw:=awake14;have s1:=small14 5 2 (by omega) (by omega) Ms (by have:=hm.len; omega) hm.wid;by_cases c1:smL 5 2 Ms=true
 . rw [c1] at s1;obtain ⟨m1,m2,m3⟩:=smL_of hm c1;obtain ⟨v,e,r1,r2⟩:=reds_same m2 (by rw [mL_len]; exact m1) m3;obtain ⟨C,hC⟩:∃ A,A=mL Ms:=⟨_,rfl⟩;rw [<- hC] at s1 r1 r2 ⊢;refine spec_at Tryz.func12 ok_law14_LatticeShort [] rfl (by simp) ?_;unfold sc_law14_LatticeShort;refine Wr ?_; simp;refine Wr ?_; simp;refine callP aw rfl ?_;simp;refine Ws ?_; simp;refine callP s1 rfl ?_;simp;refine WS_cF (by simp) ?_;refine WS_skip ?_; simp;refine Wr ?_; simp;refine callP r1 rfl ?_;simp;refine Wr ?_; simp;refine callP r2 rfl ?_;simp;refine Wr ?_; simp;refine WS_ret ?_; simp
 . rw [show smL 5 2 Ms=false by simpa using c1] at s1;obtain ⟨C,hC⟩:∃ A,A=mL Ms:=⟨_,rfl⟩;rw [<- hC] at s1 ⊢;refine spec_at Tryz.func12 ok_law14_LatticeShort [] rfl (by simp) ?_;unfold sc_law14_LatticeShort;refine Wr ?_; simp;refine Wr ?_; simp;refine callP aw rfl ?_;simp;refine Ws ?_; simp;refine callP s1 rfl ?_;simp;refine WS_cT (by simp) ?_;refine Wr ?_; simp;refine WS_ret ?_; simp
set_option maxHeartbeats 4000000 in
theorem law_LatticeReduces (Ms:List (List (Bool × List Nat))) (hm:MW Ms):
 Spec Tryz.prog f_law14_LatticeReduces [.sl none (mL Ms)] (· =[.pure (.b true)]):=by
 have aw:=awake14;have s1:=small14 5 2 (by omega) (by omega) Ms (by have:=hm.len; omega) hm.wid;by_cases c1:smL 5 2 Ms=true
 . rw [c1] at s1;obtain ⟨m1,hL,m3⟩:=smL_of hm c1;have hxl:(mL Ms).length<=5:=by rw [mL_len]; exact m1
   obtain ⟨xs,hC⟩:∃ A,A=mL Ms:=⟨_,rfl⟩;obtain ⟨L,hLe⟩:∃ A,A=mpL Ms:=⟨_,rfl⟩;rw [<- hC] at s1 hL hxl ⊢;rw [<- hLe] at hL m3;clear hC hLe c1 m1 hm;have hlen:=hL.len;have hw40:∀ i,i<xs.length->(L.getD i []).length<=2^40:=fun i _=>by have:=m3 i; omega
   obtain ⟨r,hr⟩:=boolP (okL L/\detZ L.length (gm L)≠0);have bs:=rbasis_at hL (by omega) (by omega) hw40 r hr;cases r with
   | false=>
    have rd:=lreduce_no hL (by omega) (by omega) hw40 (fun h=>by have:=hr.2 ⟨h.1,(basis_iff h.1).1.1 h.2⟩; cases this);refine spec_at Tryz.func9 ok_law14_LatticeReduces [] rfl (by simp) ?_;unfold sc_law14_LatticeReduces;refine Wr ?_; simp;refine Wr ?_; simp;refine callK aw ?_; simp;refine Ws ?_; simp;refine callK s1 ?_; simp;refine WS_cF (by simp) ?_;refine WS_skip ?_; simp;refine Wr ?_; simp;refine callK rd ?_; simp;refine Ws ?_; simp;refine callK bs ?_; simp;refine WS_cT (by simp) ?_;refine Wr ?_; simp;refine WS_ret ?_; simp
   | true=>
    obtain ⟨ho,hd⟩:=hr.1 rfl;obtain ⟨n,hx⟩:∃ n,xs.length=n:=⟨_,rfl⟩;obtain ⟨w,hw0⟩:∃ w,(L.getD 0 []).length=w:=⟨_,rfl⟩;have hw7:w<=7:=by have:=m3 0; omega
    have hLn:L.length=n:=by omega
    have hnz:=(ind_of ho hLn hw0 hd).1;rw [hLn] at hd;have rd:=lreduce_few hL (by omega) hx (by omega) hw0 hw7 ho hnz;refine spec_at Tryz.func9 ok_law14_LatticeReduces [] rfl (by simp) ?_;unfold sc_law14_LatticeReduces;refine Wr ?_; simp;refine Wr ?_; simp;refine callK aw ?_; simp;refine Ws ?_; simp;refine callK s1 ?_; simp;refine WS_cF (by simp) ?_;refine WS_skip ?_; simp;refine Wr ?_; simp;refine callR rd ?_;rintro rvs ⟨b,R,rfl⟩;simp;obtain ⟨rr,g1,g2,zl1,hin⟩:=red_all hL hx (by omega) hw0 hw7 ho hd hnz R bs;have s2:=small14 5 40 (by omega) (by omega) (redM n w b) (by simp [redM]; omega) (fun M hM=>by rw [redM_wid M hM]; omega);rw [redM_mL,redM_small R.lim (by omega) hw7 (by omega)] at s2;have zs:=zsame (detZ n (gm L)) zl1;have hV:=redV_len n w b;have hvat:∀ i (h:i<n),(redV n w b)[i]'(by rw [hV]; exact h)= .sl (some 2) (rowZ w (b i)):=fun i h=>by simp [redV]
    show WS Tryz.prog 111 _ _ _;rw [show ((List.range n).map fun a=>V.sl (some 2) (rowZ w (b a)))=redV n w b from rfl];obtain ⟨xs',hxs'⟩:∃ xs',xs'=redV n w b:=⟨_,rfl⟩;simp only [<- hxs'] at rr g2 hin s2 hV hvat ⊢;obtain ⟨D,hD⟩:∃ D,D=detZ n (gm L):=⟨_,rfl⟩;rw [<- hD] at g1 g2 zs;refine Ws ?_; simp [hx,hV];refine callK bs ?_; simp [hx,hV];refine WS_cF (by simp [hx,hV]) ?_;refine WS_skip ?_; simp [hx,hV];refine Ws ?_; simp [hx,hV];refine callK s2 ?_; simp [hx,hV];refine WS_cF (by simp [hx,hV]) ?_;refine WS_skip ?_; simp [hx,hV];refine Wr ?_; simp [hx,hV];refine callK rr ?_; simp [hx,hV];refine Wr ?_; simp [hx,hV];refine callK g1 ?_; simp [hx,hV];refine Wr ?_; simp [hx,hV];refine callK g2 ?_; simp [hx,hV];refine Ws ?_; simp [hx,hV];refine callK zs ?_; simp [hx,hV];refine WS_cF (by simp [hx,hV]) ?_;refine WS_skip ?_; simp [hx,hV];refine Ws ?_; simp [hx,hV];refine WS_block ?_;refine WS_loop (LrI xs xs' n) (fun S=>n-nM 12 S) ⟨0,by omega,by simp,by simp,by simp,by simp⟩ ?_;rintro S ⟨i,hi,t0,t4,t3,t12⟩;have d12:=nM_eq t12;by_cases hlt:i<n
    . have hltI:(i:Int)<(n:Int):=by omega
      have wi:=i64_succ i (by omega);obtain ⟨vs,us,us',hvs,i1,i2⟩:=hin i hlt;have hix:i<xs.length:=by omega
      have hix':i<xs'.length:=by omega
      have hixI:(i:Int)<(xs.length:Int):=by omega
      have hixI':(i:Int)<(xs'.length:Int):=by omega
      rw [List.getElem?_eq_getElem hix] at hvs;have hvs:xs[i]= .sl (some 2) vs:=by simpa using hvs
      have hva:xs'[i]= .sl (some 2) (rowZ w (b i)):=hvat i hlt;obtain ⟨row,hrow⟩:∃ r,r=rowZ w (b i):=⟨_,rfl⟩;rw [<- hrow] at i1 hva;refine Ws ?_; simp [t0,t4,t3,t12,hx,hV,hlt,hltI,hix,hix',hixI,hixI',hvs,hva,wi];refine WS_cT (by simp [t0,t4,t3,t12,hx,hV,hlt,hltI,hix,hix',hixI,hixI',hvs,hva,wi]) ?_;refine WS_skip ?_; simp [t0,t4,t3,t12,hx,hV,hlt,hltI,hix,hix',hixI,hixI',hvs,hva,wi];refine WS_seq (WS_block (Wr ?_)); simp [t0,t4,t3,t12,hx,hV,hlt,hltI,hix,hix',hixI,hixI',hvs,hva,wi];refine callK i1 ?_; simp [t0,t4,t3,t12,hx,hV,hlt,hltI,hix,hix',hixI,hixI',hvs,hva,wi];refine Wr ?_; simp [t0,t4,t3,t12,hx,hV,hlt,hltI,hix,hix',hixI,hixI',hvs,hva,wi];refine callK i2 ?_; simp [t0,t4,t3,t12,hx,hV,hlt,hltI,hix,hix',hixI,hixI',hvs,hva,wi];refine Wr ?_; simp [t0,t4,t3,t12,hx,hV,hlt,hltI,hix,hix',hixI,hixI',hvs,hva,wi];refine WS_cF (by simp [t0,t4,t3,t12,hx,hV,hlt,hltI,hix,hix',hixI,hixI',hvs,hva,wi]) ?_;refine WS_skip ?_; simp [t0,t4,t3,t12,hx,hV,hlt,hltI,hix,hix',hixI,hixI',hvs,hva,wi];refine WS_reg [] ?_; simp [t0,t4,t3,t12,hx,hV,hlt,hltI,hix,hix',hixI,hixI',hvs,hva,wi];refine ⟨⟨i+1,by omega,by simp [t0],by simp [t4],by simp [t3],by simp⟩,?_⟩;rw [d12,nM_eq (i:=12) (n:=i+1) (by simp)]; omega
    . obtain rfl:i=n:=by omega
      have hltI:¬ (i:Int)<(i:Int):=by omega
      refine Ws ?_; simp [t0,t4,t3,t12,hx,hltI];refine WS_cF (by simp [t0,t4,t3,t12,hx,hltI]) ?_;refine WS_exit ?_; simp [t0,t4,t3,t12,hx,hltI];refine Wr ?_; simp [t0,t4,t3,t12,hx,hltI];refine WS_ret ?_; simp [t0,t4,t3,t12,hx,hltI]
 . rw [show smL 5 2 Ms=false by simpa using c1] at s1;obtain ⟨C,hC⟩:∃ A,A=mL Ms:=⟨_,rfl⟩;rw [<- hC] at s1 ⊢;refine spec_at Tryz.func9 ok_law14_LatticeReduces [] rfl (by simp) ?_;unfold sc_law14_LatticeReduces;refine Wr ?_; simp;refine Wr ?_; simp;refine callK aw ?_; simp;refine Ws ?_; simp;refine callK s1 ?_; simp;refine WS_cT (by simp) ?_;refine Wr ?_; simp;refine WS_ret ?_; simp
end Go.Vw
