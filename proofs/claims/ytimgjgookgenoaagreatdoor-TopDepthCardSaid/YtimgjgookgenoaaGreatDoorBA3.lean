/- A base: states, operations, code, calls; what the kernel reckons holds. It names no program. Part 4. -/
import Derived.Test.YtimgjgookgenoaaGreatDoorBA2
import Derived.Test.YtimgjgookgenoaaGreatDoorBA1
import Derived.RecoverIn
import Derived.Lib.Bytealg
set_option linter.unusedVariables false
set_option linter.unusedSimpArgs false
set_option linter.unusedSectionVars false
namespace Go.Zw
open Go.RowKit (Below)
open Go.Vw (Nul V SX SO SRes width ancOk ordOk Closed anc_edge ord_edge anc_listed ready_lt getD_set)

theorem looks_op {o:XOp} {t:Nat} (h:t∈o.op.opds.flatMap Go.Vw.SX.slot):t∈o.looks:=by
 unfold XOp.looks; exact List.mem_append.2 (.inl h)
theorem looks_g {o:XOp} {g:Nat} {w:Bool} (h:o.guard=some (g,w)):g∈o.looks:=by
 unfold XOp.looks; rw [h]; simp

/-- What comes of guards. -/
theorem XOpZ.guarded {P:Program} {o:XOp} {S S' T T':ZS} (h:XOpZ P o (· =T) S) (hs:∀ g w,o.guard=some (g,w)->S'.σ g=S.σ g)
 (hc:XCore P o.dst o.op (· =T) S->XCore P o.dst o.op (· =T') S') (hk:S.put o.dst (.tup [])=T->S'.put o.dst (.tup [])=T'):XOpZ P o (· =T') S':=by
 unfold XOpZ at h ⊢;split
 . rename_i hg; rw [hg] at h; exact hc h
 . rename_i g w hg;rw [hg] at h;simp only at h ⊢;rw [hs g w hg];split
   . rename_i c hc'; rw [hc'] at h; exact ⟨λe=>hc (h.1 e),λe=>hk (h.2 e)⟩
   . rename_i hc'; rw [hc'] at h; exact hk h
   . rename_i hc'; rw [hc'] at h; exact hk h
   . rename_i h1 h2 h3;split at h
     . rename_i c hc'; exact absurd hc' (h1 c)
     . rename_i hc'; exact absurd hc' (h2 _ _)
     . rename_i hc'; exact absurd hc' (h3 _)
     . exact h

theorem put_move (d:Option Nat) {S S' T:ZS} (hh:S'.h=S.h) (hn:S'.nx=S.nx) (x:Z) (h:S.put d x=T):S'.put d x=outS d S' T:=by
 subst h;cases d<;>simp [ZS.put,outS,hh,hn]<;>(cases S'; simp_all)

theorem XOpZ.move {P:Program} {o:XOp} {S S' T:ZS} (h:XOpZ P o (· =T) S) (hh:S'.h=S.h) (hn:S'.nx=S.nx) (ha:∀ t∈o.looks,S'.σ t=S.σ t) (hk:xKind o.op<=2):XOpZ P o (· =outS o.dst S' T) S':=
 h.guarded (λg w hg=>ha g (looks_g hg)) (λh=>h.move hh hn (λt ht=>ha t (looks_op ht)) hk) (put_move o.dst hh hn _)
theorem XOpZ.pureK {P:Program} {o:XOp} {S S' T:ZS} (h:XOpZ P o (· =T) S) (ha:∀ t∈o.looks,S'.σ t=S.σ t) (hk:xKind o.op=0):XOpZ P o (· =outS o.dst S' ⟨T.σ,S'.h,S'.nx⟩) S':=
 h.guarded (λg w hg=>ha g (looks_g hg)) (λh=>h.pureK (λt ht=>ha t (looks_op ht)) hk) λh=>by
  subst h;cases o.dst<;>simp [ZS.put,outS]
theorem put_same (d:Option Nat) (S:ZS) (x:Z):(S.put d x).h=S.h/\(S.put d x).nx=S.nx:=by cases d<;>simp [ZS.put]
theorem XOpZ.still {P:Program} {o:XOp} {S T:ZS} (h:XOpZ P o (· =T) S) (hk:xKind o.op<=1):T.h=S.h/\T.nx=S.nx:=by
 unfold XOpZ at h;split at h
 . exact h.still hk
 . rename_i g w hg;split at h
   . rename_i c hc;by_cases e:c=w
     . exact (h.1 e).still hk
     . have:=h.2 (by cases c<;>cases w<;>simp_all);rw [<- this]; exact put_same _ _ _
   . rw [<- h]; exact put_same _ _ _
   . rw [<- h]; exact put_same _ _ _
   . exact h.elim

/-- The names of what makes an object and stands in no order to i. -/
def Hd (anc:List Nat) (cr:Nat->Bool) (n0 i r:Nat):Prop:=∃ j,r=n0+j/\cr j=true/\(anc.getD i 0).testBit j=false
noncomputable def hid (p:Nat->Prop) (h:Nat->Option ZO):Nat->Option ZO:=λr=>open Classical in if p r then none else h r
noncomputable def shw (p:Nat->Prop) (h0 h:Nat->Option ZO):Nat->Option ZO:=λr=>open Classical in if p r then h0 r else h r
/-- A call's answer names nothing but what has p. -/
def QtC (p:Nat->Prop) (o:XOp) (S S1:ZS):Prop:=isCallO o.op=true->(∀ d,o.dst=some d->Z.okR p (S1.σ d))/\∀ r x,S1.h r=some x->S.h r=some x\/x.okR p

/-- The run in the text's order, and what has been held against it. cr: what makes an object under a name that was kept for it (n0 + the place); these are hidden from what stands in no order to them. -/
structure TraceOK (P:Program) (sl:List XOp) (anc:List Nat) (cr:Nat->Bool) (n0:Nat) (ob:Nat->ZO) (St:Nat->ZS):Prop where
 det:∀ (i:Nat) (o:XOp),sl[i]? =some o->cr i=false->∃ S1,XOpZ P o (· =S1) ⟨(St i).σ,hid (Hd anc cr n0 i) (St i).h,(St i).nx⟩/\(St i).nx<=S1.nx/\S1.σ=(St (i+1)).σ/\S1.nx=(St (i+1)).nx/\(St (i+1)).h=shw (Hd anc cr n0 i) (St i).h S1.h/\
  ((∃ j,cr j=true)->QtC (λr=>¬ Hd anc cr n0 i r) o ⟨(St i).σ,hid (Hd anc cr n0 i) (St i).h,(St i).nx⟩ S1)
 form:∀ (i:Nat) (o:XOp),sl[i]? =some o->(St (i+1)).σ=(outS o.dst (St i) (St (i+1))).σ
 kind:∀ (i:Nat) (o:XOp),sl[i]? =some o->xKind o.op<=2
 cre:∀ (i:Nat),cr i=true->∃ o z d,sl[i]? =some o/\isCre o=true/\creZ (St i).ev (n0+i) o.op=some (z,.new (ob i))/\o.dst=some d/\St (i+1)=⟨upd (St i).σ d z,upd (St i).h (n0+i) (some (ob i)),(St i).nx⟩
 free:∀ j,cr j=true->(St 0).h (n0+j)=none/\n0+j<(St 0).nx
 chain:∀ (i j:Nat) (oi oj:XOp),sl[i]? =some oi->sl[j]? =some oj->xKind oi.op=2->xKind oj.op=2->cr i=false->cr j=false->i<j->(anc.getD j 0).testBit i=true
 later:∀ (i j:Nat) (oi oj:XOp),sl[i]? =some oi->sl[j]? =some oj->xKind oi.op=1->xKind oj.op=2->cr j=false->i<j->(anc.getD j 0).testBit i=false->
  ∃ T d,XOpZ P oi (· =T) ⟨(St i).σ,hid (Hd anc cr n0 i) (St (j+1)).h,(St (j+1)).nx⟩/\oi.dst=some d/\T.σ d=(St (i+1)).σ d
 before:∀ (i j:Nat) (oi oj:XOp),sl[i]? =some oi->sl[j]? =some oj->xKind oi.op=1->xKind oj.op=2->cr j=false->j<i->(anc.getD i 0).testBit j=false->
  ∃ T d,XOpZ P oi (· =T) ⟨(St i).σ,hid (Hd anc cr n0 i) (St j).h,(St j).nx⟩/\oi.dst=some d/\T.σ d=(St (i+1)).σ d

/-- Slots and heap when the operations that are listed have been carried out. -/
def sX (sl:List XOp) (St:Nat->ZS) (listed:Nat->Bool):Nat->Nat->Z
 | 0=>(St 0).σ
 | i+1=>if listed i then (match (sl[i]?).bind (·.dst) with | some d=>upd (sX sl St listed i) d ((St (i+1)).σ d) | none=>sX sl St listed i) else sX sl St listed i
/-- It turns the heap, in its place. -/
def turns (sl:List XOp) (cr:Nat->Bool) (i:Nat):Prop:=∃ o,sl[i]? =some o/\xKind o.op=2/\cr i=false
noncomputable def hX (sl:List XOp) (cr:Nat->Bool) (St:Nat->ZS) (listed:Nat->Bool):Nat->(Nat->Option ZO) × Nat
 | 0=>((St 0).h,(St 0).nx)
 | i+1=>open Classical in if listed i=true/\turns sl cr i then ((St (i+1)).h,(St (i+1)).nx) else hX sl cr St listed i

section
variable {P:Program} {ops:Array Oper} {sl:List XOp} {anc:List Nat} {cr:Nat->Bool} {n0:Nat} {ob:Nat->ZO} {St:Nat->ZS}

theorem apart_of (hap:apAllX sl anc=true) {i j:Nat} {oi oj:XOp} (hi:sl[i]? =some oi) (hj:sl[j]? =some oj) (hne:i≠j) (h1:(anc.getD j 0).testBit i=false) (h2:(anc.getD i 0).testBit j=false):apartX oi oj=true:=by
 simp only [apAllX,List.all_eq_true] at hap;have a:=hap (oi,i) (by rw [List.mem_iff_getElem?]; exact ⟨i,by rw [List.getElem?_zipIdx]; simp [hi]⟩);have b:=a (oj,j) (by rw [List.mem_iff_getElem?]; exact ⟨j,by rw [List.getElem?_zipIdx]; simp [hj]⟩)
 simpa [hne,h1,h2,-List.getD_eq_getElem?_getD] using b

theorem anc_lt (ha:ancOk ops.toList anc=true) (ho:ordOk ops.toList=true) {i:Nat} (hi:i<ops.size):∀ j,j<ops.size->(anc.getD j 0).testBit i=true->i<j:=by
 intro j;induction j using Nat.strongRecOn with
 | _ j ih=>
  intro hj h;have hjo:ops[j]? =some ops[j]:=by simp [hj]
  obtain ⟨e,he,hb,h1⟩:=anc_edge ha hjo hi h;have hlt:=ord_edge ho hjo he hb;rcases h1 with h1 | h1
  . omega
  . have:=ih e.on hlt (by omega) h1; omega

theorem ready_anc (ha:ancOk ops.toList anc=true) (ho:ordOk ops.toList=true) {listed:Array Bool} (hc:Closed ops listed) {i j:Nat} (hi:i∈Region.ready .any ops listed) (hj:j<ops.size) (h:(anc.getD i 0).testBit j=true):listed.getD j false=true:=by
 obtain ⟨_,o,hio,hall⟩:=mem_ready.1 hi;obtain ⟨e,he,hb,h1⟩:=anc_edge ha hio hj h;have hle:=hall e he hb;rcases h1 with h1 | h1
 . rw [<- h1]; exact hle
 . have hlt:=ord_edge ho hio he hb;exact anc_listed ha ho hc hj e.on (by have:=ready_lt hi; omega) hle h1

theorem ready_not {listed:Array Bool} {i:Nat} (hi:i∈Region.ready .any ops listed) (hs:listed.size=ops.size):listed.getD i false=false:=by
 obtain ⟨h0,_⟩:=mem_ready.1 hi;have hlt:i<listed.size:=by rw [hs]; exact ready_lt hi
 simp [Array.getD,hlt] at h0 ⊢;exact h0

/-- What is listed when i is ready. -/
structure Rdy (ops:Array Oper) (sl:List XOp) (anc:List Nat) (L:Nat->Bool) (i:Nat):Prop where
 not:L i=false
 lt:i<sl.length
 up:∀ j,j<sl.length->(anc.getD i 0).testBit j=true->L j=true
 down:∀ j k,j<sl.length->k<sl.length->L k=true->(anc.getD k 0).testBit j=true->L j=true
 less:∀ j k,j<sl.length->k<sl.length->(anc.getD k 0).testBit j=true->j<k

variable (T:TraceOK P sl anc cr n0 ob St) (hap:apAllX sl anc=true) {L:Nat->Bool} {i:Nat} (R:Rdy ops sl anc L i)
include T hap R

theorem sX_looks {oi:XOp} (hoi:sl[i]? =some oi) {t:Nat} (ht:t∈oi.looks):∀ j,j<=sl.length->sX sl St L j t=(St (min i j)).σ t
 | 0,_=>by simp [sX]
 | j+1,hj=>by
  have ih:=sX_looks hoi ht j (by omega);have hjo:∃ oj,sl[j]? =some oj:=⟨sl[j],by simp [show j<sl.length by omega]⟩;obtain ⟨oj,hoj⟩:=hjo;have hform:=T.form j oj hoj
  -- a writer of t is before i, and listed; or it does not write t
  have hw:oj.dst=some t->j≠i->(j<i/\L j=true)\/(i<j/\L j=false):=by
   intro hd hne;have hord:(anc.getD j 0).testBit i=true\/(anc.getD i 0).testBit j=true:=by
    cases h1:(anc.getD j 0).testBit i with
    | true=>exact .inl rfl
    | false=>
     cases h2:(anc.getD i 0).testBit j with
     | true=>exact .inr rfl
     | false=>
      exfalso;have:=apart_of hap hoj hoi hne h2 h1;simp only [apartX,hd,Bool.and_eq_true,Bool.not_eq_true',List.contains_eq_mem,decide_eq_false_iff_not] at this;exact this.1.1 ht
   rcases hord with h | h
   . have:=R.less i j R.lt (by omega) h;refine .inr ⟨this,?_⟩;cases hl:L j with
     | false=>rfl
     | true=>have:=R.down i j R.lt (by omega) hl h; rw [R.not] at this; cases this
   . exact .inl ⟨R.less j i (by omega) R.lt h,R.up j (by omega) h⟩
  simp only [sX];by_cases hji:j<i
  . rw [show min i (j+1)=j+1 by omega];rw [show min i j=j by omega] at ih;by_cases hd:oj.dst=some t
    . have hl:L j=true:=by
       rcases hw hd (by omega) with h | h
       . exact h.2
       . omega
      simp [hl,hoj,hd]
    . have hst:(St (j+1)).σ t=(St j).σ t:=by
       rw [hform];simp only [outS];cases hd':oj.dst with
       | none=>rfl
       | some d=>exact upd_ne _ _ (λe=>hd (by rw [hd',e]))
      rw [hst];split
      . simp only [hoj,Option.bind_some];cases hd':oj.dst with
        | none=>exact ih
        | some d=>exact (upd_ne _ _ (λe=>hd (by rw [hd',e]))).trans ih
      . exact ih
  . rw [show min i (j+1)=i by omega];rw [show min i j=i by omega] at ih;split
    . rename_i hl;have hne:j≠i:=λe=>by rw [e,R.not] at hl; cases hl
      simp only [hoj,Option.bind_some];cases hd':oj.dst with
      | none=>exact ih
      | some d=>
       refine (upd_ne _ _ (λe=>?_)).trans ih;subst e;rcases hw hd' hne with h | h
       . omega
       . rw [h.2] at hl; cases hl
    . exact ih
end
end Go.Zw
namespace Go.Zw
open Go.RowKit (Below)
open Go.Vw (Nul V SX SO SRes width ancOk ordOk Closed anc_edge ord_edge anc_listed ready_lt getD_set)

def hpOf (S:ZS):(Nat->Option ZO) × Nat:=(S.h,S.nx)
/-- Nothing that turns the heap and is listed stands behind A. -/
def late (sl:List XOp) (cr:Nat->Bool) (L:Nat->Bool) (A:Nat):Prop:=∀ j,turns sl cr j->L j=true->j<A
noncomputable def HP (sl:List XOp) (cr:Nat->Bool) (n0:Nat) (ob:Nat->ZO) (St:Nat->ZS) (L:Nat->Bool):Nat->Option ZO:=λr=>open Classical in
 if ∃ A,r=n0+A/\cr A=true then (if L (r-n0)=true then (if late sl cr L (r-n0) then some (ob (r-n0)) else (hX sl cr St L sl.length).1 r) else none) else (hX sl cr St L sl.length).1 r
noncomputable def SXX (sl:List XOp) (cr:Nat->Bool) (n0:Nat) (ob:Nat->ZO) (St:Nat->ZS) (L:Nat->Bool):ZS:=⟨sX sl St L sl.length,HP sl cr n0 ob St L,(hX sl cr St L sl.length).2⟩
def addL (L:Nat->Bool) (i:Nat):Nat->Bool:=λj=>if j=i then true else L j

theorem okR_and {p q:Nat->Prop} {z:Z} (h:Z.okR p z) (k:Z.okR q z):Z.okR (λr=>p r/\q r) z:=by
 have key:∀ z:Z,Z.okR p z->Z.okR q z->Z.okR (λr=>p r/\q r) z:=by
  intro z;refine Z.rec (motive_1:=λz=>Z.okR p z->Z.okR q z->Z.okR (λr=>p r/\q r) z) (motive_2:=λzs=>Z.oksR p zs->Z.oksR q zs->Z.oksR (λr=>p r/\q r) zs)
   ?_ ?_ ?_ ?_ ?_ ?_ ?_ ?_ ?_ ?_ ?_ ?_ ?_ ?_ ?_ ?_ ?_ z
  all_goals intros
  all_goals simp_all [Z.okR,Z.oksR]
 exact key z h k
theorem okO_and {p q:Nat->Prop} {o:ZO} (h:o.okR p) (k:o.okR q):o.okR λr=>p r/\q r:=by
 cases o with
 | ob T fx cs=>exact (oksR_iff _ _).2 λz hz=>okR_and ((oksR_iff _ _).1 h z hz) ((oksR_iff _ _).1 k z hz)
 | mp es c=>exact λe he=>⟨okR_and (h e he).1 (k e he).1,okR_and (h e he).2 (k e he).2⟩
 | it m a b c=>exact λr hr=>⟨h r hr,k r hr⟩
 | lp c σ st=>exact (oksR_iff _ _).2 λz hz=>okR_and ((oksR_iff _ _).1 h z hz) ((oksR_iff _ _).1 k z hz)

theorem ev_okR {p:Nat->Prop} {S:ZS} (hs:∀ t,Z.okR p (S.σ t)) (x:SX):Z.okR p (S.ev x):=by
 cases x with
 | t n=>exact hs n
 | c v=>exact vz_ok v
 | f id=>exact ⟨trivial,trivial⟩

/-- What one operation names. -/
theorem xop_okR {P:Program} {p:Nat->Prop} {o:XOp} {S S1:ZS} (h:XOpZ P o (· =S1) S) (hk:xKind o.op<=2) (hq:isCallO o.op=true->(∀ d,o.dst=some d->Z.okR p (S1.σ d))/\∀ r x,S1.h r=some x->S.h r=some x\/x.okR p)
 (hform:S1.σ=(outS o.dst S S1).σ) (hn:p S.nx) (hs:∀ t,Z.okR p (S.σ t)) (hh:OkH p S.h):(∀ t,Z.okR p (S1.σ t))/\OkH p S1.h:=by
 have slots:(∀ d,o.dst=some d->Z.okR p (S1.σ d))->∀ t,Z.okR p (S1.σ t):=λhd t=>by
  have e:=congrFun hform t;simp only [outS] at e;cases hdst:o.dst with
  | none=>rw [hdst] at e; rw [e]; exact hs t
  | some d=>
   rw [hdst] at e;simp only [upd_apply] at e;by_cases ht:t=d
   . rw [ht]; exact hd d hdst
   . rw [if_neg ht] at e; rw [e]; exact hs t
 cases hc:isCallO o.op with
 | true=>
  obtain ⟨h1,h2⟩:=hq hc;exact ⟨slots h1,λr x hx=>(h2 r x hx).elim (hh r x) id⟩
 | false=>
  have core:XCore P o.dst o.op (· =S1) S->(∀ t,Z.okR p (S1.σ t))/\OkH p S1.h:=λh=>by
   obtain ⟨r,hr,e⟩:=core_inv h hk hc;obtain ⟨h1,h2⟩:=coreZ_okR hn hh (λx _=>ev_okR hs x) hr;have hH:=app_okH hh h2;subst e;refine ⟨slots λd hd=>?_,?_⟩
   . rw [hd]; simpa [ZS.put] using h1
   . intro q x hx;refine hH q x ?_;cases hd:o.dst<;>rw [hd] at hx<;>exact hx
  have skip:S.put o.dst (.tup [])=S1->(∀ t,Z.okR p (S1.σ t))/\OkH p S1.h:=λe=>by
   subst e;refine ⟨slots λd hd=>?_,?_⟩
   . rw [hd]; simp [ZS.put,Z.okR,Z.oksR]
   . intro q x hx;refine hh q x ?_;cases hd:o.dst<;>rw [hd] at hx<;>exact hx
  unfold XOpZ at h;split at h
  . exact core h
  . rename_i g w hg;split at h
    . rename_i c hc';by_cases e:c=w
      . exact core (h.1 e)
      . exact skip (h.2 (by cases c<;>cases w<;>simp_all))
    . exact skip h
    . exact skip h
    . exact h.elim

section
variable {P:Program} {ops:Array Oper} {sl:List XOp} {anc:List Nat} {cr:Nat->Bool} {n0:Nat} {ob:Nat->ZO} {St:Nat->ZS}
variable (T:TraceOK P sl anc cr n0 ob St)
include T

omit T in
theorem get_sl {j:Nat} (h:j<sl.length):∃ o,sl[j]? =some o:=⟨sl[j],by simp [h]⟩
theorem cr_lt {j:Nat} (h:cr j=true):j<sl.length:=by
 obtain ⟨o,z,d,h1,_⟩:=T.cre j h;exact (List.getElem?_eq_some_iff.1 h1).1
omit T in
theorem turns_lt {j:Nat} (h:turns sl cr j):j<sl.length:=by
 obtain ⟨o,h1,_⟩:=h;exact (List.getElem?_eq_some_iff.1 h1).1
theorem heap_step {j:Nat} (hj:j<sl.length) (h:¬ turns sl cr j):(St (j+1)).nx=(St j).nx/\∀ r,(cr j=true->r≠n0+j)->(St (j+1)).h r=(St j).h r:=by
 cases hc:cr j with
 | true=>
  obtain ⟨o,z,d,_,_,_,_,e⟩:=T.cre j hc;rw [e];exact ⟨rfl,λr hr=>upd_ne _ _ (hr rfl)⟩
 | false=>
  obtain ⟨o,ho⟩:=get_sl hj;have hk:=T.kind j o ho;have hne:xKind o.op≠2:=λe=>h ⟨o,ho,e,hc⟩;obtain ⟨S1,h1,_,h2,h3,h4,_⟩:=T.det j o ho hc;have hst:=h1.still (by omega);refine ⟨by rw [<- h3,hst.2],λr _=>?_⟩;rw [h4,hst.1];simp only [shw,hid];split<;>simp_all
theorem heap_same:∀ {i p:Nat},p<=i->i<=sl.length->(∀ j,p<=j->j<i->¬ turns sl cr j)->(St i).nx=(St p).nx/\∀ r,(∀ A,p<=A->A<i->cr A=true->r≠n0+A)->(St i).h r=(St p).h r
 | 0,p,h,_,_=>by rw [show p=0 by omega]; exact ⟨rfl,λ_ _=>rfl⟩
 | i+1,p,h,hi,hn=>by
  rcases Nat.lt_or_ge i p with hlt | hge
  . rw [show p=i+1 by omega]; exact ⟨rfl,λ_ _=>rfl⟩
  . obtain ⟨a1,a2⟩:=heap_step T (by omega) (hn i hge (by omega));obtain ⟨b1,b2⟩:=heap_same hge (by omega) λj a b=>hn j a (by omega);exact ⟨a1.trans b1,λr hr=>(a2 r λhc=>hr i hge (by omega) hc).trans (b2 r λA h1 h2=>hr A h1 (by omega))⟩
theorem none0 (less:∀ j k,j<sl.length->k<sl.length->(anc.getD k 0).testBit j=true->j<k) {A:Nat} (hA:cr A=true):∀ j,j<=A->(St j).h (n0+A)=none
 | 0,_=>(T.free A hA).1
 | j+1,hj=>by
  have ih:=none0 less hA j (by omega);have hl:=cr_lt T hA;cases hc:cr j with
  | true=>
   obtain ⟨o,z,d,_,_,_,_,e⟩:=T.cre j hc;rw [e];simp only;rw [upd_ne _ _ (by omega)]; exact ih
  | false=>
   obtain ⟨o,ho⟩:=get_sl (show j<sl.length by omega);obtain ⟨S1,h1,_,h2,h3,h4,_⟩:=T.det j o ho hc;rw [h4];have:Hd anc cr n0 j (n0+A):=⟨A,rfl,hA,by
    cases h:(anc.getD j 0).testBit A with
    | false=>rfl
    | true=>have:=less A j hl (by omega) h; omega⟩
   simp only [shw,if_pos this,ih]
theorem kept {A:Nat} (hA:cr A=true):∀ i,A<i->i<=sl.length->(∀ j,A<j->j<i->turns sl cr j->(anc.getD j 0).testBit A=false)->(St i).h (n0+A)=some (ob A)
 | 0,h,_,_=>absurd h (Nat.not_lt_zero _)
 | i+1,h,hi,hj=>by
  rcases Nat.lt_or_ge A i with hlt | hge
  . have ih:=kept hA i hlt (by omega) λj a b=>hj j a (by omega);by_cases ht:turns sl cr i
    . obtain ⟨o,ho,hk,hc⟩:=ht;obtain ⟨S1,h1,_,h2,h3,h4,_⟩:=T.det i o ho hc;rw [h4];have:Hd anc cr n0 i (n0+A):=⟨A,rfl,hA,hj i hlt (by omega) ⟨o,ho,hk,hc⟩⟩;simp only [shw,if_pos this,ih]
    . rw [(heap_step T (by omega) ht).2 _ λ_=>by omega]; exact ih
  . have e:A=i:=by omega
    subst e;obtain ⟨o,z,d,_,_,_,_,e⟩:=T.cre A hA;rw [e];simp [upd_apply]
omit T in
theorem first_turn (p:Nat):∀ i,p<=i->(∀ j,p<=j->j<i->¬ turns sl cr j)\/∃ j,p<=j/\j<i/\turns sl cr j/\∀ q,p<=q->q<j->¬ turns sl cr q
 | 0,h=>.inl λj _ h=>absurd h (Nat.not_lt_zero _)
 | i+1,h=>by
  rcases Nat.lt_or_ge i p with hlt | hge
  . exact .inl λj a b=>by omega
  . rcases first_turn p i hge with hn | ⟨j,a,b,c,d⟩
    . by_cases ht:turns sl cr i
      . exact .inr ⟨i,hge,by omega,ht,hn⟩
      . refine .inl λj a b=>?_;by_cases e:j=i
        . rw [e]; exact ht
        . exact hn j a (by omega)
    . exact .inr ⟨j,a,by omega,c,d⟩

/-- Those that turn are listed up to p. -/
structure UpTo (sl:List XOp) (cr:Nat->Bool) (L:Nat->Bool) (p:Nat):Prop where
 le:p<=sl.length
 h1:∀ j,j<p->turns sl cr j->L j=true
 h2:∀ j,p<=j->turns sl cr j->L j=false
 d:p=0\/∃ q,p=q+1/\turns sl cr q/\L q=true

theorem hX_at {L:Nat->Bool} {p:Nat} (U:UpTo sl cr L p):∀ j,j<=sl.length->(p<=j->hX sl cr St L j=hpOf (St p))/\(j<=p->(∀ q,j<=q->q<p->¬ turns sl cr q)->hX sl cr St L j=hpOf (St p)\/p≠0):=by
 have key:∀ j,j<=sl.length->p<=j->hX sl cr St L j=hpOf (St p):=by
  intro j;induction j with
  | zero=>intro _ h; rw [show p=0 by omega]; rfl
  | succ j ih=>
   intro hj h;simp only [hX];rcases Nat.lt_or_ge j p with hlt | hge
   . have e:p=j+1:=by omega
     rcases U.d with h0 | ⟨q,hq,ht,hL⟩
     . omega
     . have:q=j:=by omega
       subst this;rw [if_pos ⟨hL,ht⟩,e]; rfl
   . rw [if_neg (λh=>by rw [U.h2 j hge h.2] at h; cases h.1)];exact ih (by omega) hge
 exact λj hj=>⟨key j hj,λh _=>by
  by_cases e:p=0
  . exact .inl (key j hj (by omega))
  . exact .inr e⟩

theorem hX_end {L:Nat->Bool} {p:Nat} (U:UpTo sl cr L p):hX sl cr St L sl.length=hpOf (St p):=(hX_at T U sl.length (Nat.le_refl _)).1 U.le

theorem HP_name {L:Nat->Bool} {p A:Nat} (U:UpTo sl cr L p) (hA:cr A=true):HP sl cr n0 ob St L (n0+A)=if L A=true then (if p<=A then some (ob A) else (St p).h (n0+A)) else none:=by
 have hl:late sl cr L A↔p<=A:=by
  constructor
  . intro h;rcases U.d with h0 | ⟨q,hq,ht,hL⟩
    . omega
    . have:=h q ht hL; omega
  . intro h j hj hLj;rcases Nat.lt_or_ge j p with h' | h'
    . omega
    . rw [U.h2 j h' hj] at hLj; cases hLj
 have hex:∃ B,n0+A=n0+B/\cr B=true:=⟨A,rfl,hA⟩;unfold HP;rw [if_pos hex,show n0+A-n0=A by omega,hX_end T U];simp only [hl,hpOf]
theorem HP_other {L:Nat->Bool} {p r:Nat} (U:UpTo sl cr L p) (hr:¬ ∃ A,r=n0+A/\cr A=true):HP sl cr n0 ob St L r=(St p).h r:=by
 unfold HP;rw [if_neg hr,hX_end T U]; rfl

theorem heap_q {L:Nat->Bool} {p q:Nat} (U:UpTo sl cr L p) (hpq:p<=q) (hq:q<=sl.length) (hno:∀ j,p<=j->j<q->¬ turns sl cr j) {r:Nat} (hr:∀ A,r=n0+A->cr A=true->L A=true/\A<q):(St q).h r=HP sl cr n0 ob St L r:=by
 have hs:=(heap_same T hpq hq hno).2;by_cases hex:∃ A,r=n0+A/\cr A=true
 . obtain ⟨A,rfl,hA⟩:=hex;obtain ⟨hL,hlt⟩:=hr A rfl hA;rw [HP_name T U hA,if_pos hL];by_cases hpA:p<=A
   . rw [if_pos hpA];exact kept T hA q hlt hq λj h1 h2 ht=>absurd ht (hno j (by omega) h2)
   . rw [if_neg hpA];exact hs _ λB h1 h2 _=>by omega
 . rw [HP_other T U hex];exact hs r λB h1 h2 hB=>λe=>hex ⟨B,e,hB⟩

/-- Those that turn are listed up to a place. -/
theorem listed_to {L:Nat->Bool} (down:∀ j k,j<sl.length->k<sl.length->L k=true->(anc.getD k 0).testBit j=true->L j=true):∃ p,UpTo sl cr L p:=by
 have key:∀ n,n<=sl.length->∃ p,p<=n/\(∀ j,j<p->turns sl cr j->L j=true)/\(∀ j,p<=j->j<n->turns sl cr j->L j=false)/\(p=0\/∃ q,p=q+1/\turns sl cr q/\L q=true):=by
  intro n;induction n with
  | zero=>exact λ_=>⟨0,Nat.le_refl _,λj h=>absurd h (Nat.not_lt_zero _),λj _ h=>absurd h (Nat.not_lt_zero _),.inl rfl⟩
  | succ n ih=>
   intro hn;obtain ⟨p,a,b,c,d⟩:=ih (by omega);by_cases ht:turns sl cr n/\L n=true
   . refine ⟨n+1,Nat.le_refl _,λj hj hjt=>?_,λj h1 h2=>by omega,.inr ⟨n,rfl,ht⟩⟩;by_cases e:j=n
     . rw [e]; exact ht.2
     . obtain ⟨oj,hoj,hk,hc⟩:=hjt;obtain ⟨on,hon,hk',hc'⟩:=ht.1;exact down j n (by omega) (by omega) ht.2 (T.chain j n oj on hoj hon hk hk' hc hc' (by omega))
   . refine ⟨p,by omega,b,λj h1 h2 hjt=>?_,d⟩;by_cases e:j=n
     . subst e;cases hl:L j with
       | false=>rfl
       | true=>exact absurd ⟨hjt,hl⟩ ht
     . exact c j h1 (by omega) hjt
 obtain ⟨p,a,b,c,d⟩:=key sl.length (Nat.le_refl _);exact ⟨p,a,b,λj h1 h2=>c j h1 (turns_lt h2) h2,d⟩

variable (hap:apAllX sl anc=true) {L:Nat->Bool} {i:Nat} (R:Rdy ops sl anc L i)

omit T in
theorem sX_add {oi:XOp} (hoi:sl[i]? =some oi) (hap:apAllX sl anc=true) (R:Rdy ops sl anc L i):∀ j,j<=sl.length->sX sl St (addL L i) j=if j<=i then sX sl St L j else (match oi.dst with | some d=>upd (sX sl St L j) d ((St (i+1)).σ d) | none=>sX sl St L j)
 | 0,_=>by simp [sX]
 | j+1,hj=>by
  have ih:=sX_add hoi hap R j (by omega);obtain ⟨oj,hoj⟩:=get_sl (show j<sl.length by omega);rcases Nat.lt_trichotomy j i with hlt | heq | hgt
  . rw [if_pos (by omega)];rw [if_pos (by omega)] at ih;simp only [sX,addL,if_neg (show j≠i by omega),<-ih]
  . subst heq;rw [if_neg (by omega)];rw [if_pos (Nat.le_refl _)] at ih;rw [hoi,Option.some.injEq] at hoj; subst hoj;simp only [sX,R.not,Bool.false_eq_true,if_false];rw [show addL L j j=true by simp [addL]];simp only [if_true,hoi,Option.bind_some];cases hd:oi.dst with
    | none=>exact ih
    | some d=>simp only [ih]
  . rw [if_neg (by omega)];rw [if_neg (by omega)] at ih;have hl:addL L i j=L j:=by simp [addL,show j≠i by omega]
    simp only [sX,hl];cases hlj:L j with
    | false=>simpa using ih
    | true=>
     simp only [if_true,hoj,Option.bind_some]
     -- j is listed behind i: no edge ties them
     have h1:(anc.getD j 0).testBit i=false:=by
      cases h:(anc.getD j 0).testBit i with
      | false=>rfl
      | true=>have:=R.down i j R.lt (by omega) hlj h; rw [R.not] at this; cases this
     have h2:(anc.getD i 0).testBit j=false:=by
      cases h:(anc.getD i 0).testBit j with
      | false=>rfl
      | true=>have:=R.less j i (by omega) R.lt h; omega
     have hne:i≠j:=by omega
     have ha:=apart_of hap hoi hoj hne h1 h2;cases hd:oi.dst with
     | none=>rw [hd] at ih; simp only at ih ⊢; rw [ih]
     | some d=>
      rw [hd] at ih; simp only at ih ⊢;cases hdj:oj.dst with
      | none=>exact ih
      | some d'=>
       simp only [ih];have hdd:d'≠d:=by
        intro e;simp only [apartX,hd,hdj,Bool.and_eq_true] at ha;have:=ha.1.2;simp [e] at this
       funext x;simp only [upd_apply];by_cases e1:x=d'
       . by_cases e2:x=d
         . exact absurd (e1.symm.trans e2) hdd
         . simp [e1,hdd]
       . by_cases e2:x=d
         . simp [e2,Ne.symm hdd]
         . simp [e1,e2]

include R
omit hap in
theorem upTo_turn {p:Nat} (ht:turns sl cr i) (U:UpTo sl cr L p):p<=i/\(∀ j,p<=j->j<i->¬ turns sl cr j)/\UpTo sl cr (addL L i) (i+1):=by
 obtain ⟨oi,hoi,hki,hci⟩:=ht;have up:∀ j,turns sl cr j->j<i->L j=true:=λj hj hlt=>by
  obtain ⟨oj,hoj,hkj,hcj⟩:=hj;exact R.up j (by have:=R.lt; omega) (T.chain j i oj oi hoj hoi hkj hki hcj hci hlt)
 have dn:∀ j,turns sl cr j->i<j->L j=false:=λj hj hlt=>by
  cases h:L j with
  | false=>rfl
  | true=>
   have hl:=turns_lt hj;obtain ⟨oj,hoj,hkj,hcj⟩:=hj;have:=R.down i j R.lt hl h (T.chain i j oi oj hoi hoj hki hkj hci hcj hlt);rw [R.not] at this; cases this
 refine ⟨?_,λj h1 h2 hj=>?_,R.lt,λj h1 hj=>?_,λj h1 hj=>?_,.inr ⟨i,rfl,⟨oi,hoi,hki,hci⟩,by simp [addL]⟩⟩
 . rcases U.d with h0 | ⟨q,hq,hqt,hL⟩
   . omega
   . rcases Nat.lt_trichotomy q i with h | h | h
     . omega
     . subst h; rw [R.not] at hL; cases hL
     . rw [dn q hqt h] at hL; cases hL
 . have:=U.h2 j h1 hj;rw [up j hj h2] at this; cases this
 . by_cases e:j=i
   . simp [addL,e]
   . simp [addL,e,up j hj (by omega)]
 . have e:j≠i:=by omega
   simp [addL,e,dn j hj (by omega)]
omit T R hap in
theorem upTo_calm {p:Nat} (ht:¬ turns sl cr i) (U:UpTo sl cr L p):UpTo sl cr (addL L i) p:=by
 have e:∀ j,turns sl cr j->addL L i j=L j:=λj hj=>by
  have:j≠i:=λh=>ht (h ▸ hj);simp [addL,this]
 refine ⟨U.le,λj h1 hj=>?_,λj h1 hj=>?_,?_⟩
 . rw [e j hj]; exact U.h1 j h1 hj
 . rw [e j hj]; exact U.h2 j h1 hj
 . rcases U.d with h0 | ⟨q,hq,hqt,hL⟩
   . exact .inl h0
   . exact .inr ⟨q,hq,hqt,by rw [e q hqt]; exact hL⟩

include hap
omit T in
theorem sX_end {oi:XOp} (hoi:sl[i]? =some oi) {S1:ZS} {hs:Nat->Option ZO} {nx:Nat} (hv:∀ d,oi.dst=some d->S1.σ d=(St (i+1)).σ d):(outS oi.dst ⟨sX sl St L sl.length,hs,nx⟩ S1).σ=sX sl St (addL L i) sl.length:=by
 have hsx:=sX_add (St:=St) hoi hap R sl.length (Nat.le_refl _);rw [if_neg (by have:=R.lt; omega)] at hsx;rw [hsx];simp only [outS];cases hd:oi.dst with
 | none=>rfl
 | some d=>simp only [hv d hd]

/-- One operation that is ready, and makes no object under a kept name. -/
theorem ready_step {p:Nat} (U:UpTo sl cr L p) {oi:XOp} (hoi:sl[i]? =some oi) (hc:cr i=false):∃ S1 hs,XOpZ P oi (· =S1) ⟨(SXX sl cr n0 ob St L).σ,hs,(SXX sl cr n0 ob St L).nx⟩/\(∀ r,hs r=none\/hs r=(SXX sl cr n0 ob St L).h r)/\
 S1.σ=(SXX sl cr n0 ob St (addL L i)).σ/\S1.nx=(SXX sl cr n0 ob St (addL L i)).nx/\
 (∀ r,(SXX sl cr n0 ob St (addL L i)).h r=none\/(SXX sl cr n0 ob St (addL L i)).h r=(open Classical in if hs r=none/\(SXX sl cr n0 ob St L).h r≠none then (SXX sl cr n0 ob St L).h r else S1.h r))/\
 S1.σ=(outS oi.dst ⟨(SXX sl cr n0 ob St L).σ,hs,(SXX sl cr n0 ob St L).nx⟩ S1).σ/\
 ((∃ j,cr j=true)->isCallO oi.op=true->(∀ d,oi.dst=some d->Z.okR (λr=>¬ Hd anc cr n0 i r) (S1.σ d))/\∀ r x,S1.h r=some x->hs r=some x\/x.okR (λr=>¬ Hd anc cr n0 i r)):=by
 have hlook:∀ t∈oi.looks,(SXX sl cr n0 ob St L).σ t=(St i).σ t:=λt ht=>by
  have:=sX_looks T hap R hoi ht sl.length (Nat.le_refl _);rw [Nat.min_eq_left (Nat.le_of_lt R.lt)] at this;exact this
 have hk:=T.kind i oi hoi;have hnx:(SXX sl cr n0 ob St L).nx=(St p).nx:=congrArg Prod.snd (hX_end T U);have less:=R.less;have hil:=R.lt
 -- a hidden heap of the run in the text's order is part of the heap as it is
 have sub:∀ q,p<=q->q<=sl.length->(∀ j,p<=j->j<q->¬ turns sl cr j)->∀ r,hid (Hd anc cr n0 i) (St q).h r=none\/hid (Hd anc cr n0 i) (St q).h r=(SXX sl cr n0 ob St L).h r:=λq h1 h2 h3 r=>by
  by_cases hh:Hd anc cr n0 i r
  . exact .inl (by simp only [hid,if_pos hh])
  . have e:hid (Hd anc cr n0 i) (St q).h r=(St q).h r:=by simp only [hid,if_neg hh]
    rw [e];by_cases hex:∃ A,r=n0+A/\cr A=true
    . obtain ⟨A,rfl,hA⟩:=hex;by_cases hAq:A<q
      . right;refine heap_q T U h1 h2 h3 λB hB hcB=>?_;have:B=A:=by omega
        subst this;refine ⟨?_,hAq⟩;cases ha:(anc.getD i 0).testBit B with
        | false=>exact absurd ⟨B,rfl,hA,ha⟩ hh
        | true=>exact R.up B (cr_lt T hA) ha
      . exact .inl (none0 T less hA q (by omega))
    . exact .inr (heap_q T U h1 h2 h3 λB hB hcB=>absurd ⟨B,hB,hcB⟩ hex)
 by_cases ht:turns sl cr i
 · -- it turns the heap
   have hki:xKind oi.op=2:=by obtain ⟨o,ho,h,_⟩:=ht; rw [hoi,Option.some.injEq] at ho; subst ho; exact h
   obtain ⟨hpi,hno,U'⟩:=upTo_turn T R ht U;obtain ⟨S1,h1,h1n,h2,h3,h4,h5⟩:=T.det i oi hoi hc;have hnxi:(SXX sl cr n0 ob St L).nx=(St i).nx:=by rw [hnx,(heap_same T hpi (Nat.le_of_lt hil) hno).1]
   have hs:=sub i hpi (Nat.le_of_lt hil) hno;have hmv:=h1.move (S':=⟨(SXX sl cr n0 ob St L).σ,hid (Hd anc cr n0 i) (St i).h,(SXX sl cr n0 ob St L).nx⟩) rfl hnxi hlook hk;have hσ:=sX_end (St:=St) hap R hoi (S1:=S1) (hs:=hid (Hd anc cr n0 i) (St i).h) (nx:=(SXX sl cr n0 ob St L).nx) λd _=>by rw [h2]
   refine ⟨_,_,hmv,hs,hσ,?_,λr=>?_,?_,λhe hcall=>⟨λd hd=>?_,(h5 he hcall).2⟩⟩
   . show S1.nx=_;rw [h3];exact (congrArg Prod.snd (hX_end T U')).symm
   . show HP sl cr n0 ob St (addL L i) r=none\/HP sl cr n0 ob St (addL L i) r=(open Classical in if hid (Hd anc cr n0 i) (St i).h r=none/\HP sl cr n0 ob St L r≠none then HP sl cr n0 ob St L r else S1.h r);by_cases hex:∃ A,r=n0+A/\cr A=true
     . obtain ⟨A,rfl,hA⟩:=hex;have hAi:A≠i:=λe=>by rw [e,hc] at hA; cases hA
       have haL:addL L i A=L A:=by simp [addL,hAi]
       rw [HP_name T U' hA,haL];cases hLA:L A with
       | false=>exact .inl (by simp)
       | true=>
        simp only [if_true];by_cases hlt:i+1<=A
        . rw [if_pos hlt];right;have e1:hid (Hd anc cr n0 i) (St i).h (n0+A)=none:=by
           have:Hd anc cr n0 i (n0+A):=⟨A,rfl,hA,by
            cases h:(anc.getD i 0).testBit A with
            | false=>rfl
            | true=>have:=less A i (cr_lt T hA) hil h; omega⟩
           simp only [hid,if_pos this]
          have e2:HP sl cr n0 ob St L (n0+A)=some (ob A):=by rw [HP_name T U hA,if_pos hLA,if_pos (by omega)]
          rw [e1,e2]; simp
        . rw [if_neg hlt];have e3:(St i).h (n0+A)=HP sl cr n0 ob St L (n0+A):=heap_q T U hpi (Nat.le_of_lt hil) hno λB hB _=>by
           have:B=A:=by omega
           rw [this]; exact ⟨hLA,by omega⟩
          rw [h4];by_cases hh:Hd anc cr n0 i (n0+A)
          . simp only [shw,hid,if_pos hh,e3];by_cases hn:HP sl cr n0 ob St L (n0+A)=none
            . exact .inl hn
            . right; rw [if_pos ⟨trivial,hn⟩]
          . simp only [shw,hid,if_neg hh,e3];right;rw [if_neg (λh=>h.2 h.1)]
     . rw [HP_other T U' hex,h4];have hh:¬ Hd anc cr n0 i r:=λ⟨A,hA,hcA,_⟩=>hex ⟨A,hA,hcA⟩;have e3:(St i).h r=HP sl cr n0 ob St L r:=heap_q T U hpi (Nat.le_of_lt hil) hno λB hB hcB=>absurd ⟨B,hB,hcB⟩ hex;simp only [shw,hid,if_neg hh,e3];right;rw [if_neg (λh=>h.2 h.1)]
   . simp only [outS];cases oi.dst with
     | none=>rfl
     | some d=>simp only [upd_same]
   . have:=(h5 he hcall).1 d hd
     rwa [show ∀ S:ZS,(outS oi.dst S S1).σ d=S1.σ d from λS=>by simp [outS,hd]]
 . have hkn:xKind oi.op≠2:=λe=>ht ⟨oi,hoi,e,hc⟩;have hncall:isCallO oi.op=true->False:=λh=>by
    cases hop:oi.op with
    | o so=>
     rw [hop] at h hkn;cases so
     case call f as=>exact hkn rfl
     all_goals cases h
    | n x=>rw [hop] at h; cases h
    | pan x=>rw [hop] at h; cases h
    | bad=>rw [hop] at h; cases h
   have U':=upTo_calm ht U;have hHP:∀ r,HP sl cr n0 ob St (addL L i) r=HP sl cr n0 ob St L r:=λr=>by
    by_cases hex:∃ A,r=n0+A/\cr A=true
    . obtain ⟨A,rfl,hA⟩:=hex;have hAi:A≠i:=λe=>by rw [e,hc] at hA; cases hA
      rw [HP_name T U' hA,HP_name T U hA,show addL L i A=L A by simp [addL,hAi]]
    . rw [HP_other T U' hex,HP_other T U hex]
   have hnx':(SXX sl cr n0 ob St (addL L i)).nx=(SXX sl cr n0 ob St L).nx:=by rw [hnx]; exact congrArg Prod.snd (hX_end T U')
   have fin:∀ (T':ZS) (hs:Nat->Option ZO),XOpZ P oi (· =T') ⟨(SXX sl cr n0 ob St L).σ,hs,(SXX sl cr n0 ob St L).nx⟩->(∀ r,hs r=none\/hs r=(SXX sl cr n0 ob St L).h r)->T'.h=hs->T'.nx=(SXX sl cr n0 ob St L).nx->
    T'.σ=(SXX sl cr n0 ob St (addL L i)).σ->T'.σ=(outS oi.dst ⟨(SXX sl cr n0 ob St L).σ,hs,(SXX sl cr n0 ob St L).nx⟩ T').σ->
    ∃ S1 hs,XOpZ P oi (· =S1) ⟨(SXX sl cr n0 ob St L).σ,hs,(SXX sl cr n0 ob St L).nx⟩/\(∀ r,hs r=none\/hs r=(SXX sl cr n0 ob St L).h r)/\
    S1.σ=(SXX sl cr n0 ob St (addL L i)).σ/\S1.nx=(SXX sl cr n0 ob St (addL L i)).nx/\
    (∀ r,(SXX sl cr n0 ob St (addL L i)).h r=none\/(SXX sl cr n0 ob St (addL L i)).h r=(open Classical in if hs r=none/\(SXX sl cr n0 ob St L).h r≠none then (SXX sl cr n0 ob St L).h r else S1.h r))/\
    S1.σ=(outS oi.dst ⟨(SXX sl cr n0 ob St L).σ,hs,(SXX sl cr n0 ob St L).nx⟩ S1).σ/\
    ((∃ j,cr j=true)->isCallO oi.op=true->(∀ d,oi.dst=some d->Z.okR (λr=>¬ Hd anc cr n0 i r) (S1.σ d))/\∀ r x,S1.h r=some x->hs r=some x\/x.okR (λr=>¬ Hd anc cr n0 i r)):=λT' hs b1 b2 b3 b4 b5 b6=>by
    refine ⟨T',hs,b1,b2,b5,b4.trans hnx'.symm,λr=>?_,b6,λ_ h=>(hncall h).elim⟩;show HP sl cr n0 ob St (addL L i) r=none\/HP sl cr n0 ob St (addL L i) r=(open Classical in if hs r=none/\HP sl cr n0 ob St L r≠none then HP sl cr n0 ob St L r else T'.h r);have b2:hs r=none\/hs r=HP sl cr n0 ob St L r:=b2 r;rw [hHP,b3];by_cases hn:hs r=none
    . by_cases hn':HP sl cr n0 ob St L r=none
      . exact .inl hn'
      . right; rw [if_pos ⟨hn,hn'⟩]
    . right; rw [if_neg (λh=>hn h.1)]; exact (b2.resolve_left hn).symm
   have out2:∀ (T':ZS) (S S':ZS),S.σ=S'.σ->(outS oi.dst S T').σ=(outS oi.dst S' (outS oi.dst S T')).σ:=λT' S S' e=>by
    simp only [outS];cases oi.dst with
    | none=>exact e
    | some d=>simp only [upd_same,e]
   rcases Nat.lt_or_ge 0 (xKind oi.op) with h1 | h0
   · -- it reads the heap
     have hk1:xKind oi.op=1:=by omega
     have rd:∀ q (T':ZS),p<=q->q<=sl.length->(∀ j,p<=j->j<q->¬ turns sl cr j)->XOpZ P oi (· =T') ⟨(St i).σ,hid (Hd anc cr n0 i) (St q).h,(St q).nx⟩->(∀ d,oi.dst=some d->T'.σ d=(St (i+1)).σ d)->_:=λq T' h1 h2 h3 hT hv=>by
      have hnq:(SXX sl cr n0 ob St L).nx=(St q).nx:=by rw [hnx,(heap_same T h1 h2 h3).1]
      have hst:=hT.still (by omega);have hmv:=hT.move (S':=⟨(SXX sl cr n0 ob St L).σ,hid (Hd anc cr n0 i) (St q).h,(SXX sl cr n0 ob St L).nx⟩) rfl hnq hlook hk;exact fin _ _ hmv (sub q h1 h2 h3) hst.1 (hst.2.trans hnq.symm) (sX_end (St:=St) hap R hoi hv) (out2 _ _ _ rfl)
     rcases Nat.lt_or_ge i p with hip | hpi
     · -- one that turns the heap has been carried out ahead of it, though it stands behind it
       rcases U.d with rfl | ⟨q,rfl,hqt,hLq⟩
       . omega
       . have hqi:i<q:=by
          rcases Nat.lt_trichotomy q i with h | h | h
          . omega
          . subst h; rw [R.not] at hLq; cases hLq
          . exact h
         have hql:=turns_lt hqt;have hu:(anc.getD q 0).testBit i=false:=by
          cases h:(anc.getD q 0).testBit i with
          | false=>rfl
          | true=>have:=R.down i q R.lt hql hLq h; rw [R.not] at this; cases this
         obtain ⟨oq,hoq,hkq,hcq⟩:=hqt;obtain ⟨T',d',a1,a2,a3⟩:=T.later i q oi oq hoi hoq hk1 hkq hcq hqi hu;exact rd (q+1) T' (Nat.le_refl _) (by omega) (λj h1 h2=>by omega) a1 λd hd=>by rw [a2,Option.some.injEq] at hd; subst hd; exact a3
     . rcases first_turn (sl:=sl) (cr:=cr) p i hpi with hno | ⟨j,b1,b2,b3,b4⟩
       . obtain ⟨S1,c1,_,c2,c3,c4,_⟩:=T.det i oi hoi hc;exact rd i S1 hpi (Nat.le_of_lt hil) hno c1 λd _=>by rw [c2]
       . have hjl:j<sl.length:=turns_lt b3;have hf:=U.h2 j b1 b3;have hu:(anc.getD i 0).testBit j=false:=by
          cases h:(anc.getD i 0).testBit j with
          | false=>rfl
          | true=>have:=R.up j hjl h; rw [hf] at this; cases this
         obtain ⟨oj,hoj,hkj,hcj⟩:=b3;obtain ⟨T',d',a1,a2,a3⟩:=T.before i j oi oj hoi hoj hk1 hkj hcj b2 hu;exact rd j T' b1 (Nat.le_of_lt hjl) b4 a1 λd hd=>by rw [a2,Option.some.injEq] at hd; subst hd; exact a3
   . obtain ⟨S1,c1,_,c2,c3,c4,_⟩:=T.det i oi hoi hc;have hp:=c1.pureK (S':=⟨(SXX sl cr n0 ob St L).σ,(SXX sl cr n0 ob St L).h,(SXX sl cr n0 ob St L).nx⟩) hlook (by omega);refine fin _ _ hp (λr=>.inr rfl) rfl rfl ?_ (out2 _ _ _ rfl);exact sX_end (St:=St) hap R hoi λd _=>by show S1.σ d=_; rw [c2]
end
end Go.Zw
namespace Go.Zw
open Go.RowKit (Below)
open Go.Vw (Nul V SX SO SRes width ancOk ordOk Closed anc_edge ord_edge anc_listed ready_lt getD_set)

section
variable {P:Program} {n:Nat} {ro:Option Nat} {m:Nat} {ops:Array Oper} {sl:List XOp} {anc:List Nat} {cr:Nat->Bool} {n0:Nat} {ob:Nat->ZO} {St:Nat->ZS}

theorem xslimL_get:∀ {l:List Oper} {sl:List XOp},xslimL P n ops l=some sl->sl.length=l.length/\∀ (j:Nat) (so:XOp),sl[j]? =some so->∃ o,l[j]? =some o/\xslim1 P n ops o=some so
 | [],sl,h=>by simp only [xslimL,Option.some.injEq] at h; subst h; exact ⟨rfl,by simp⟩
 | o::rest,sl,h=>by
  simp only [xslimL] at h;split at h
  . rename_i so r ho hr;simp only [Option.some.injEq] at h; subst h;obtain ⟨h1,h2⟩:=xslimL_get hr;refine ⟨by simp [h1],λj so' hj=>?_⟩;cases j with
    | zero=>simp at hj; subst hj; exact ⟨o,by simp,ho⟩
    | succ j=>simpa using h2 j so' (by simpa using hj)
  . cases h

theorem all_listed (ho:ordOk ops.toList=true) {listed:Array Bool} (hs:listed.size=ops.size) (hr:Region.ready .any ops listed=[]):∀ j,j<ops.size->listed.getD j false=true:=by
 intro j;induction j using Nat.strongRecOn with
 | _ j ih=>
  intro hj;cases hl:listed.getD j false with
  | true=>rfl
  | false=>
   exfalso;have hjo:ops[j]? =some ops[j]:=by simp [hj]
   have:j∈Region.ready .any ops listed:=by
    rw [mem_ready];refine ⟨?_,ops[j],hjo,λe he hb=>?_⟩
    . have hlt:j<listed.size:=by omega
      simp [Array.getD,hlt] at hl ⊢;exact hl
    . have hlt:=ord_edge ho hjo he hb;exact ih e.on hlt (by omega)
   rw [hr] at this; cases this

theorem rdy_of (hlen:sl.length=ops.size) (ha:ancOk ops.toList anc=true) (ho:ordOk ops.toList=true) {listed:Array Bool} (hs:listed.size=ops.size) (hc:Closed ops listed) {i:Nat} (hi:i∈Region.ready .any ops listed):Rdy ops sl anc (λj=>listed.getD j false) i:=
 ⟨ready_not hi hs,by rw [hlen]; exact ready_lt hi,λj hj h=>ready_anc ha ho hc hi (by omega) h,λj k hj hk hl h=>anc_listed ha ho hc (by omega) k (by omega) hl h,λj k hj hk h=>anc_lt ha ho (by omega) k (by omega) h⟩

/-- Nothing names what is not made yet. -/
def NM (sl:List XOp) (cr:Nat->Bool) (n0:Nat) (ob:Nat->ZO) (St:Nat->ZS) (L:Nat->Bool):Prop:=
 ∀ A,cr A=true->L A=false->(∀ t,Z.okR (λr=>r≠n0+A) ((SXX sl cr n0 ob St L).σ t))/\OkH (λr=>r≠n0+A) (SXX sl cr n0 ob St L).h

theorem nx_mono (T:TraceOK P sl anc cr n0 ob St):∀ i,i<=sl.length->(St 0).nx<=(St i).nx
 | 0,_=>Nat.le_refl _
 | i+1,hi=>by
  refine Nat.le_trans (nx_mono T i (by omega)) ?_;cases hc:cr i with
  | true=>obtain ⟨o,z,d,_,_,_,_,e⟩:=T.cre i hc; rw [e]; exact Nat.le_refl _
  | false=>
   obtain ⟨o,ho⟩:=get_sl (show i<sl.length by omega);obtain ⟨S1,_,h1,_,h2,_⟩:=T.det i o ho hc;omega
theorem name_lt (T:TraceOK P sl anc cr n0 ob St) {L:Nat->Bool} {p A:Nat} (U:UpTo sl cr L p) (hA:cr A=true):n0+A<(SXX sl cr n0 ob St L).nx:=by
 have h1:(SXX sl cr n0 ob St L).nx=(St p).nx:=congrArg Prod.snd (hX_end T U);have:=nx_mono T p U.le;have:=(T.free A hA).2;omega

theorem nm_step (T:TraceOK P sl anc cr n0 ob St) {L:Nat->Bool} {i p:Nat} (R:Rdy ops sl anc L i) (U:UpTo sl cr L p) {oi:XOp} (hk:xKind oi.op<=2) {S1:ZS} {hs:Nat->Option ZO} (h1:XOpZ P oi (· =S1) ⟨(SXX sl cr n0 ob St L).σ,hs,(SXX sl cr n0 ob St L).nx⟩)
 (h2:∀ r,hs r=none\/hs r=(SXX sl cr n0 ob St L).h r) (h3:S1.σ=(SXX sl cr n0 ob St (addL L i)).σ)
 (h5:∀ r,(SXX sl cr n0 ob St (addL L i)).h r=none\/(SXX sl cr n0 ob St (addL L i)).h r=(open Classical in if hs r=none/\(SXX sl cr n0 ob St L).h r≠none then (SXX sl cr n0 ob St L).h r else S1.h r))
 (h6:S1.σ=(outS oi.dst ⟨(SXX sl cr n0 ob St L).σ,hs,(SXX sl cr n0 ob St L).nx⟩ S1).σ)
 (h7:(∃ j,cr j=true)->isCallO oi.op=true->(∀ d,oi.dst=some d->Z.okR (λr=>¬ Hd anc cr n0 i r) (S1.σ d))/\∀ r x,S1.h r=some x->hs r=some x\/x.okR (λr=>¬ Hd anc cr n0 i r))
 (hM:NM sl cr n0 ob St L):NM sl cr n0 ob St (addL L i):=by
 classical
 intro A hA hLA;have hAi:A≠i:=λe=>by simp [addL,e] at hLA
 have hL:L A=false:=by simpa [addL,hAi] using hLA
 obtain ⟨m1,m2⟩:=hM A hA hL;have hq:∀ r,¬ Hd anc cr n0 i r->r≠n0+A:=λr hr e=>hr ⟨A,e,hA,by
  cases h:(anc.getD i 0).testBit A with
  | false=>rfl
  | true=>have:=R.up A (cr_lt T hA) h; rw [hL] at this; cases this⟩
 have hsok:OkH (λr=>r≠n0+A) hs:=λr o ho=>by
  rcases h2 r with e | e
  . rw [e] at ho; cases ho
  . exact m2 r o (by rw [<- e]; exact ho)
 obtain ⟨k1,k2⟩:=xop_okR (p:=λr=>r≠n0+A) h1 hk (λhc=>by
  obtain ⟨a,b⟩:=h7 ⟨A,hA⟩ hc;exact ⟨λd hd=>okR_mono hq _ (a d hd),λr x hx=>(b r x hx).imp id (ZO.okR_mono hq)⟩) h6 (by have:=name_lt T U hA; show (SXX sl cr n0 ob St L).nx≠_; omega) m1 hsok
 refine ⟨λt=>by rw [<- h3]; exact k1 t,λr o ho=>?_⟩;rcases h5 r with e | e
 . rw [e] at ho; cases ho
 . rw [e] at ho;split at ho
   . exact m2 r o ho
   . exact k2 r o ho

/-- What makes an object under a kept name. -/
theorem cre_step (T:TraceOK P sl anc cr n0 ob St) (hap:apAllX sl anc=true) {L:Nat->Bool} {i p:Nat} (R:Rdy ops sl anc L i) (U:UpTo sl cr L p) (hc:cr i=true) {o:Oper} {oi:XOp} (hoi:sl[i]? =some oi) (hi:ops[i]? =some o) (hs1:xslim1 P n ops o=some oi)
 {w0:Bs} (hN:w0.N<=n0) (hM:NM sl cr n0 ob St L) {a:Act} {w:World} (hR:RelSt w0 n (SXX sl cr n0 ob St L) a w) {K':Act->World->Prop} {Q:Exit->Act->World->Prop}
 (hk:NM sl cr n0 ob St (addL L i)->∀ a' w',RelSt w0 n (SXX sl cr n0 ob St (addL L i)) a' w'->K' a' w'):wpOpIn (Fx ro) m P ops Q i K' a w:=by
 obtain ⟨o',z,d,h1,h2,h3,h4,h5⟩:=T.cre i hc;rw [hoi,Option.some.injEq] at h1; subst h1;have hlook:∀ t∈oi.looks,(SXX sl cr n0 ob St L).σ t=(St i).σ t:=λt ht=>by
  have:=sX_looks T hap R hoi ht sl.length (Nat.le_refl _);rw [Nat.min_eq_left (Nat.le_of_lt R.lt)] at this;exact this
 have hev:∀ x∈oi.op.opds,(SXX sl cr n0 ob St L).ev x=(St i).ev x:=ev_agree λt ht=>hlook t (looks_op ht);have hg:oi.guard=none:=by
  cases h:oi.guard with
  | none=>rfl
  | some g=>simp [isCre,h] at h2
 have hco:isCreO oi.op=true:=by simp only [isCre,Bool.and_eq_true] at h2; exact h2.2
 have h3':creZ (SXX sl cr n0 ob St L).ev (n0+i) oi.op=some (z,.new (ob i)):=by
  rw [<- h3];cases hop:oi.op with
  | o so=>rw [hop] at hev; simp only [creZ]; exact zop_congr hev
  | n x=>rw [hop] at hev; simp only [creZ]; exact nop1_congr hev
  | pan x=>rfl
  | bad=>rfl
 obtain ⟨f,x,hf,hz,hx,hcore⟩:=cre_form hco h3';have hx:ob i=x:=by cases hx; rfl
 subst hx;have hncall:isCallO oi.op=false:=by
  cases hop:oi.op with
  | o so=>rw [hop] at hco; cases so<;>first | rfl | cases hco
  | n x=>rfl
  | pan x=>rfl
  | bad=>rfl
 have hkind:=T.kind i oi hoi;obtain ⟨H,hfull,hnx⟩:∃ H:Nat->Option ZO,H=(SXX sl cr n0 ob St L).h/\(SXX sl cr n0 ob St L).nx=(SXX sl cr n0 ob St L).nx:=⟨_,rfl,rfl⟩;have hXO:XOpZ P oi (· =((SXX sl cr n0 ob St L).app (.new (ob i))).put oi.dst (f (SXX sl cr n0 ob St L).nx)) (SXX sl cr n0 ob St L):=by
  unfold XOpZ;rw [hg];exact core_mk hkind (hcore _ _) hncall
 have hq:=name_lt T U hc;obtain ⟨mi1,mi2⟩:=hM i hc R.not;obtain ⟨μ,HH,rel⟩:=hR.ex;have U':=upTo_calm (L:=L) (i:=i) (λ⟨_,_,_,h⟩=>by rw [hc] at h; cases h) U;have hobA:∀ (p:Nat->Prop) (q:Nat),p q->(∀ t,Z.okR p ((SXX sl cr n0 ob St L).σ t))->(ob i).okR p:=λp q hpq hs=>by
  have:=(coreZ_okR (p:=p) hpq (h:=λ_=>none) (λr o h=>by cases h) (λx _=>ev_okR hs x) (hcore (λ_=>none) q)).2;exact this
 have hHP:HP sl cr n0 ob St (addL L i)=upd (HP sl cr n0 ob St L) (n0+i) (some (ob i)):=by
  funext r;simp only [upd_apply];by_cases e:r=n0+i
  . subst e;rw [if_pos rfl,HP_name T U' hc,if_pos (by simp [addL])];by_cases hpi:p<=i
    . rw [if_pos hpi]
    . rw [if_neg hpi];refine kept T hc p (by omega) U.le λj h1 h2 hj=>?_;cases h:(anc.getD j 0).testBit i with
      | false=>rfl
      | true=>have:=R.down i j R.lt (turns_lt hj) (U.h1 j h2 hj) h; rw [R.not] at this; cases this
  . rw [if_neg e];by_cases hex:∃ A,r=n0+A/\cr A=true
    . obtain ⟨A,rfl,hA⟩:=hex;have hAi:A≠i:=λh=>e (by rw [h]);rw [HP_name T U' hA,HP_name T U hA,show addL L i A=L A by simp [addL,hAi]]
    . rw [HP_other T U' hex,HP_other T U hex]
 have hσ:(SXX sl cr n0 ob St (addL L i)).σ=upd (SXX sl cr n0 ob St L).σ d (f (n0+i)):=by
  have:=sX_add (St:=St) hoi hap R sl.length (Nat.le_refl _);rw [if_neg (by have:=R.lt; omega),h4] at this;show sX sl St (addL L i) sl.length=_;rw [this];show upd (sX sl St L sl.length) d ((St (i+1)).σ d)=upd (sX sl St L sl.length) d (f (n0+i));rw [h5,hz]; simp only [upd_same]
 have hnx':(SXX sl cr n0 ob St (addL L i)).nx=(SXX sl cr n0 ob St L).nx:=by
  have e1:(SXX sl cr n0 ob St (addL L i)).nx=(St p).nx:=congrArg Prod.snd (hX_end T U');have e2:(SXX sl cr n0 ob St L).nx=(St p).nx:=congrArg Prod.snd (hX_end T U);rw [e1,e2]
 have hM':NM sl cr n0 ob St (addL L i):=by
  intro A hA hLA;have hAi:A≠i:=λe=>by simp [addL,e] at hLA
  have hL:L A=false:=by simpa [addL,hAi] using hLA
  obtain ⟨m1,m2⟩:=hM A hA hL;refine ⟨λt=>?_,λr o ho=>?_⟩
  . rw [hσ];simp only [upd_apply];split
    . exact hf.okR (by omega)
    . exact m1 t
  . have ho:HP sl cr n0 ob St (addL L i) r=some o:=ho;rw [hHP] at ho;simp only [upd_apply] at ho;split at ho
    . cases ho;exact hobA _ (n0+i) (by omega) m1
    . exact m2 r o ho
 refine xop_region hi hs1 hXO hR ?_;rintro S' a' w' rfl hR';refine hk hM' a' w' ?_;have e:SXX sl cr n0 ob St (addL L i)=⟨upd (SXX sl cr n0 ob St L).σ d (f (n0+i)),upd (SXX sl cr n0 ob St L).h (n0+i) (some (ob i)),(SXX sl cr n0 ob St L).nx⟩:=by
  rw [<- hσ,<-hnx'];show (⟨_,HP sl cr n0 ob St (addL L i),_⟩:ZS)=_;rw [hHP]; rfl
 rw [e];rw [h4] at hR';refine RelSt.name (d:=d) (f:=f) hR' hf hq (by omega) ?_ (λt=>okR_and (rel t).okR (mi1 t)) (λr o ho=>⟨(HH.obj r o ho).1,okO_and (HH.obj r o ho).2.2.okR (mi2 r o ho)⟩) ?_
 . show HP sl cr n0 ob St L (n0+i)=none;rw [HP_name T U hc,if_neg (by rw [R.not]; simp)]
 . have a1:=hobA (λr=>(r<(SXX sl cr n0 ob St L).nx/\r≠n0+i)\/r=(SXX sl cr n0 ob St L).nx) _ (.inr rfl) λt=>okR_mono (λr h=>.inl h) _ (okR_and (rel t).okR (mi1 t));have a2:=hobA (λr=>(r<(SXX sl cr n0 ob St L).nx/\r≠n0+i)\/r=(SXX sl cr n0 ob St L).nx+1) _ (.inr rfl) λt=>okR_mono (λr h=>.inl h) _ (okR_and (rel t).okR (mi1 t));exact ZO.okR_mono (λr h=>by rcases h with ⟨h1 | h1,h2 | h2⟩<;>first | assumption | omega) (okO_and a1 a2)

/-- All that is listed. -/
theorem SXX_all (T:TraceOK P sl anc cr n0 ob St) {L:Nat->Bool} (hL:∀ j,j<sl.length->L j=true):SXX sl cr n0 ob St L=St sl.length:=by
 have h1:∀ j,j<=sl.length->sX sl St L j=(St j).σ:=by
  intro j;induction j with
  | zero=>intro _; rfl
  | succ j ih=>
   intro hj;obtain ⟨o,ho⟩:=get_sl (show j<sl.length by omega);simp only [sX,hL j (by omega),if_true,ho,Option.bind_some,ih (by omega)];rw [T.form j o ho];simp only [outS];cases o.dst with
   | none=>rfl
   | some d=>simp only [upd_same]
 obtain ⟨p,U⟩:=listed_to T (L:=L) λj k hj hk _ _=>hL j hj;have hno:∀ j,p<=j->j<sl.length->¬ turns sl cr j:=λj a b ht=>by
  have:=U.h2 j a ht;rw [hL j b] at this; cases this
 have h2:HP sl cr n0 ob St L=(St sl.length).h:=by
  funext r;exact (heap_q T U U.le (Nat.le_refl _) hno λA _ hA=>⟨hL A (cr_lt T hA),cr_lt T hA⟩).symm
 have h3:(hX sl cr St L sl.length).2=(St sl.length).nx:=by
  have e1:(hX sl cr St L sl.length).2=(St p).nx:=congrArg Prod.snd (hX_end T U);rw [e1,(heap_same T U.le (Nat.le_refl _) hno).1]
 simp only [SXX,h1 sl.length (Nat.le_refl _),h2,h3]

theorem any_ok (hsl:xslimL P n ops ops.toList=some sl) (ha:ancOk ops.toList anc=true) (ho:ordOk ops.toList=true) (hap:apAllX sl anc=true) (T:TraceOK P sl anc cr n0 ob St) {w0:Bs} (hN:(∃ j,cr j=true)->w0.N<=n0) {Q':Exit->Act->World->Prop}
 (hQ:∀ a' w',RelSt w0 n (St sl.length) a' w'->Q' .normal a' w'):∀ (f:Nat) (listed:Array Bool) (a:Act) (w:World),listed.size=ops.size->Closed ops listed->((List.range ops.size).filter λj=> !listed.getD j false).length<=f->
  RelSt w0 n (SXX sl cr n0 ob St λj=>listed.getD j false) a w->NM sl cr n0 ob St (λj=>listed.getD j false)->wpAnyIn (Fx ro) m P .any ops Q' f listed a w:=by
 obtain ⟨hlen',hget⟩:=xslimL_get hsl;have hlen:sl.length=ops.size:=by simpa using hlen'
 have fin:∀ (listed:Array Bool) (a:Act) (w:World),(∀ j,j<ops.size->listed.getD j false=true)->RelSt w0 n (SXX sl cr n0 ob St λj=>listed.getD j false) a w->Q' .normal a w:=λlisted a w hall hR=>by
  rw [SXX_all T (λj hj=>hall j (by omega))] at hR;exact hQ a w hR
 intro f;induction f with
 | zero=>
  intro listed a w hs hc hf hR hM;have hall:∀ j,j<ops.size->listed.getD j false=true:=λj hj=>by
   have h0:(List.range ops.size).filter (λj=> !listed.getD j false)=[]:=List.length_eq_zero_iff.1 (Nat.le_zero.1 hf);rw [List.filter_eq_nil_iff] at h0;have:=h0 j (List.mem_range.2 hj)
   simpa [-Array.getD_eq_getD_getElem?] using this
  refine ⟨?_,fin listed a w hall hR⟩;cases hr:Region.ready .any ops listed with
  | nil=>rfl
  | cons i rest=>
   exfalso;have hi:i∈Region.ready .any ops listed:=by rw [hr]; simp
   have:=hall i (ready_lt hi);rw [ready_not hi hs] at this; cases this
 | succ f ih=>
  intro listed a w hs hc hf hR hM;refine ⟨λhr=>fin listed a w (all_listed ho hs hr) hR,λi hi=>?_⟩;have R:=rdy_of hlen ha ho hs hc hi;obtain ⟨oi,hoi⟩:∃ oi,sl[i]? =some oi:=⟨sl[i]'R.lt,by simp [R.lt]⟩;obtain ⟨o,hoo,hs1⟩:=hget i oi hoi;have hoo':ops[i]? =some o:=by simpa using hoo
  have e:(λj=>(listed.setIfInBounds i true).getD j false)=addL (λj=>listed.getD j false) i:=by
   funext j;rw [getD_set];simp only [addL];by_cases h:j=i
   . rw [if_pos ⟨h,by rw [hs]; exact ready_lt hi⟩,if_pos h]
   . rw [if_neg (λh'=>h h'.1),if_neg h]
  have go:∀ a' w',RelSt w0 n (SXX sl cr n0 ob St (addL (λj=>listed.getD j false) i)) a' w'->NM sl cr n0 ob St (addL (λj=>listed.getD j false) i)->wpAnyIn (Fx ro) m P .any ops Q' f (listed.setIfInBounds i true) a' w':=λa' w' hR' hM'=>by
   refine ih _ a' w' (by simpa using hs) (hc.set hi) ?_ (by rw [e]; exact hR') (by rw [e]; exact hM');have hsub:((List.range ops.size).filter λj=> !(listed.setIfInBounds i true).getD j false)=(((List.range ops.size).filter λj=> !listed.getD j false).filter λj=> !decide (j=i)):=by
    rw [List.filter_filter];congr 1;funext j;have he:(listed.setIfInBounds i true).getD j false=addL (λj=>listed.getD j false) i j:=congrFun e j;rw [he];simp only [addL];by_cases h:j=i
    . simp [h]
    . simp [h]
   rw [hsub];have hmem:i∈(List.range ops.size).filter λj=> !listed.getD j false:=by
    rw [List.mem_filter];refine ⟨List.mem_range.2 (ready_lt hi),?_⟩;rw [ready_not hi hs]; rfl
   have:=(List.length_filter_lt_length_iff_exists (p:=λj=> !decide (j=i)) (l:=(List.range ops.size).filter λj=> !listed.getD j false)).2 ⟨i,hmem,by simp⟩;omega
  obtain ⟨p,U⟩:=listed_to T R.down;cases hcr:cr i with
  | true=>exact cre_step T hap R U hcr hoi hoo' hs1 (hN ⟨i,hcr⟩) hM hR λhM' a' w' hR'=>go a' w' hR' hM'
  | false=>
   obtain ⟨S1,hs',k1,k2,k3,k4,k5,k6,k7⟩:=ready_step T hap R U hoi hcr;have hM':=nm_step T R U (T.kind i oi hoi) k1 k2 k3 k5 k6 k7 hM;refine frame_op hoo' hs1 k1 k2 hR k5 λa' w' hR'=>go a' w' ?_ hM';rw [k3,k4] at hR';exact hR'

theorem WX_regD {Q:Exit->DZ->ZS->Prop} {d:DZ} {S:ZS} {N0:Nat} (hS:St 0=⟨S.σ,S.h,N0⟩) (hN0:S.nx<=N0) (hn0:(∃ j,cr j=true)->S.nx<=n0) (T:apAllX sl anc=true->TraceOK P sl anc cr n0 ob St/\Q .normal d (St sl.length)):WX P ro n (.regD anc sl) Q d S:=by
 intro m c hc w00 a w hR;obtain ⟨w0,E,hR⟩:=hR;cases c<;>simp only [xslimCode,reduceCtorEq,Option.map_eq_some_iff,and_false,exists_false,Option.some.injEq] at hc<;>(try (revert hc; (repeat' split)<;>simp; done));rename_i id os draw;cases hdf:dfrOf P os.toList with
 | some x=>cases draw<;>simp [hdf] at hc
 | none=>
  cases draw with
  | false=>
   simp only [hdf] at hc;split at hc<;>simp at hc
  | true=>
  simp only [hdf] at hc;split at hc
  . rename_i l hl;simp only [if_true] at hc;split at hc
    . rename_i hcond;simp only [Option.some.injEq,XC.regD.injEq] at hc;obtain ⟨hanc,rfl⟩:=hc;simp only [Bool.and_eq_true] at hcond;obtain ⟨⟨⟨ha,ho⟩,hap⟩,hm⟩:=hcond;rw [hanc] at ha hap;obtain ⟨T,hQ⟩:=T hap;refine wpIn_region_any hm ?_;have hR':RelSt w0 n S a { w with drawn:=w.drawn+1 }:=by
       obtain ⟨μ,H,rel⟩:=hR.ex;have hb:Below w.heap.size w { w with drawn:=w.drawn+1 }:=⟨rfl,rfl,rfl,Nat.le_refl _,λ_ _=>rfl⟩;exact ⟨⟨μ,H.grow λ_ _=>rfl,rel⟩,hR.below.grow hb,hR.size,hR.defers⟩
      have e0:(λj=>(Array.replicate os.size false).getD j false)=λ_=>false:=by
       funext j;simp [Array.getD,Array.size_replicate]
      obtain ⟨μ,H,rel⟩:=hR'.ex;have hR2:RelSt w0 n (St 0) a { w with drawn:=w.drawn+1 }:=by
       rw [hS];refine ⟨⟨μ,⟨λr o hr=>?_,H.inj,Nat.le_trans H.base.1 hN0,H.base.2⟩,λt=>(rel t).mono hN0 λ_ _=>rfl⟩,hR'.below,hR'.size,hR'.defers⟩;obtain ⟨a1,a2,a3⟩:=H.obj r o hr;exact ⟨Nat.lt_of_lt_of_le a1 hN0,a2,a3.keep hN0 (λ_ _=>rfl) rfl⟩
      have U0:UpTo l cr (λ_=>false) 0:=⟨Nat.zero_le _,λj h=>absurd h (Nat.not_lt_zero _),λ_ _ _=>rfl,.inl rfl⟩;have hSX:SXX l cr n0 ob St (λ_=>false)=St 0:=by
       have hs:∀ j,sX l St (λ_=>false) j=(St 0).σ:=by
        intro j; induction j with
        | zero=>rfl
        | succ j ih=>simp only [sX,Bool.false_eq_true,if_false,ih]
       have hh:HP l cr n0 ob St (λ_=>false)=(St 0).h:=by
        funext r;by_cases hex:∃ A,r=n0+A/\cr A=true
        . obtain ⟨A,rfl,hA⟩:=hex;rw [HP_name T U0 hA,(T.free A hA).1]; simp
        . exact HP_other T U0 hex
       have hn:(hX l cr St (λ_=>false) l.length).2=(St 0).nx:=congrArg Prod.snd (hX_end T U0);simp only [SXX,hs,hh,hn]
      have hM0:NM l cr n0 ob St (λ_=>false):=by
       intro A hA _;have hlt:∀ r,r<S.nx->r≠n0+A:=λr h=>by have:=hn0 ⟨A,hA⟩; omega
       rw [hSX,hS];exact ⟨λt=>okR_mono hlt _ (rel t).okR,λr o ho=>ZO.okR_mono hlt (H.obj r o ho).2.2.okR⟩
      refine any_ok hl ha ho hap T (λhe=>Nat.le_trans H.base.1 (hn0 he)) (λa' w' hR''=>⟨_,_,hQ,w0,E,hR''⟩) os.size _ a _ (by simp) (λj hj=>?_) ?_ ?_ ?_
      . have he:(Array.replicate os.size false).getD j false=false:=congrFun e0 j;rw [he] at hj; cases hj
      . exact Nat.le_trans (List.length_filter_le _ _) (by simp)
      . rw [e0,hSX]; exact hR2
      . rw [e0]; exact hM0
    . cases hc
  . cases hc
end
end Go.Zw
namespace Go.Zw
open Go.Vw (Nul V SX SO SRes width)

-- objects hidden, and shown again
theorem mabs_raw {m:Mem} {r:Nat} (hr:r<4096) (o:Option ZO):mabs (mraw r o m)=upd (mabs m) r o:=by
 cases m with
 | mk h nx nb dt=>funext q; simp only [mabs,mraw,mget,upd_apply]; exact hget_put hr o h q
theorem mraw_nx (r:Nat) (o:Option ZO) (m:Mem):(mraw r o m).nx=m.nx:=by cases m; rfl
theorem MOK.raw {h0:Nat->Option ZO} {nb:Nat} {m:Mem} (H:MOK h0 nb m) {r:Nat} (h1:nb<=r) (h2:r<m.nx) (o:Option ZO):MOK h0 nb (mraw r o m):=by
 have ha:=mabs_raw (m:=m) (Nat.lt_of_lt_of_le h2 H.top) o;cases m with
 | mk h nx nb' dt=>
  have h2:r<nx:=h2;refine ⟨H.base,H.le,H.top,λq hq hd=>?_,H.old,λq hq=>?_⟩
  . rw [ha,upd_ne _ _ (by omega)]; exact H.keep q hq hd
  . have hq:nx<=q:=hq;rw [ha,upd_ne _ _ (by omega)]; exact H.free q hq
def InL (n0:Nat) (l:List Nat) (r:Nat):Prop:=∃ j∈l,r=n0+j
theorem inL_cons (n0 a:Nat) (l:List Nat) (r:Nat):InL n0 (a::l) r↔r=n0+a\/InL n0 l r:=
 ⟨λ⟨j,h,hr⟩=>(List.mem_cons.1 h).elim (λe=>.inl (by rw [hr,e])) λh=>.inr ⟨j,h,hr⟩,λh=>h.elim (λe=>⟨a,by simp,e⟩) λ⟨j,h,hr⟩=>⟨j,by simp [h],hr⟩⟩
theorem hid_in {p:Nat->Prop} {h:Nat->Option ZO} {r:Nat} (hp:p r):hid p h r=none:=by simp only [hid,if_pos hp]
theorem hid_out {p:Nat->Prop} {h:Nat->Option ZO} {r:Nat} (hp:¬ p r):hid p h r=h r:=by simp only [hid,if_neg hp]
theorem shw_in {p:Nat->Prop} {h0 h:Nat->Option ZO} {r:Nat} (hp:p r):shw p h0 h r=h0 r:=by simp only [shw,if_pos hp]
theorem shw_out {p:Nat->Prop} {h0 h:Nat->Option ZO} {r:Nat} (hp:¬ p r):shw p h0 h r=h r:=by simp only [shw,if_neg hp]
theorem inL_nil (n0 r:Nat):¬ InL n0 [] r:=λ⟨j,h,_⟩=>by cases h
theorem hideM_cons (n0 a:Nat) (l:List Nat) (m:Mem):hideM n0 (a::l) m=mraw (n0+a) none (hideM n0 l m):=rfl
theorem showM_cons (n0 a:Nat) (l:List Nat) (m0 m:Mem):showM n0 (a::l) m0 m=mraw (n0+a) (mget (n0+a) m0) (showM n0 l m0 m):=rfl
theorem hideM_ok {h0:Nat->Option ZO} {nb n0:Nat} {m:Mem} (H:MOK h0 nb m):∀ l:List Nat,(∀ j∈l,nb<=n0+j/\n0+j<m.nx)->MOK h0 nb (hideM n0 l m)/\(hideM n0 l m).nx=m.nx/\mabs (hideM n0 l m)=hid (InL n0 l) (mabs m)
 | [],_=>⟨H,rfl,by funext r; exact (hid_out (inL_nil n0 r)).symm⟩
 | a::l,hl=>by
  obtain ⟨h1,h2,h3⟩:=hideM_ok H l λj hj=>hl j (by simp [hj]);obtain ⟨a1,a2⟩:=hl a (by simp);have hlt:n0+a<(hideM n0 l m).nx:=by rw [h2]; exact a2
  rw [hideM_cons];refine ⟨h1.raw a1 hlt _,by rw [mraw_nx,h2],?_⟩;rw [mabs_raw (Nat.lt_of_lt_of_le a2 H.top),h3];funext r;rw [upd_apply];by_cases e:r=n0+a
  . rw [if_pos e,hid_in ((inL_cons n0 a l r).2 (.inl e))]
  . rw [if_neg e];by_cases h:InL n0 l r
    . rw [hid_in h,hid_in ((inL_cons n0 a l r).2 (.inr h))]
    . rw [hid_out h,hid_out λh'=>((inL_cons n0 a l r).1 h').elim e h]
theorem showM_ok {h0:Nat->Option ZO} {nb n0:Nat} {m0 m:Mem} (H:MOK h0 nb m):∀ l:List Nat,(∀ j∈l,nb<=n0+j/\n0+j<m.nx)->MOK h0 nb (showM n0 l m0 m)/\(showM n0 l m0 m).nx=m.nx/\mabs (showM n0 l m0 m)=shw (InL n0 l) (mabs m0) (mabs m)
 | [],_=>⟨H,rfl,by funext r; exact (shw_out (inL_nil n0 r)).symm⟩
 | a::l,hl=>by
  obtain ⟨h1,h2,h3⟩:=showM_ok H l λj hj=>hl j (by simp [hj]);obtain ⟨a1,a2⟩:=hl a (by simp);have hlt:n0+a<(showM n0 l m0 m).nx:=by rw [h2]; exact a2
  rw [showM_cons];refine ⟨h1.raw a1 hlt _,by rw [mraw_nx,h2],?_⟩;rw [mabs_raw (Nat.lt_of_lt_of_le a2 H.top),h3];funext r;rw [upd_apply];by_cases e:r=n0+a
  . rw [if_pos e,shw_in ((inL_cons n0 a l r).2 (.inl e)),e]; rfl
  . rw [if_neg e];by_cases h:InL n0 l r
    . rw [shw_in h,shw_in ((inL_cons n0 a l r).2 (.inr h))]
    . rw [shw_out h,shw_out λh'=>((inL_cons n0 a l r).1 h').elim e h]

-- what answers name
mutual
theorem okZb_ok {p:Nat->Bool}:∀ {z:Z},okZb p z=true->Z.okR (λr=>p r=true) z
 | .sl r o n w,h=>h
 | .ptr r j,h=>h
 | .mp r,h=>h
 | .it r,h=>h
 | .yl r,h=>h
 | .clo f fs cp,h=>by
  obtain ⟨a,b⟩:=andB_inv (show andB (okZsb p fs) (okZsb p cp)=true from h);exact ⟨okZsb_ok a,okZsb_ok b⟩
 | .ifc T x,h=>by
  have h:okZb p x=true:=h;exact okZb_ok (z:=x) h
 | .agg cs,h=>by
  have h:okZsb p cs=true:=h;exact okZsb_ok (zs:=cs) h
 | .tup cs,h=>by
  have h:okZsb p cs=true:=h;exact okZsb_ok (zs:=cs) h
 | .b x,_=>trivial
 | .i k n,_=>trivial
 | .s x,_=>trivial
 | .nul k,_=>trivial
 | .nil,_=>trivial
 | .any,_=>trivial
theorem okZsb_ok {p:Nat->Bool}:∀ {zs:List Z},okZsb p zs=true->Z.oksR (λr=>p r=true) zs
 | [],_=>trivial
 | z::zs,h=>by
  obtain ⟨a,b⟩:=andB_inv (show andB (okZb p z) (okZsb p zs)=true from h);exact ⟨okZb_ok a,okZsb_ok b⟩
end
theorem okEsb_ok {p:Nat->Bool}:∀ {l:List (Z × Z × Nat)},okEsb p l=true->∀ e∈l,Z.okR (λr=>p r=true) e.1/\Z.okR (λr=>p r=true) e.2.1
 | [],_,e,he=>by cases he
 | x::l,h,e,he=>by
  obtain ⟨a,h⟩:=andB_inv (show andB (okZb p x.1) (andB (okZb p x.2.1) (okEsb p l))=true from h);obtain ⟨b,c⟩:=andB_inv h;rcases List.mem_cons.1 he with rfl | he
  . exact ⟨okZb_ok a,okZb_ok b⟩
  . exact okEsb_ok c e he
theorem okOb_ok {p:Nat->Bool} {o:ZO} (h:okOb p o=true):o.okR λr=>p r=true:=by
 cases o with
 | ob T fx cs=>exact okZsb_ok h
 | mp es c=>exact okEsb_ok h
 | it m a b c=>
  intro r hr;subst hr;exact h
 | lp c σ st=>exact okZsb_ok h
theorem okUps_ok {p:Nat->Bool}:∀ {l:List (Nat × Option ZO)},okUps p l=true->∀ e∈l,∀ o,e.2=some o->o.okR λr=>p r=true
 | [],_,e,he=>by cases he
 | (q,x)::l,h,e,he=>by
  obtain ⟨a,b⟩:=andB_inv (show andB (@Option.rec ZO (λ_=>Bool) true (okOb p) x) (okUps p l)=true from h);rcases List.mem_cons.1 he with rfl | he
  . intro o ho;have ho:x=some o:=ho;subst ho;exact okOb_ok a
  . exact okUps_ok b e he
theorem okOs_ok {p:Nat->Bool}:∀ {l:List ZO},okOs p l=true->∀ o∈l,o.okR λr=>p r=true
 | [],_,e,he=>by cases he
 | x::l,h,e,he=>by
  obtain ⟨a,b⟩:=andB_inv (show andB (okOb p x) (okOs p l)=true from h);rcases List.mem_cons.1 he with rfl | he
  . exact okOb_ok a
  . exact okOs_ok b e he
theorem notIn_ok {n0:Nat}:∀ {l:List Nat} {r:Nat},notIn n0 l r=true->¬ InL n0 l r
 | [],r,_,h=>by obtain ⟨j,hj,_⟩:=h; cases hj
 | a::l,r,h,hi=>by
  have h: @Bool.rec (λ_=>Bool) (notIn n0 l r) false (Nat.beq (n0+a) r)=true:=h;cases e:Nat.beq (n0+a) r with
  | true=>rw [e] at h; cases h
  | false=>
   rw [e] at h;obtain ⟨j,hj,hr⟩:=hi;rcases List.mem_cons.1 hj with rfl | hj
   . exact bne_inv e hr.symm
   . exact notIn_ok h ⟨j,hj,hr⟩

theorem guardR_inv {n0:Nat} {l:List Nat} {r:RR} {zs:List Z} {ups:List (Nat × Option ZO)} {news:List ZO} (h:guardR n0 l r= .ok zs ups news):r= .ok zs ups news/\
 Z.oksR (λr=>¬ InL n0 l r) zs/\(∀ e∈ups,∀ o,e.2=some o->o.okR λr=>¬ InL n0 l r)/\∀ o∈news,o.okR λr=>¬ InL n0 l r:=by
 cases r with
 | bad=>cases h
 | pan v dt=>cases h
 | ok z u n=>
  obtain ⟨h1,h⟩:=bad_inv (show @Bool.rec (λ_=>RR) .bad (.ok z u n) (andB (okZsb (notIn n0 l) z) (andB (okUps (notIn n0 l) u) (okOs (notIn n0 l) n)))= .ok zs ups news from h) (by simp);cases h;obtain ⟨a1,h1⟩:=andB_inv h1;obtain ⟨a2,a3⟩:=andB_inv h1;have w:∀ r,notIn n0 l r=true->¬ InL n0 l r:=λr h=>notIn_ok h;exact ⟨rfl,oksR_mono w _ (okZsb_ok a1),λe he o ho=>ZO.okR_mono w (okUps_ok a2 e he o ho),λo ho=>ZO.okR_mono w (okOs_ok a3 o ho)⟩
theorem guardR_pan {n0:Nat} {l:List Nat} {r:RR} {v:Z} {dt:List Nat} (h:guardR n0 l r= .pan v dt):False:=by
 cases r with
 | bad=>cases h
 | pan v dt=>cases h
 | ok z u n=>
  have h: @Bool.rec (λ_=>RR) .bad (.ok z u n) (andB (okZsb (notIn n0 l) z) (andB (okUps (notIn n0 l) u) (okOs (notIn n0 l) n)))= .pan v dt:=h;cases e:andB (okZsb (notIn n0 l) z) (andB (okUps (notIn n0 l) u) (okOs (notIn n0 l) n))<;>rw [e] at h<;>cases h
theorem guardK_no (n0:Nat) (l:List Nat) (c:CallK):NoP (guardK n0 l c):=by
 cases l with
 | nil=>exact noP_no c
 | cons a l=>cases c; exact λ_ _ _=>rfl
theorem guardK_ok {P:Program} {c:CallK} (hc:CallsOK P c) (n0:Nat):∀ l:List Nat,CallsOK P (guardK n0 l c)
 | []=>noP_calls hc
 | a::l=>by
  cases c with
  | mk y g p d=>
   refine ⟨λq m args zs ups news h1 h2 h=>hc.1 q m args zs ups news h1 h2 (guardR_inv h).1,λy' hy id m args h1 h2=>⟨λzs ups news h=>((hc.2 y' hy) id m args h1 h2).1 zs ups news (guardR_inv h).1,λv dt h=>(guardR_pan h).elim⟩⟩
theorem guardK_inv {c:CallK} {n0:Nat} {l:List Nat} (hl:l≠[]) {zs:List Z} {ups:List (Nat × Option ZO)} {news:List ZO} (h:(∃ id m as,callF (guardK n0 l c) id m as= .ok zs ups news)\/∃ q m as,callY (guardK n0 l c) q m as= .ok zs ups news):
 Z.oksR (λr=>¬ InL n0 l r) zs/\(∀ e∈ups,∀ o,e.2=some o->o.okR λr=>¬ InL n0 l r)/\∀ o∈news,o.okR λr=>¬ InL n0 l r:=by
 cases l with
 | nil=>exact absurd rfl hl
 | cons a l=>
  cases c with
  | mk y g p d=>
   rcases h with ⟨id,m,as,h⟩ | ⟨q,m,as,h⟩
   . exact (guardR_inv h).2
   . exact (guardR_inv h).2

theorem newsF_some:∀ (l:List ZO) (h:Nat->Option ZO) (nx r:Nat) (x:ZO),newsF h nx l r=some x->h r=some x\/x∈l
 | [],h,nx,r,x,e=>.inl e
 | o::l,h,nx,r,x,e=>by
  rcases newsF_some l _ _ r x e with e | e
  . simp only [upd_apply] at e;split at e
    . cases e; exact .inr (by simp)
    . exact .inl e
  . exact .inr (by simp [e])
theorem upsF_some:∀ (l:List (Nat × Option ZO)) (h:Nat->Option ZO) (r:Nat) (x:ZO),upsF h l r=some x->h r=some x\/∃ e∈l,e.2=some x
 | [],h,r,x,e=>.inl e
 | u::l,h,r,x,e=>by
  rcases upsF_some l _ r x e with e | ⟨e,he,hx⟩
  . simp only [upd_apply] at e;split at e
    . exact .inr ⟨u,by simp,e⟩
    . exact .inl e
  . exact .inr ⟨e,by simp [he],hx⟩
theorem app_mono (S:ZS) (δ:ZD):S.nx<=(S.app δ).nx:=by cases δ<;>simp [ZS.app]

section
variable {P:Program} {h0:Nat->Option ZO} {nb:Nat} {k:Kont} {c:CallK} {r:RR} {d:Option Nat} {s:SL} {m:Mem} {F:Stp}

theorem kxo_det (hc:CallsOK P c) (hn:NoP c) {o:XO} (hF:kxo o d= .mk F) (hr:F k s m c=r) (hb:r≠.bad) (M:MOK h0 nb m) (hk:xKind o<=2):∃ S',XCore P d o (· =S') (absS s m)/\S'=outS d (absS s m) S'/\m.nx<=S'.nx/\(isCallO o=true->AnsQ c m d S')/\Post h0 nb k c r S':=by
 by_cases hcall:∃ f as,o= .o (.call f as)
 . obtain ⟨f,as,rfl⟩:=hcall;rcases kCall_gen (P:=P) hc (show kCall f as d= .mk F from hF) hr hb M with ⟨S',h1,h2,h3,h4,h5⟩ | ⟨_,_,_,v,_,m',_,_,_,_,_,h⟩
   . exact ⟨S',h1,h2,h3,λ_=>h4,h5⟩
   . rw [hn] at h; exact absurd h.symm hb
 . have hnc:isCallO o=false:=by
    cases o with
    | o so=>cases so<;>first | rfl | exact absurd ⟨_,_,rfl⟩ hcall
    | n x=>rfl
    | pan x=>rfl
    | bad=>rfl
   obtain ⟨S',h1,h2,h3⟩:=kxo_ok (P:=P) hc hn hF hr hb M hk;obtain ⟨q,hq,e⟩:=core_inv h1 hk hnc;refine ⟨S',h1,h2,?_,⟨λh=>(by rw [hnc] at h; cases h),h3⟩⟩;rw [e];have:=app_mono (absS s m) q.2;cases d<;>exact this

/-- An operation with its guard. -/
theorem kop_det (hc:CallsOK P c) (hn:NoP c) {o:XOp} (hF:kop o= .mk F) (hr:F k s m c=r) (hb:r≠.bad) (M:MOK h0 nb m) (hk2:xKind o.op<=2):∃ S',XOpZ P o (· =S') (absS s m)/\S'=outS o.dst (absS s m) S'/\m.nx<=S'.nx/\(isCallO o.op=true->isCallG o=false->AnsQ c m o.dst S')/\Post h0 nb k c r S':=by
 obtain ⟨d,op,g⟩:=o;cases g with
 | none=>
  obtain ⟨S',h1,hf,h3,h4,h2⟩:=kxo_det (P:=P) hc hn (show kxo op d= .mk F from hF) hr hb M hk2;exact ⟨S',h1,hf,h3,λa _=>h4 a,h2⟩
 | some gw=>
  obtain ⟨g,w⟩:=gw;have hG:isCallO op=true->isCallG ⟨d,op,some (g,w)⟩=true:=λh=>by
   cases op with
   | o so=>cases so<;>first | rfl | cases h
   | n x=>cases h
   | pan x=>cases h
   | bad=>cases h
  have no:∀ {q:Prop},isCallO op=true->isCallG ⟨d,op,some (g,w)⟩=false->q:=λa b=>by rw [hG a] at b; cases b
  have hpo:=(put_out d (absS s m) (absS s m) (.tup []) (absS s m).h (absS s m).nx).symm;have hnx:m.nx<=((absS s m).put d (.tup [])).nx:=by cases d<;>exact Nat.le_refl _
  obtain ⟨f,e,⟨b,h1,h2,h3⟩ | ⟨k1,n,h1,h2⟩ | ⟨l,h1,h2⟩⟩:=guard_inv hF hr hb M
  . by_cases hbw:b=w
    . obtain ⟨S',a1,hf,a3,a4,a2⟩:=kxo_det (P:=P) (noP_calls hc) (noP_no c) e (h2 hbw) hb M hk2;refine ⟨S',?_,hf,a3,no,a2⟩;unfold XOpZ;simp only [h1];exact ⟨λ_=>a1,λe=>by subst hbw; cases b<;>cases e⟩
    . have hbw':b= !w:=by cases b<;>cases w<;>first | rfl | exact absurd rfl hbw
      refine ⟨_,?_,hpo,hnx,no,h3 hbw'⟩;unfold XOpZ;simp only [h1];exact ⟨λe=>absurd e hbw,λ_=>by first | trivial | rfl⟩
  . refine ⟨_,?_,hpo,hnx,no,h2⟩;unfold XOpZ;simp only [h1]
  . refine ⟨_,?_,hpo,hnx,no,h2⟩;unfold XOpZ;simp only [h1]
theorem AnsQ.quiet {n0:Nat} {l:List Nat} (hl:l≠[]) {S':ZS} (h:AnsQ (guardK n0 l c) m d S'):(∀ d',d=some d'->Z.okR (λr=>¬ InL n0 l r) (S'.σ d'))/\∀ r x,S'.h r=some x->mabs m r=some x\/x.okR λr=>¬ InL n0 l r:=by
 obtain ⟨zs,ups,news,h1,h2,h3,h4⟩:=h;obtain ⟨a1,a2,a3⟩:=guardK_inv (c:=c) hl (h1.imp (λ⟨id,as,h⟩=>⟨id,_,as,h⟩) λ⟨q,as,h⟩=>⟨q,_,as,h⟩);refine ⟨λd' hd=>?_,λr x hx=>?_⟩
 . rw [h2 d' hd];have a1':=(oksR_iff _ _).1 a1
   match zs,a1,a1' with
   | [z],_,h=>exact h z (by simp)
   | [],h,_=>exact h
   | _::_::_,h,_=>exact h
 . rw [h3] at hx;rcases newsF_some news _ _ r x hx with hx | hx
   . rcases upsF_some ups _ r x hx with hx | ⟨e,he,hx⟩
     . exact .inl hx
     . exact .inr (a2 e he x hx)
   . exact .inr (a3 x hx)
end
end Go.Zw
namespace Go.Zw
open Go.Vw (Nul V SX SO SRes width)

theorem headD_drop (anc:List Nat) (i:Nat):headD (anc.drop i)=anc.getD i 0:=by
 induction anc generalizing i with
 | nil=>simp [headD]
 | cons a t ih=>
  cases i with
  | zero=>rfl
  | succ i=>simpa using ih i
theorem tailD_drop (anc:List Nat) (i:Nat):tailD (anc.drop i)=anc.drop (i+1):=by
 induction anc generalizing i with
 | nil=>simp [tailD]
 | cons a t ih=>
  cases i with
  | zero=>rfl
  | succ i=>simpa using ih i
theorem unordB_iff (a i:Nat):unordB a i=true↔a.testBit i=false:=by unfold unordB; rw [notB_eq]; cases a.testBit i<;>simp
theorem allB_inv:∀ {l:List Bool},allB l=true->∀ b∈l,b=true
 | [],_,b,hb=>by simp at hb
 | x::l,h,b,hb=>by
  obtain ⟨h1,h2⟩:=andB_inv (show andB x (allB l)=true from h);rcases List.mem_cons.1 hb with rfl | hb
  . exact h1
  . exact allB_inv h2 b hb
theorem mem_unordL (a j:Nat):∀ l:List Nat,j∈unordL a l↔j∈l/\a.testBit j=false
 | []=>by simp [unordL]
 | x::l=>by
  have ih:=mem_unordL a j l;have h:unordL a (x::l)= @Bool.rec (λ_=>List Nat) (x::unordL a l) (unordL a l) (Nat.testBit a x):=rfl;rw [h];cases e:Nat.testBit a x with
  | true=>
   show j∈unordL a l↔_;rw [ih,List.mem_cons];exact ⟨λh=>⟨.inr h.1,h.2⟩,λh=>⟨h.1.resolve_left (λe'=>by rw [e',e] at h; cases h.2),h.2⟩⟩
  | false=>
   show j∈x::unordL a l↔_;rw [List.mem_cons,ih,List.mem_cons];exact ⟨λh=>h.elim (λe'=>⟨.inl e',by rw [e']; exact e⟩) λh=>⟨.inr h.1,h.2⟩,λh=>h.1.elim .inl λh'=>.inr ⟨h',h.2⟩⟩
theorem natK_eq {α:Type} (a b c d:α):natK 0 a b c d=a/\natK 1 a b c d=b/\natK 2 a b c d=c/\∀ n,natK (n+3) a b c d=d:=⟨rfl,rfl,rfl,λ_=>rfl⟩
theorem okR_all {p:Nat->Prop} (hp:∀ r,p r) (z:Z):Z.okR p z:=by
 have key:∀ z:Z,Z.okR p z:=by
  intro z;refine Z.rec (motive_1:=λz=>Z.okR p z) (motive_2:=λzs=>Z.oksR p zs) ?_ ?_ ?_ ?_ ?_ ?_ ?_ ?_ ?_ ?_ ?_ ?_ ?_ ?_ ?_ ?_ ?_ z;all_goals intros
  all_goals simp_all [Z.okR,Z.oksR]
 exact key z
theorem okO_all {p:Nat->Prop} (hp:∀ r,p r) (o:ZO):o.okR p:=by
 cases o with
 | ob T fx cs=>exact (oksR_iff _ _).2 λz hz=>okR_all hp z
 | mp es c=>exact λe he=>⟨okR_all hp _,okR_all hp _⟩
 | it m a b c=>exact λr hr=>hp r
 | lp c σ st=>exact (oksR_iff _ _).2 λz hz=>okR_all hp z
theorem shw_hid (p:Nat->Prop) (h:Nat->Option ZO):shw p h (hid p h)=h:=by
 funext r;by_cases hp:p r
 . exact shw_in hp
 . rw [shw_out hp,hid_out hp]

section
variable {P:Program} {sl:List XOp} {anc:List Nat} {cr:Nat->Bool} {n0:Nat} {h0:Nat->Option ZO} {nb:Nat} {k:Kont} {c:CallK} {r:RR}

theorem inL_hd {all:List Nat} (hall:∀ a,a∈all↔cr a=true) (i r:Nat):InL n0 (unordL (anc.getD i 0) all) r↔Hd anc cr n0 i r:=
 ⟨λ⟨j,h,e⟩=>by
  obtain ⟨h1,h2⟩:=(mem_unordL _ _ _).1 h;exact ⟨j,e,(hall j).1 h1,h2⟩,λ⟨j,e,h1,h2⟩=>⟨j,(mem_unordL _ _ _).2 ⟨(hall j).2 h1,h2⟩,e⟩⟩
theorem hid_congr {p q:Nat->Prop} (h:∀ r,p r↔q r) (H:Nat->Option ZO):hid p H=hid q H:=by
 funext r;by_cases hp:p r
 . rw [hid_in hp,hid_in ((h r).1 hp)]
 . rw [hid_out hp,hid_out λhq=>hp ((h r).2 hq)]
theorem shw_congr {p q:Nat->Prop} (h:∀ r,p r↔q r) (H K:Nat->Option ZO):shw p H K=shw q H K:=by
 funext r;by_cases hp:p r
 . rw [shw_in hp,shw_in ((h r).1 hp)]
 . rw [shw_out hp,shw_out λhq=>hp ((h r).2 hq)]

/-- A trace up to n. -/
structure PartOK (P:Program) (sl:List XOp) (anc:List Nat) (cr:Nat->Bool) (n0:Nat) (ob:Nat->ZO) (St:Nat->ZS) (n:Nat):Prop where
 det:∀ (i:Nat) (o:XOp),i<n->sl[i]? =some o->cr i=false->∃ S1,XOpZ P o (· =S1) ⟨(St i).σ,hid (Hd anc cr n0 i) (St i).h,(St i).nx⟩/\(St i).nx<=S1.nx/\S1.σ=(St (i+1)).σ/\S1.nx=(St (i+1)).nx/\(St (i+1)).h=shw (Hd anc cr n0 i) (St i).h S1.h/\
  ((∃ j,cr j=true)->QtC (λr=>¬ Hd anc cr n0 i r) o ⟨(St i).σ,hid (Hd anc cr n0 i) (St i).h,(St i).nx⟩ S1)
 form:∀ (i:Nat) (o:XOp),i<n->sl[i]? =some o->(St (i+1)).σ=(outS o.dst (St i) (St (i+1))).σ
 kind:∀ (i:Nat) (o:XOp),i<n->sl[i]? =some o->xKind o.op<=2
 cre:∀ (i:Nat),i<n->cr i=true->∃ o z d,sl[i]? =some o/\isCre o=true/\creZ (St i).ev (n0+i) o.op=some (z,.new (ob i))/\o.dst=some d/\St (i+1)=⟨upd (St i).σ d z,upd (St i).h (n0+i) (some (ob i)),(St i).nx⟩
 chain:∀ (i j:Nat) (oi oj:XOp),j<n->sl[i]? =some oi->sl[j]? =some oj->xKind oi.op=2->xKind oj.op=2->cr i=false->cr j=false->i<j->(anc.getD j 0).testBit i=true
 later:∀ (i j:Nat) (oi oj:XOp),j<n->sl[i]? =some oi->sl[j]? =some oj->xKind oi.op=1->xKind oj.op=2->cr j=false->i<j->(anc.getD j 0).testBit i=false->
  ∃ T d,XOpZ P oi (· =T) ⟨(St i).σ,hid (Hd anc cr n0 i) (St (j+1)).h,(St (j+1)).nx⟩/\oi.dst=some d/\T.σ d=(St (i+1)).σ d
 before:∀ (i j:Nat) (oi oj:XOp),i<n->sl[i]? =some oi->sl[j]? =some oj->xKind oi.op=1->xKind oj.op=2->cr j=false->j<i->(anc.getD i 0).testBit j=false->
  ∃ T d,XOpZ P oi (· =T) ⟨(St i).σ,hid (Hd anc cr n0 i) (St j).h,(St j).nx⟩/\oi.dst=some d/\T.σ d=(St (i+1)).σ d

theorem PartOK.congr {ob ob':Nat->ZO} {St St':Nat->ZS} {n:Nat} (h:PartOK P sl anc cr n0 ob St n) (e:∀ i,i<=n->St' i=St i) (eo:∀ i,i<n->ob' i=ob i):PartOK P sl anc cr n0 ob' St' n:=by
 refine ⟨λi o hi ho=>?_,λi o hi ho=>?_,h.kind,λi hi=>?_,h.chain,λi j oi oj hj h1 h2 h3 h4 h5 h6 h7=>?_,λi j oi oj hi h1 h2 h3 h4 h5 h6 h7=>?_⟩
 . rw [e i (by omega),e (i+1) (by omega)]; exact h.det i o hi ho
 . rw [e i (by omega),e (i+1) (by omega)]; exact h.form i o hi ho
 . rw [e i (by omega),e (i+1) (by omega),eo i hi]; exact h.cre i hi
 . rw [e i (by omega),e (i+1) (by omega),e (j+1) (by omega)]; exact h.later i j oi oj hj h1 h2 h3 h4 h5 h6 h7
 . rw [e i (by omega),e (i+1) (by omega),e j (by omega)]; exact h.before i j oi oj hi h1 h2 h3 h4 h5 h6 h7

theorem PartOK.whole {ob:Nat->ZO} {St:Nat->ZS} (h:PartOK P sl anc cr n0 ob St sl.length) (hc:∀ a,cr a=true->a<sl.length) (hf:∀ j,cr j=true->(St 0).h (n0+j)=none/\n0+j<(St 0).nx):TraceOK P sl anc cr n0 ob St:=by
 have hl:∀ {i:Nat} {o:XOp},sl[i]? =some o->i<sl.length:=λh=>(List.getElem?_eq_some_iff.1 h).1;exact ⟨λi o ho=>h.det i o (hl ho) ho,λi o ho=>h.form i o (hl ho) ho,λi o ho=>h.kind i o (hl ho) ho,λi hi=>h.cre i (hc i hi) hi,hf,λi j oi oj h1 h2=>h.chain i j oi oj (hl h2) h1 h2,
  λi j oi oj h1 h2=>h.later i j oi oj (hl h2) h1 h2,λi j oi oj h1 h2=>h.before i j oi oj (hl h1) h1 h2⟩

/-- The kept names are in the memory's own range. -/
def Wide (cr:Nat->Bool) (n0 nb:Nat) (m:Mem):Prop:=∀ a,cr a=true->nb<=n0+a/\n0+a<m.nx
/-- What a reader is held against. -/
def RCk (P:Program) (sl:List XOp) (anc:List Nat) (cr:Nat->Bool) (n0:Nat) (h0:Nat->Option ZO) (nb:Nat) (r:RR) (St:Nat->ZS) (a:Nat) (f:Mem->RR->RR):Prop:=
 ∀ m r',f m r'=r->MOK h0 nb m->Wide cr n0 nb m->r'=r/\∀ o,sl[a]? =some o->∃ T d,XOpZ P o (· =T) ⟨(St a).σ,hid (Hd anc cr n0 a) (mabs m),m.nx⟩/\o.dst=some d/\T.σ d=(St (a+1)).σ d
def QOK (P:Program) (sl:List XOp) (anc:List Nat) (cr:Nat->Bool) (n0:Nat) (h0:Nat->Option ZO) (nb:Nat) (r:RR) (St:Nat->ZS):List Nat->QL->Prop
 | [],.nil=>True
 | a::rs,.cons f t=>RCk P sl anc cr n0 h0 nb r St a f/\QOK P sl anc cr n0 h0 nb r St rs t
 | _,_=>False
def MLOK (cr:Nat->Bool) (n0:Nat) (h0:Nat->Option ZO) (nb:Nat) (St:Nat->ZS):List Nat->List Mem->Prop
 | [],[]=>True
 | a::cs,m::t=>(MOK h0 nb m/\Wide cr n0 nb m/\mabs m=(St a).h/\m.nx=(St a).nx)/\MLOK cr n0 h0 nb St cs t
 | _,_=>False

theorem RCk.congr {St St':Nat->ZS} {a n:Nat} {f:Mem->RR->RR} (h:RCk P sl anc cr n0 h0 nb r St a f) (ha:a<n) (e:∀ i,i<=n->St' i=St i):RCk P sl anc cr n0 h0 nb r St' a f:=by
 intro m r' h1 h2 h3;rw [e a (by omega),e (a+1) (by omega)];exact h m r' h1 h2 h3
theorem QOK.congr {St St':Nat->ZS} {n:Nat} (e:∀ i,i<=n->St' i=St i):∀ {rs:List Nat} {q:QL},(∀ a∈rs,a<n)->QOK P sl anc cr n0 h0 nb r St rs q->QOK P sl anc cr n0 h0 nb r St' rs q
 | [],.nil,_,h=>h
 | a::rs,.cons f t,hm,h=>⟨h.1.congr (hm a (by simp)) e,QOK.congr e (λb hb=>hm b (by simp [hb])) h.2⟩
 | [],.cons _ _,_,h=>h.elim
 | _::_,.nil,_,h=>h.elim
theorem MLOK.congr {St St':Nat->ZS} {n:Nat} (e:∀ i,i<=n->St' i=St i):∀ {cs:List Nat} {t:List Mem},(∀ a∈cs,a<n)->MLOK cr n0 h0 nb St cs t->MLOK cr n0 h0 nb St' cs t
 | [],[],_,h=>h
 | a::cs,m::t,hm,h=>⟨by rw [e a (by have:=hm a (by simp); omega)]; exact h.1,MLOK.congr e (λb hb=>hm b (by simp [hb])) h.2⟩
 | [],_::_,_,h=>h.elim
 | _::_,[],_,h=>h.elim

theorem chkQ_inv {St:Nat->ZS} {g:Nat->Bool} {m:Mem} (M:MOK h0 nb m) (W:Wide cr n0 nb m) (hb:r≠.bad):∀ {rs:List Nat} {q:QL} {r':RR},QOK P sl anc cr n0 h0 nb r St rs q->chkQ (rs.map g) q m r'=r->
 r'=r/\∀ a∈rs,g a=true->∀ o,sl[a]? =some o->∃ T d,XOpZ P o (· =T) ⟨(St a).σ,hid (Hd anc cr n0 a) (mabs m),m.nx⟩/\o.dst=some d/\T.σ d=(St (a+1)).σ d
 | [],.nil,r',_,h=>⟨h,λa ha=>by simp at ha⟩
 | [],.cons _ _,_,h,_=>h.elim
 | _::_,.nil,_,h,_=>h.elim
 | a::rs,.cons f t,r',hq,h=>by
  have h: @Bool.rec (λ_=>RR) (chkQ (rs.map g) t m r') (f m (chkQ (rs.map g) t m r')) (g a)=r:=h;cases hg:g a with
  | false=>
   rw [hg] at h;obtain ⟨h1,h2⟩:=chkQ_inv M W hb hq.2 h;refine ⟨h1,λb hb' hgb=>?_⟩;rcases List.mem_cons.1 hb' with rfl | hb'
   . rw [hg] at hgb; cases hgb
   . exact h2 b hb' hgb
  | true=>
   rw [hg] at h;obtain ⟨h3,h4⟩:=hq.1 m _ h M W;obtain ⟨h1,h2⟩:=chkQ_inv M W hb hq.2 h3;refine ⟨h1,λb hb' hgb=>?_⟩;rcases List.mem_cons.1 hb' with rfl | hb'
   . exact h4
   . exact h2 b hb' hgb

theorem chkM_inv {St:Nat->ZS} {g:Nat->Bool} {f:Mem->RR->RR} {a:Nat} (hf:RCk P sl anc cr n0 h0 nb r St a f) (hb:r≠.bad):∀ {cs:List Nat} {t:List Mem} {r':RR},MLOK cr n0 h0 nb St cs t->chkM (cs.map g) f t r'=r->
 r'=r/\∀ j∈cs,g j=true->∀ o,sl[a]? =some o->∃ T d,XOpZ P o (· =T) ⟨(St a).σ,hid (Hd anc cr n0 a) (St j).h,(St j).nx⟩/\o.dst=some d/\T.σ d=(St (a+1)).σ d
 | [],[],r',_,h=>⟨h,λa ha=>by simp at ha⟩
 | [],_::_,_,h,_=>h.elim
 | _::_,[],_,h,_=>h.elim
 | j::cs,m::t,r',hq,h=>by
  have h: @Bool.rec (λ_=>RR) (chkM (cs.map g) f t r') (f m (chkM (cs.map g) f t r')) (g j)=r:=h;obtain ⟨⟨M,W,e1,e2⟩,hq2⟩:=hq;cases hg:g j with
  | false=>
   rw [hg] at h;obtain ⟨h1,h2⟩:=chkM_inv hf hb hq2 h;refine ⟨h1,λb hb' hgb=>?_⟩;rcases List.mem_cons.1 hb' with rfl | hb'
   . rw [hg] at hgb; cases hgb
   . exact h2 b hb' hgb
  | true=>
   rw [hg] at h;obtain ⟨h3,h4⟩:=hf m _ h M W;obtain ⟨h1,h2⟩:=chkM_inv hf hb hq2 h3;refine ⟨h1,λb hb' hgb=>?_⟩;rcases List.mem_cons.1 hb' with rfl | hb'
   . rw [<- e1,<-e2]; exact h4
   . exact h2 b hb' hgb

/-- A memory with what stands in no order hidden. -/
theorem hide_abs {all:List Nat} (hall:∀ a,a∈all↔cr a=true) {m:Mem} (M:MOK h0 nb m) (W:Wide cr n0 nb m) (i:Nat) (s:SL):MOK h0 nb (hideM n0 (unordL (anc.getD i 0) all) m)/\absS s (hideM n0 (unordL (anc.getD i 0) all) m)=⟨sabs s,hid (Hd anc cr n0 i) (mabs m),m.nx⟩:=by
 obtain ⟨h1,h2,h3⟩:=hideM_ok (n0:=n0) M (unordL (anc.getD i 0) all) λj hj=>W j ((hall j).1 ((mem_unordL _ _ _).1 hj).1);refine ⟨h1,?_⟩;simp only [absS,h2,h3,hid_congr (inL_hd hall i)]

/-- The reader once more. -/
theorem again_ok (hc:CallsOK P c) (hb:r≠.bad) {all:List Nat} (hall:∀ a,a∈all↔cr a=true) {o:XOp} {F:Stp} (hF:kop o= .mk F) {d:Nat} (hd:o.dst=some d) (hk2:xKind o.op<=2) {g:Gt} (hg:GetOK (.t d) g) {St:Nat->ZS} {a:Nat} (hsl:sl[a]? =some o) {s s1:SL}
 (hs:(St a).σ=sabs s) (hv:(St (a+1)).σ d=g s1):RCk P sl anc cr n0 h0 nb r St a (again n0 (unordL (anc.getD a 0) all) F g (g s1) s c):=by
 intro m r' h M W;obtain ⟨M',e⟩:=hide_abs (anc:=anc) hall M W a s;obtain ⟨S',h1,h2,s',m',h3,h4,h5⟩:=kop_ok (P:=P) (noP_calls hc) (noP_no c) hF (show F (λs' _ _=> @Bool.rec (λ_=>RR) .bad r' (eqZ (g s') (g s1))) s (hideM n0 (unordL (anc.getD a 0) all) m) (noP c)=r from h) hb M' hk2;rw [e] at h1;obtain ⟨h6,h7⟩:=bad_inv h5 hb;refine ⟨h7,λo' ho'=>?_⟩;rw [hsl,Option.some.injEq] at ho'; subst ho';refine ⟨S',d,?_,hd,?_⟩
 . rw [hs]; exact h1
 . rw [hv,<-eqZ_ok _ _ h6,<-h3];exact (hg s' m').symm

/-- What has been seen: the places of readers and of those that turn. -/
structure Seen (sl:List XOp) (cr:Nat->Bool) (i:Nat) (rs cs:List Nat):Prop where
 rlt:∀ a∈rs,a<i
 clt:∀ a∈cs,a<i
 rall:∀ (a:Nat) (o:XOp),a<i->sl[a]? =some o->xKind o.op=1->a∈rs
 call:∀ (a:Nat) (o:XOp),a<i->sl[a]? =some o->xKind o.op=2->cr a=false->a∈cs

/-- How the list of steps is made. -/
theorem kopsD_cons (lz:Bool) (all:List Nat) (o:XOp) (ops:List XOp) (an:List Nat) (i:Nat) (rs cs:List Nat):∃ F,kop o= .mk F/\
 kopsD lz all (o::ops) an i rs cs= @Bool.rec (λ_=>DL) (natK (xKind o.op) (.pure F (kopsD lz all ops (tailD an) (Nat.succ i) rs cs))
  (@Option.rec Nat (λ_=>DL) .bad (λd=> @GX.rec (λ_=>DL) (λg=>.rd F g (unordL (headD an) all) (cs.map λc=>unordB (headD an) c) (kopsD lz all ops (tailD an) (Nat.succ i) (i::rs) cs)) (gx (.t d))) o.dst)
  (@Bool.rec (λ_=>DL) .bad (.ch F (unordL (headD an) all) (rs.map λr=>unordB (headD an) r) (kopsD lz all ops (tailD an) (Nat.succ i) rs (i::cs))) (andB (allB (cs.map λc=>Nat.testBit (headD an) c)) (notB (andB lz (isCallG o))))) .bad)
  (@GP.rec (λ_=>DL) .bad (λp=>.cre o.op p i (kopsD lz all ops (tailD an) (Nat.succ i) rs cs)) (gp o.dst)) (andB lz (isCre o)):=by
 cases e:kop o with
 | mk F=>
  refine ⟨F,rfl,?_⟩;have h:kopsD lz all (o::ops) an i rs cs= @Bool.rec (λ_=>DL) (@FO.rec (λ_=>DL) (λF=>natK (xKind o.op) (.pure F (kopsD lz all ops (tailD an) (Nat.succ i) rs cs))
   (@Option.rec Nat (λ_=>DL) .bad (λd=> @GX.rec (λ_=>DL) (λg=>.rd F g (unordL (headD an) all) (cs.map λc=>unordB (headD an) c) (kopsD lz all ops (tailD an) (Nat.succ i) (i::rs) cs)) (gx (.t d))) o.dst)
   (@Bool.rec (λ_=>DL) .bad (.ch F (unordL (headD an) all) (rs.map λr=>unordB (headD an) r) (kopsD lz all ops (tailD an) (Nat.succ i) rs (i::cs))) (andB (allB (cs.map λc=>Nat.testBit (headD an) c)) (notB (andB lz (isCallG o))))) .bad) (kop o))
   (@GP.rec (λ_=>DL) .bad (λp=>.cre o.op p i (kopsD lz all ops (tailD an) (Nat.succ i) rs cs)) (gp o.dst)) (andB lz (isCre o)):=rfl
  rw [h,e]

theorem creK_inv {l:Option (Z × ZD)} {f:Z->ZO->RR} (h:creK l f=r) (hb:r≠.bad):∃ z x,l=some (z,.new x)/\f z x=r:=by
 cases l with
 | none=>exact absurd h.symm hb
 | some q=>
  obtain ⟨z,δ⟩:=q;cases δ with
  | new x=>
   have h:frcZ z (λz=>frcO x λo=>f z o)=r:=h;rw [frcZ_eq,frcO_eq] at h;exact ⟨z,x,rfl,h⟩
  | _=>exact absurd h.symm hb

theorem runD_ok (hc:CallsOK P c) (hb:r≠.bad) {lz:Bool} {all:List Nat} (hall:∀ a,a∈all↔cr a=true) (hcr:∀ (a:Nat) (o:XOp),sl[a]? =some o->cr a=(lz && isCre o)) (hlz:(∃ j,cr j=true)->lz=true):
 ∀ (rest:List XOp) (i:Nat) (s:SL) (m:Mem) (q:QL) (M:List Mem) (rs cs:List Nat) (ob:Nat->ZO) (St:Nat->ZS),sl.drop i=rest->i<=sl.length->
 runD n0 k (kopsD lz all rest (anc.drop i) i rs cs) q M s m c=r->MOK h0 nb m->Wide cr n0 nb m->St i=absS s m->PartOK P sl anc cr n0 ob St i->QOK P sl anc cr n0 h0 nb r St rs q->MLOK cr n0 h0 nb St cs M->Seen sl cr i rs cs->
 ∃ ob' St',St' 0=St 0/\PartOK P sl anc cr n0 ob' St' sl.length/\Post h0 nb k c r (St' sl.length)
 | [],i,s,m,q,M,rs,cs,ob,St,hd,hi,h,MM,W,hS,Pt,hq,hM,hs=>by
  have hl:i=sl.length:=by
   have:=congrArg List.length hd;simp at this; omega
  subst hl;exact ⟨ob,St,rfl,Pt,s,m,hS.symm,MM,h⟩
 | o::rest,i,s,m,q,M,rs,cs,ob,St,hd,hi,h,MM,W,hS,Pt,hq,hM,hs=>by
  have hlt:i<sl.length:=by
   have:=congrArg List.length hd;simp at this; omega
  have hso:sl[i]? =some o:=by
   have:(sl.drop i)[0]? =some o:=by rw [hd]; rfl
   simpa using this
  have hd':sl.drop (i+1)=rest:=by
   have:(sl.drop i).drop 1=rest:=by rw [hd]; rfl
   rwa [List.drop_drop] at this
  obtain ⟨F,hF,hk⟩:=kopsD_cons lz all o rest (anc.drop i) i rs cs;rw [hk,headD_drop,tailD_drop] at h;have hcri:=hcr i o hso
  -- the trace, one step longer
  let St2:ZS->Nat->ZS:=λS j=>if j<=i then St j else S
  have e2:∀ S j,j<=i->St2 S j=St j:=λS j hj=>by simp [St2,hj]
  have e3:∀ S,St2 S (i+1)=S:=λS=>if_neg (by omega);have seen':∀ {rs' cs':List Nat},(∀ a,a∈rs'↔a∈rs\/(a=i/\xKind o.op=1))->(∀ a,a∈cs'↔a∈cs\/(a=i/\xKind o.op=2/\cr i=false))->Seen sl cr (i+1) rs' cs':=λ{rs' cs'} hr' hc'=>
   ⟨λa ha=>by rcases (hr' a).1 ha with h | h; exact Nat.lt_succ_of_lt (hs.rlt a h); omega,λa ha=>by rcases (hc' a).1 ha with h | h; exact Nat.lt_succ_of_lt (hs.clt a h); omega,
    λa oa ha hoa hka=>(hr' a).2 (by
     by_cases e:a=i
     . subst e; rw [hso,Option.some.injEq] at hoa; subst hoa; exact .inr ⟨rfl,hka⟩
     . exact .inl (hs.rall a oa (by omega) hoa hka)),
    λa oa ha hoa hka hca=>(hc' a).2 (by
     by_cases e:a=i
     . subst e; rw [hso,Option.some.injEq] at hoa; subst hoa; exact .inr ⟨rfl,hka,hca⟩
     . exact .inl (hs.call a oa (by omega) hoa hka hca))⟩
  cases hz:andB lz (isCre o) with
  | true=>
   -- makes an object under a kept name
   rw [hz] at h;obtain ⟨z1,z2⟩:=andB_inv hz;have hci:cr i=true:=by rw [hcri,z1,z2]; rfl
   have h:runD n0 k (@GP.rec (λ_=>DL) .bad (λp=>.cre o.op p i (kopsD lz all rest (anc.drop (i+1)) (Nat.succ i) rs cs)) (gp o.dst)) q M s m c=r:=h;rcases gp_ok o.dst with e | ⟨p,e,hp⟩
   . rw [e] at h; exact absurd h.symm hb
   . rw [e] at h;have h:creK (creZ (evK s) (n0+i) o.op) (λz x=>runD n0 k (kopsD lz all rest (anc.drop (i+1)) (Nat.succ i) rs cs) q M (p z s) (mraw (n0+i) (some x) m) c)=r:=h;obtain ⟨z,x,h1,h2⟩:=creK_inv h hb;rw [evK_eq s m] at h1;obtain ⟨d,hdst⟩:∃ d,o.dst=some d:=by
      cases hd:o.dst with
      | some d=>exact ⟨d,rfl⟩
      | none=>simp [isCre,hd] at z2
     obtain ⟨W1,W2⟩:=W i hci;have M2:=MM.raw W1 W2 (some x);have hS2:(⟨upd (St i).σ d z,upd (St i).h (n0+i) (some x),(St i).nx⟩:ZS)=absS (p z s) (mraw (n0+i) (some x) m):=by
      rw [hS];have hp':=hp z s;rw [hdst] at hp';simp only [absS,hp',mabs_raw (Nat.lt_of_lt_of_le W2 MM.top),mraw_nx]
     let S2:ZS:=⟨upd (St i).σ d z,upd (St i).h (n0+i) (some x),(St i).nx⟩
     let ob2:Nat->ZO:=λj=>if j=i then x else ob j
     have eo:∀ j,j<i->ob2 j=ob j:=λj hj=>if_neg (by omega);have Pt1:=Pt.congr (St':=St2 S2) (ob':=ob2) (e2 S2) eo;have hcf:∀ {q:Prop},cr i=false->q:=λh=>by rw [hci] at h; cases h
     have hk2:xKind o.op=2:=by
      have hco:isCreO o.op=true:=by simp only [isCre,Bool.and_eq_true] at z2; exact z2.2
      cases hop:o.op with
      | o so=>rw [hop] at hco; cases so<;>first | rfl | cases hco
      | n y=>rw [hop] at hco; cases y<;>first | rfl | cases hco
      | pan x=>rw [hop] at hco; cases hco
      | bad=>rw [hop] at hco; cases hco
     have Pt2:PartOK P sl anc cr n0 ob2 (St2 S2) (i+1):=by
      refine ⟨λa oa ha hoa hca=>?_,λa oa ha hoa=>?_,λa oa ha hoa=>?_,λa ha hca=>?_,λa b oa ob hb' hoa hob k1 k2 hca hcb hab=>?_,λa b oa ob hb' hoa hob k1 k2 hcb hab hu=>?_,λa b oa ob ha hoa hob k1 k2 hcb hab hu=>?_⟩
      . by_cases e:a=i
        . subst e; exact hcf hca
        . exact Pt1.det a oa (by omega) hoa hca
      . by_cases e:a=i
        . subst e; rw [hso,Option.some.injEq] at hoa; subst hoa;rw [e3,e2 S2 a (Nat.le_refl _)];show upd (St a).σ d z=(outS o.dst (St a) S2).σ;simp only [outS,hdst,S2,upd_same]
        . exact Pt1.form a oa (by omega) hoa
      . by_cases e:a=i
        . subst e; rw [hso,Option.some.injEq] at hoa; subst hoa; omega
        . exact Pt1.kind a oa (by omega) hoa
      . by_cases e:a=i
        . subst e;refine ⟨o,z,d,hso,z2,?_,hdst,?_⟩
          . rw [e2 S2 a (Nat.le_refl _),hS];have:ob2 a=x:=if_pos rfl;rw [this]; exact h1
          . rw [e3,e2 S2 a (Nat.le_refl _)];have:ob2 a=x:=if_pos rfl;rw [this]
        . exact Pt1.cre a (by omega) hca
      . by_cases e:b=i
        . subst e; exact hcf hcb
        . exact Pt1.chain a b oa ob (by omega) hoa hob k1 k2 hca hcb hab
      . by_cases e:b=i
        . subst e; exact hcf hcb
        . exact Pt1.later a b oa ob (by omega) hoa hob k1 k2 hcb hab hu
      . by_cases e:a=i
        . subst e; rw [hso,Option.some.injEq] at hoa; subst hoa; omega
        . exact Pt1.before a b oa ob (by omega) hoa hob k1 k2 hcb hab hu
     obtain ⟨ob',St',b1,b2⟩:=runD_ok hc hb hall hcr hlz rest (i+1) (p z s) (mraw (n0+i) (some x) m) q M rs cs ob2 (St2 S2) hd' (by omega) h2 M2 (λa ha=>by rw [mraw_nx]; exact W a ha) (by rw [e3]; exact hS2) Pt2
      (hq.congr (e2 S2) hs.rlt) (hM.congr (e2 S2) hs.clt) (seen' (λa=>⟨.inl,λh=>h.elim id λh=>by omega⟩) λa=>⟨.inl,λh=>h.elim id λh=>by rw [hci] at h; cases h.2.2⟩)
     exact ⟨ob',St',by rw [b1,e2 S2 0 (Nat.zero_le _)],b2⟩
  | false=>
   rw [hz] at h;have hci:cr i=false:=by
    rw [hcri];cases lz<;>cases hi':isCre o<;>first | rfl | (rw [hi'] at hz; cases hz)
   obtain ⟨n0',n1,n2,n3⟩:=natK_eq (α:=DL) (.pure F (kopsD lz all rest (anc.drop (i+1)) (Nat.succ i) rs cs))
    (@Option.rec Nat (λ_=>DL) .bad (λd=> @GX.rec (λ_=>DL) (λg=>.rd F g (unordL (anc.getD i 0) all) (cs.map λc=>unordB (anc.getD i 0) c) (kopsD lz all rest (anc.drop (i+1)) (Nat.succ i) (i::rs) cs)) (gx (.t d))) o.dst)
    (@Bool.rec (λ_=>DL) .bad (.ch F (unordL (anc.getD i 0) all) (rs.map λr=>unordB (anc.getD i 0) r) (kopsD lz all rest (anc.drop (i+1)) (Nat.succ i) rs (i::cs))) (andB (allB (cs.map λc=>Nat.testBit (anc.getD i 0) c)) (notB (andB lz (isCallG o))))) .bad
   have base:∀ S S1,XOpZ P o (· =S1) ⟨sabs s,hid (Hd anc cr n0 i) (mabs m),m.nx⟩->m.nx<=S1.nx->S1.σ=S.σ->S1.nx=S.nx->S.h=shw (Hd anc cr n0 i) (mabs m) S1.h->
    ((∃ j,cr j=true)->QtC (λr=>¬ Hd anc cr n0 i r) o ⟨sabs s,hid (Hd anc cr n0 i) (mabs m),m.nx⟩ S1)->S.σ=(outS o.dst (absS s m) S).σ->xKind o.op<=2->
    (∀ j (oj:XOp),sl[j]? =some oj->xKind oj.op=2->xKind o.op=2->cr j=false->j<i->(anc.getD i 0).testBit j=true)->
    (∀ j (oj:XOp),sl[j]? =some oj->xKind oj.op=1->xKind o.op=2->j<i->(anc.getD i 0).testBit j=false->∃ T d,XOpZ P oj (· =T) ⟨(St j).σ,hid (Hd anc cr n0 j) S.h,S.nx⟩/\oj.dst=some d/\T.σ d=(St (j+1)).σ d)->
    (∀ j (oj:XOp),sl[j]? =some oj->xKind oj.op=2->xKind o.op=1->cr j=false->j<i->(anc.getD i 0).testBit j=false->∃ T d,XOpZ P o (· =T) ⟨(St i).σ,hid (Hd anc cr n0 i) (St j).h,(St j).nx⟩/\o.dst=some d/\T.σ d=S.σ d)->
    PartOK P sl anc cr n0 ob (St2 S) (i+1):=by
    intro S S1 hdet hmono hσ hnx hh hqt hform hkind hch hlat hbef;have Pt2:=Pt.congr (St':=St2 S) (e2 S) (λ_ _=>rfl);refine ⟨λa oa ha hoa hca=>?_,λa oa ha hoa=>?_,λa oa ha hoa=>?_,λa ha hca=>?_,λa b oa ob hb' hoa hob k1 k2 hca hcb hab=>?_,λa b oa ob hb' hoa hob k1 k2 hcb hab hu=>?_,λa b oa ob ha hoa hob k1 k2 hcb hab hu=>?_⟩
    . by_cases e:a=i
      . subst e; rw [hso,Option.some.injEq] at hoa; subst hoa;rw [e3,e2 S a (Nat.le_refl _),hS]; exact ⟨S1,hdet,hmono,hσ,hnx,hh,hqt⟩
      . exact Pt2.det a oa (by omega) hoa hca
    . by_cases e:a=i
      . subst e; rw [hso,Option.some.injEq] at hoa; subst hoa;rw [e3,e2 S a (Nat.le_refl _),hS]; exact hform
      . exact Pt2.form a oa (by omega) hoa
    . by_cases e:a=i
      . subst e; rw [hso,Option.some.injEq] at hoa; subst hoa; exact hkind
      . exact Pt2.kind a oa (by omega) hoa
    . by_cases e:a=i
      . subst e; rw [hci] at hca; cases hca
      . exact Pt2.cre a (by omega) hca
    . by_cases e:b=i
      . subst e; rw [hso,Option.some.injEq] at hob; subst hob;exact hch a oa hoa k1 k2 hca hab
      . exact Pt2.chain a b oa ob (by omega) hoa hob k1 k2 hca hcb hab
    . by_cases e:b=i
      . subst e; rw [hso,Option.some.injEq] at hob; subst hob;rw [e3,e2 S a (by omega),e2 S (a+1) (by omega)];exact hlat a oa hoa k1 k2 hab hu
      . exact Pt2.later a b oa ob (by omega) hoa hob k1 k2 hcb hab hu
    . by_cases e:a=i
      . subst e; rw [hso,Option.some.injEq] at hoa; subst hoa;rw [e3,e2 S a (Nat.le_refl _),e2 S b (by omega)];exact hbef b ob hob k2 k1 hcb hab hu
      . exact Pt2.before a b oa ob (by omega) hoa hob k1 k2 hcb hab hu
   have notcall:xKind o.op≠2->isCallO o.op=true->False:=λhk hcall=>by
    cases hop:o.op with
    | o so=>
     rw [hop] at hcall hk;cases so
     case call f as=>exact hk rfl
     all_goals cases hcall
    | n x=>rw [hop] at hcall; cases hcall
    | pan x=>rw [hop] at hcall; cases hcall
    | bad=>rw [hop] at hcall; cases hcall
   have key:xKind o.op=0\/xKind o.op=1\/xKind o.op=2\/∃ n,xKind o.op=n+3:=by
    rcases Nat.lt_or_ge (xKind o.op) 3 with h | h
    . omega
    . exact .inr (.inr (.inr ⟨xKind o.op-3,by omega⟩))
   rcases key with hk0 | hk1 | hk2 | ⟨n,hk3⟩
   · -- neither reads nor turns
     have h:runD n0 k (natK (xKind o.op) _ _ _ _) q M s m c=r:=h;rw [hk0,n0'] at h;have h:F (λs1 m1 _=>runD n0 k (kopsD lz all rest (anc.drop (i+1)) (Nat.succ i) rs cs) q M s1 m1 c) s m (noP c)=r:=h;obtain ⟨S,a1,a2,s1,m1,a3,a4,a5⟩:=kop_ok (P:=P) (noP_calls hc) (noP_no c) hF h hb MM (by omega);have hst:=a1.still (by omega);have hp:=a1.pureK (S':=⟨sabs s,hid (Hd anc cr n0 i) (mabs m),m.nx⟩) (λt _=>rfl) hk0;have hσ:(outS o.dst ⟨sabs s,hid (Hd anc cr n0 i) (mabs m),m.nx⟩ ⟨S.σ,hid (Hd anc cr n0 i) (mabs m),m.nx⟩).σ=S.σ:=by
      rw [a2];simp only [outS,absS];cases o.dst with
      | none=>rfl
      | some d=>simp only [upd_same]
     have hnx:S.nx=m.nx:=hst.2;obtain ⟨ob',St',b1,b2⟩:=runD_ok hc hb hall hcr hlz rest (i+1) s1 m1 q M rs cs ob (St2 S) hd' (by omega) a5 a4 (λa ha=>by have:m1.nx=S.nx:=congrArg ZS.nx a3; rw [this,hnx]; exact W a ha) (by rw [e3,a3])
      (base S _ hp (Nat.le_refl _) hσ hnx.symm (by rw [show S.h=mabs m from hst.1]; exact (shw_hid _ _).symm) (λ_ hcall=>(notcall (by omega) hcall).elim) (congrArg ZS.σ a2) (by omega) (λj oj _ _ hk2=>by omega) (λj oj _ _ hk2=>by omega) (λj oj _ _ hk1=>by omega))
      (hq.congr (e2 S) hs.rlt) (hM.congr (e2 S) hs.clt) (seen' (λa=>⟨.inl,λh=>h.elim id λh=>by omega⟩) λa=>⟨.inl,λh=>h.elim id λh=>by omega⟩)
     exact ⟨ob',St',by rw [b1,e2 S 0 (Nat.zero_le _)],b2⟩
   · -- reads
     have h:runD n0 k (natK (xKind o.op) _ _ _ _) q M s m c=r:=h;rw [hk1,n1] at h;cases hdst:o.dst with
     | none=>rw [hdst] at h; exact absurd h.symm hb
     | some d=>
      rw [hdst] at h;obtain ⟨g,hg1,hg⟩:=gx_ok (.t d);have h:runD n0 k (@GX.rec (λ_=>DL) (λg=>DL.rd F g (unordL (anc.getD i 0) all) (cs.map λc=>unordB (anc.getD i 0) c) (kopsD lz all rest (anc.drop (i+1)) (Nat.succ i) (i::rs) cs)) (gx (.t d))) q M s m c=r:=h;rw [hg1] at h;have h:F (λs1 _ _=>chkM (cs.map λc=>unordB (anc.getD i 0) c) (again n0 (unordL (anc.getD i 0) all) F g (g s1) s c) M (runD n0 k (kopsD lz all rest (anc.drop (i+1)) (Nat.succ i) (i::rs) cs) (.cons (again n0 (unordL (anc.getD i 0) all) F g (g s1) s c) q) M s1 m c)) s (hideM n0 (unordL (anc.getD i 0) all) m) (noP c)=r:=h;obtain ⟨MH,eH⟩:=hide_abs (anc:=anc) hall MM W i s;obtain ⟨S1,a1,a2,s1,m1,a3,a4,a5⟩:=kop_ok (P:=P) (noP_calls hc) (noP_no c) hF h hb MH (by omega);rw [eH] at a1 a2;have hst:=a1.still (by omega);have hσ1:S1.σ=sabs s1:=by rw [<- a3]; rfl
      let S:ZS:=⟨S1.σ,mabs m,m.nx⟩
      have hSa:S=absS s1 m:=by simp only [S,hσ1,absS]
      have hrc:RCk P sl anc cr n0 h0 nb r (St2 S) i (again n0 (unordL (anc.getD i 0) all) F g (g s1) s c):=again_ok hc hb hall hF hdst (by omega) hg hso (by rw [e2 S i (Nat.le_refl _),hS]; rfl) (by rw [e3,hSa]; exact (hg s1 m).symm);obtain ⟨c1,c2⟩:=chkM_inv hrc hb (hM.congr (e2 S) hs.clt) a5;obtain ⟨ob',St',b1,b2⟩:=runD_ok hc hb hall hcr hlz rest (i+1) s1 m _ M (i::rs) cs ob (St2 S) hd' (by omega) c1 MM W (by rw [e3]; exact hSa)
       (base S S1 a1 (by rw [hst.2]; exact Nat.le_refl _) rfl hst.2 (by rw [hst.1]; exact (shw_hid _ _).symm) (λ_ hcall=>(notcall (by omega) hcall).elim) (by
        show S1.σ=_;rw [a2];simp only [outS,absS,S]
        first | done | (cases o.dst<;>first | rfl | simp only [upd_same])) (by omega) (λj oj _ _ hk2=>by omega) (λj oj _ _ hk2=>by omega) (λj oj hoj hkj _ hcj hji hu=>by
        have:=c2 j (hs.call j oj hji hoj hkj hcj) ((unordB_iff _ _).2 hu) o hso;rw [e2 S i (Nat.le_refl _),e2 S j (by omega),e3] at this;exact this)) ⟨hrc,hq.congr (e2 S) hs.rlt⟩ (hM.congr (e2 S) hs.clt)
       (seen' (λa=>by rw [List.mem_cons]; exact ⟨λh=>h.elim (λe=>.inr ⟨e,hk1⟩) .inl,λh=>h.elim .inr λh=>.inl h.1⟩) λa=>⟨.inl,λh=>h.elim id λh=>by omega⟩)
      exact ⟨ob',St',by rw [b1,e2 S 0 (Nat.zero_le _)],b2⟩
   · -- turns
     have h:runD n0 k (natK (xKind o.op) _ _ _ _) q M s m c=r:=h;rw [hk2,n2] at h;cases hall2:andB (allB (cs.map λc=>Nat.testBit (anc.getD i 0) c)) (notB (andB lz (isCallG o))) with
     | false=>rw [hall2] at h; exact absurd h.symm hb
     | true=>
      rw [hall2] at h;obtain ⟨hallB,hng⟩:=andB_inv hall2;have h:F (λs1 m1 _=>chkQ (rs.map λr=>unordB (anc.getD i 0) r) q (showM n0 (unordL (anc.getD i 0) all) m m1) (runD n0 k (kopsD lz all rest (anc.drop (i+1)) (Nat.succ i) rs (i::cs)) q (m::M) s1 (showM n0 (unordL (anc.getD i 0) all) m m1) c)) s (hideM n0 (unordL (anc.getD i 0) all) m) (guardK n0 (unordL (anc.getD i 0) all) c)=r:=h;obtain ⟨MH,eH⟩:=hide_abs (anc:=anc) hall MM W i s;have hnxH:(hideM n0 (unordL (anc.getD i 0) all) m).nx=m.nx:=congrArg ZS.nx eH;obtain ⟨S1,a1,a2,a6,a7,s1,m1,a3,a4,a5⟩:=kop_det (P:=P) (guardK_ok hc n0 _) (guardK_no n0 _ c) hF h hb MH (by omega);rw [eH] at a1 a2;rw [hnxH] at a6;have hm1:m1.nx=S1.nx:=congrArg ZS.nx a3;have W1:Wide cr n0 nb m1:=λa ha=>⟨(W a ha).1,by have:=(W a ha).2; omega⟩;obtain ⟨M2,n2',h2'⟩:=showM_ok (m0:=m) (n0:=n0) a4 (unordL (anc.getD i 0) all) λj hj=>W1 j ((hall j).1 ((mem_unordL _ _ _).1 hj).1);have W2:Wide cr n0 nb (showM n0 (unordL (anc.getD i 0) all) m m1):=λa ha=>by rw [n2']; exact W1 a ha
      rw [shw_congr (inL_hd hall i)] at h2'
      let S:ZS:=absS s1 (showM n0 (unordL (anc.getD i 0) all) m m1)
      obtain ⟨c1,c2⟩:=chkQ_inv M2 W2 hb (hq.congr (e2 S) hs.rlt) a5;have hall':=allB_inv hallB;have hσ1:S1.σ=sabs s1:=by rw [<- a3]; rfl
      have hqt:(∃ j,cr j=true)->QtC (λr=>¬ Hd anc cr n0 i r) o ⟨sabs s,hid (Hd anc cr n0 i) (mabs m),m.nx⟩ S1:=λhe hcall=>by
       have hgf:isCallG o=false:=by
        rw [hlz he] at hng;cases hcg:isCallG o with
        | false=>rfl
        | true=>rw [hcg] at hng; cases hng
       have A:=a7 hcall hgf;by_cases hnil:unordL (anc.getD i 0) all=[]
       . have hno:∀ r,¬ Hd anc cr n0 i r:=λr hr=>by
          have:=(inL_hd (n0:=n0) (anc:=anc) hall i r).2 hr;rw [hnil] at this; exact inL_nil _ _ this
         exact ⟨λd _=>okR_all hno _,λr x _=>.inr (okO_all hno x)⟩
       . obtain ⟨b1,b2⟩:=A.quiet hnil;have w:∀ r,¬ InL n0 (unordL (anc.getD i 0) all) r->¬ Hd anc cr n0 i r:=λr hr h=>hr ((inL_hd hall i r).2 h);refine ⟨λd hd=>okR_mono w _ (b1 d hd),λr x hx=>?_⟩;rcases b2 r x hx with h | h
         . left;have e:=congrArg (λS:ZS=>S.h r) eH;exact e.symm.trans h
         . exact .inr (ZO.okR_mono w h)
      obtain ⟨ob',St',b1,b2⟩:=runD_ok hc hb hall hcr hlz rest (i+1) s1 _ q (m::M) rs (i::cs) ob (St2 S) hd' (by omega) c1 M2 W2 (e3 S)
       (base S S1 a1 a6 hσ1 (by rw [<- hm1]; exact n2'.symm) (by
        show mabs (showM n0 (unordL (anc.getD i 0) all) m m1)=_;rw [h2',<-a3]; rfl) hqt (by
        show sabs s1=_;rw [<- hσ1];have e:=congrArg ZS.σ a2;rw [e];simp only [outS,absS,S,<-hσ1]
        first | done | (cases o.dst<;>first | rfl | simp only [upd_same])) (by omega) (λj oj hoj hkj _ hcj hji=>hall' _ (List.mem_map.2 ⟨j,hs.call j oj hji hoj hkj hcj,rfl⟩)) (λj oj hoj hkj _ hji hu=>by
        have:=c2 j (hs.rall j oj hji hoj hkj) ((unordB_iff _ _).2 hu) oj hoj;rw [e2 S j (by omega),e2 S (j+1) (by omega)] at this;exact this) (λj oj _ _ hk1=>by omega)) (hq.congr (e2 S) hs.rlt)
       ⟨⟨MM,W,by rw [e2 S i (Nat.le_refl _),hS]; rfl,by rw [e2 S i (Nat.le_refl _),hS]; rfl⟩,hM.congr (e2 S) hs.clt⟩
       (seen' (λa=>⟨.inl,λh=>h.elim id λh=>by omega⟩) λa=>by rw [List.mem_cons]; exact ⟨λh=>h.elim (λe=>.inr ⟨e,hk2,hci⟩) .inl,λh=>h.elim .inr λh=>.inl h.1⟩)
      exact ⟨ob',St',by rw [b1,e2 S 0 (Nat.zero_le _)],b2⟩
   . have h:runD n0 k (natK (xKind o.op) _ _ _ _) q M s m c=r:=h;rw [hk3,n3] at h;exact absurd h.symm hb

theorem mem_creL:∀ (l:List XOp) (i a:Nat),a∈creL l i↔∃ j o,l[j]? =some o/\isCre o=true/\a=i+j
 | [],i,a=>by simp [creL]
 | o::l,i,a=>by
  have h:creL (o::l) i= @Bool.rec (λ_=>List Nat) (creL l (i+1)) (i::creL l (i+1)) (isCre o):=rfl;have ih:=mem_creL l (i+1) a;rw [h];cases e:isCre o with
  | true=>
   show a∈i::creL l (i+1)↔_;rw [List.mem_cons,ih];constructor
   . rintro (h | ⟨j,o',h1,h2,h3⟩)
     . exact ⟨0,o,rfl,e,by omega⟩
     . exact ⟨j+1,o',by simpa using h1,h2,by omega⟩
   . rintro ⟨j,o',h1,h2,h3⟩;cases j with
     | zero=>exact .inl (by omega)
     | succ j=>exact .inr ⟨j,o',by simpa using h1,h2,by omega⟩
  | false=>
   show a∈creL l (i+1)↔_;rw [ih];constructor
   . rintro ⟨j,o',h1,h2,h3⟩;exact ⟨j+1,o',by simpa using h1,h2,by omega⟩
   . rintro ⟨j,o',h1,h2,h3⟩;cases j with
     | zero=>simp at h1; subst h1; rw [e] at h2; cases h2
     | succ j=>exact ⟨j,o',by simpa using h1,h2,by omega⟩
theorem lenX_eq:∀ l:List XOp,lenX l=l.length
 | []=>rfl
 | o::l=>by show Nat.succ (lenX l)=_; rw [lenX_eq l]; rfl

/-- The region as a whole. -/
theorem regD_ok (hc:CallsOK P c) (hb:r≠.bad) {n:Nat} {s:SL} {m:Mem} {e:Ex} (h:kDrawn anc sl e k s m c=r) (M:MOK h0 nb m) {ro:Option Nat} {d:DZ} {Q:Exit->DZ->ZS->Prop} (hQ:∀ S,Post h0 nb k c r S->Q .normal d S):WX P ro n (.regD anc sl) Q d (absS s m):=by
 cases hbad:badD (kopsD false [] sl anc 0 [] []) with
 | false=>
  have h:runD 0 k (kopsD false [] sl anc 0 [] []) .nil [] s m c=r:=by
   have h':(@Bool.rec (λ_=>CK) (kRegD (kopsD false [] sl anc 0 [] [])) (kRegZ (lenX sl) (kopsD true (creL sl 0) sl anc 0 [] [])) (badD (kopsD false [] sl anc 0 [] []))) e k s m c=r:=h;rw [hbad] at h';exact h'
  have hno:∀ {q:Prop},(∃ j:Nat,(λ_:Nat=>false) j=true)->q:=λ⟨_,h⟩=>by cases h
  obtain ⟨ob,St,a1,a2,a3⟩:=runD_ok (P:=P) (sl:=sl) (anc:=anc) (cr:=λ_=>false) (lz:=false) (all:=[]) hc hb (by simp) (by simp) hno sl 0 s m .nil [] [] [] (λ_=>.it none 0 [] 0) (λ_=>absS s m) (by simp) (Nat.zero_le _) (by simpa using h) M (λa ha=>by cases ha) rfl
   ⟨λi o hi=>absurd hi (Nat.not_lt_zero _),λi o hi=>absurd hi (Nat.not_lt_zero _),λi o hi=>absurd hi (Nat.not_lt_zero _),λi hi=>absurd hi (Nat.not_lt_zero _),λi j oi oj hj=>absurd hj (Nat.not_lt_zero _),λi j oi oj hj=>absurd hj (Nat.not_lt_zero _),λi j oi oj hj=>absurd hj (Nat.not_lt_zero _)⟩
   trivial trivial ⟨λa ha=>by simp at ha,λa ha=>by simp at ha,λa o ha=>absurd ha (Nat.not_lt_zero _),λa o ha=>absurd ha (Nat.not_lt_zero _)⟩
  exact WX_regD (N0:=m.nx) a1 (Nat.le_refl _) hno λ_=>⟨a2.whole (λa ha=>(by cases ha)) (λj hj=>(by cases hj)),hQ _ a3⟩
 | true=>
  have h:kRegZ (lenX sl) (kopsD true (creL sl 0) sl anc 0 [] []) e k s m c=r:=by
   have h':(@Bool.rec (λ_=>CK) (kRegD (kopsD false [] sl anc 0 [] [])) (kRegZ (lenX sl) (kopsD true (creL sl 0) sl anc 0 [] [])) (badD (kopsD false [] sl anc 0 [] []))) e k s m c=r:=h;rw [hbad] at h';exact h'
  cases m with
  | mk hp nx nb' dt=>
   have h:frc nx (λnx=>frc (nx+lenX sl) λnx'=> @Bool.rec (λ_=>RR) .bad (runD nx k (kopsD true (creL sl 0) sl anc 0 [] []) .nil [] s (.mk hp nx' nb' dt) c) (Nat.ble nx' 4096))=r:=h;rw [frc_eq,frc_eq] at h;obtain ⟨hble,h⟩:=bad_inv h hb;have hble:=ble_inv hble;rw [lenX_eq] at h hble
   let cr:Nat->Bool:=λa=>match sl[a]? with | some o=>isCre o | none=>false
   have hcr:∀ (a:Nat) (o:XOp),sl[a]? =some o->cr a=(true && isCre o):=λa o ho=>by simp [cr,ho]
   have hlt:∀ a,cr a=true->a<sl.length:=λa ha=>by
    cases e:sl[a]? with
    | none=>simp [cr,e] at ha
    | some o=>exact (List.getElem?_eq_some_iff.1 e).1
   have hall:∀ a,a∈creL sl 0↔cr a=true:=λa=>by
    rw [mem_creL];constructor
    . rintro ⟨j,o,h1,h2,h3⟩;have:a=j:=by omega
      subst this;simp [cr,h1,h2]
    . intro ha;cases e:sl[a]? with
      | none=>simp [cr,e] at ha
      | some o=>exact ⟨a,o,e,by simpa [cr,e] using ha,by omega⟩
   have hM0:nb'=nb:=M.base;have hle:nb'<=nx:=hM0 ▸ M.le;have M2:MOK h0 nb (.mk hp (nx+sl.length) nb' dt):=⟨M.base,Nat.le_trans M.le (Nat.le_add_right _ _),hble,M.keep,M.old,λr hr=>M.free r (Nat.le_trans (Nat.le_add_right _ _) hr)⟩;have hfree:∀ r,nx<=r->mabs (.mk hp nx nb' dt) r=none:=M.free;obtain ⟨ob,St,a1,a2,a3⟩:=runD_ok (P:=P) (sl:=sl) (anc:=anc) (cr:=cr) (n0:=nx) (lz:=true) (all:=creL sl 0) hc hb hall hcr (λ_=>rfl) sl 0 s (.mk hp (nx+sl.length) nb' dt) .nil [] [] [] (λ_=>.it none 0 [] 0) (λ_=>absS s (.mk hp (nx+sl.length) nb' dt)) (by simp) (Nat.zero_le _) (by simpa using h) M2
    (λa ha=>⟨by rw [<- hM0]; omega,by have:=hlt a ha; show nx+a<nx+sl.length; omega⟩) rfl
    ⟨λi o hi=>absurd hi (Nat.not_lt_zero _),λi o hi=>absurd hi (Nat.not_lt_zero _),λi o hi=>absurd hi (Nat.not_lt_zero _),λi hi=>absurd hi (Nat.not_lt_zero _),λi j oi oj hj=>absurd hj (Nat.not_lt_zero _),λi j oi oj hj=>absurd hj (Nat.not_lt_zero _),λi j oi oj hj=>absurd hj (Nat.not_lt_zero _)⟩
    trivial trivial ⟨λa ha=>by simp at ha,λa ha=>by simp at ha,λa o ha=>absurd ha (Nat.not_lt_zero _),λa o ha=>absurd ha (Nat.not_lt_zero _)⟩
   refine WX_regD (N0:=nx+sl.length) (n0:=nx) a1 (Nat.le_add_right _ _) (λ_=>Nat.le_refl _) λ_=>⟨a2.whole hlt λj hj=>?_,hQ _ a3⟩;rw [a1];have:=hlt j hj;exact ⟨hfree (nx+j) (Nat.le_add_right _ _),by show nx+j<nx+sl.length; omega⟩
end
end Go.Zw
namespace Go.Zw
open Go.RowKit (Below)
open Go.Vw (Nul Shape V SX SO SRes width slimRes packed CallsX)

-- where a name stands
noncomputable def posN:List Nat->Nat->Nat->Nat
 | [],_,i=>i
 | x::l,r,i=>if x=r then i else posN l r (i+1)
noncomputable def rho (nb:Nat) (l:List Nat) (r:Nat):Nat:=if r<nb then r else posN l r nb
def domL (nb:Nat) (l:List Nat) (r:Nat):Prop:=r<nb\/r∈l

theorem posK_inv {r:Nat} {f:Nat->RR} {x:RR} (hb:x≠.bad):∀ {l:List Nat} {i:Nat},posK l r f i=x->r∈l/\f (posN l r i)=x
 | [],i,h=>absurd h.symm hb
 | y::l,i,h=>by
  have h: @Bool.rec (λ_=>RR) (posK l r f (i+1)) (frc i f) (Nat.beq y r)=x:=h;cases e:Nat.beq y r with
  | true=>
   rw [e] at h;have h:frc i f=x:=h;rw [frc_eq] at h;have:=beq_inv e;exact ⟨by simp [this],by simp only [posN,if_pos this]; exact h⟩
  | false=>
   rw [e] at h;obtain ⟨h1,h2⟩:=posK_inv hb (l:=l) h;exact ⟨by simp [h1],by simp only [posN,if_neg (bne_inv e)]; exact h2⟩
theorem posN_get:∀ {l:List Nat} {r i:Nat},r∈l->i<=posN l r i/\l[posN l r i-i]? =some r
 | [],r,i,h=>by simp at h
 | y::l,r,i,h=>by
  simp only [posN];by_cases e:y=r
  . rw [if_pos e]; simp [e]
  . rw [if_neg e];have hm:r∈l:=by rcases List.mem_cons.1 h with h | h; exact absurd h.symm e; exact h
    obtain ⟨h1,h2⟩:=posN_get (i:=i+1) hm;refine ⟨by omega,?_⟩;have:posN l r (i+1)-i=(posN l r (i+1)-(i+1))+1:=by omega
    rw [this,List.getElem?_cons_succ];exact h2
theorem newK_inv {nb r:Nat} {l:List Nat} {f:Nat->RR} {x:RR} (h:newK nb l r f=x) (hb:x≠.bad):domL nb l r/\f (rho nb l r)=x:=by
 have h: @Bool.rec (λ_=>RR) (f r) (posK l r f nb) (Nat.ble nb r)=x:=h;cases e:Nat.ble nb r with
 | true=>
  rw [e] at h;obtain ⟨h1,h2⟩:=posK_inv hb h;have:=ble_inv e;exact ⟨.inr h1,by unfold rho; rw [if_neg (by omega)]; exact h2⟩
 | false=>
  rw [e] at h;have:=of_ble_false e;exact ⟨.inl this,by unfold rho; rw [if_pos this]; exact h⟩

section
variable {nb:Nat} {l:List Nat}
mutual
theorem renK_inv:∀ (z:Z) {f:Z->RR} {x:RR},renK (newK nb l) z f=x->x≠.bad->Z.okR (domL nb l) z/\f (Z.ren (rho nb l) z)=x
 | .b x,f,y,h,hb=>⟨trivial,h⟩
 | .i k n,f,y,h,hb=>⟨trivial,h⟩
 | .s x,f,y,h,hb=>⟨trivial,h⟩
 | .nul x,f,y,h,hb=>⟨trivial,h⟩
 | .nil,f,y,h,hb=>⟨trivial,h⟩
 | .any,f,y,h,hb=>⟨trivial,h⟩
 | .sl r o n w,f,y,h,hb=>newK_inv (show newK nb l r (λr=>f (.sl r o n w))=y from h) hb
 | .ptr r j,f,y,h,hb=>newK_inv (show newK nb l r (λr=>f (.ptr r j))=y from h) hb
 | .mp r,f,y,h,hb=>newK_inv (show newK nb l r (λr=>f (.mp r))=y from h) hb
 | .it r,f,y,h,hb=>newK_inv (show newK nb l r (λr=>f (.it r))=y from h) hb
 | .yl r,f,y,h,hb=>newK_inv (show newK nb l r (λr=>f (.yl r))=y from h) hb
 | .clo i u v,f,y,h,hb=>by
  obtain ⟨h1,h2⟩:=renKs_inv u (show renKs (newK nb l) u (λx=>renKs (newK nb l) v λz=>f (.clo i x z))=y from h) hb;obtain ⟨h3,h4⟩:=renKs_inv v h2 hb;exact ⟨⟨h1,h3⟩,h4⟩
 | .ifc T u,f,y,h,hb=>by
  obtain ⟨h1,h2⟩:=renK_inv u (show renK (newK nb l) u (λx=>f (.ifc T x))=y from h) hb;exact ⟨h1,h2⟩
 | .agg cs,f,y,h,hb=>by
  obtain ⟨h1,h2⟩:=renKs_inv cs (show renKs (newK nb l) cs (λx=>f (.agg x))=y from h) hb;exact ⟨h1,h2⟩
 | .tup cs,f,y,h,hb=>by
  obtain ⟨h1,h2⟩:=renKs_inv cs (show renKs (newK nb l) cs (λx=>f (.tup x))=y from h) hb;exact ⟨h1,h2⟩
theorem renKs_inv:∀ (zs:List Z) {f:List Z->RR} {x:RR},renKs (newK nb l) zs f=x->x≠.bad->Z.oksR (domL nb l) zs/\f (Z.rens (rho nb l) zs)=x
 | [],f,y,h,hb=>⟨trivial,h⟩
 | z::zs,f,y,h,hb=>by
  obtain ⟨h1,h2⟩:=renK_inv z (show renK (newK nb l) z (λx=>renKs (newK nb l) zs λr=>f (x::r))=y from h) hb;obtain ⟨h3,h4⟩:=renKs_inv zs h2 hb;exact ⟨⟨h1,h3⟩,h4⟩
end
theorem rensK_inv:∀ (zs:List Z) {f:List Z->RR} {x:RR},rensK (newK nb l) zs f=x->x≠.bad->Z.oksR (domL nb l) zs/\f (Z.rens (rho nb l) zs)=x
 | [],f,y,h,hb=>⟨trivial,h⟩
 | z::zs,f,y,h,hb=>by
  obtain ⟨h1,h2⟩:=renK_inv z (show renK (newK nb l) z (λx=>rensK (newK nb l) zs λr=>f (x::r))=y from h) hb;obtain ⟨h3,h4⟩:=rensK_inv zs h2 hb;exact ⟨⟨h1,h3⟩,h4⟩
theorem renEs_inv:∀ (es:List (Z × Z × Nat)) {f:List (Z × Z × Nat)->RR} {x:RR},renEs (newK nb l) es f=x->x≠.bad->
 (∀ e∈es,Z.okR (domL nb l) e.1/\Z.okR (domL nb l) e.2.1)/\f (es.map λe=>(Z.ren (rho nb l) e.1,Z.ren (rho nb l) e.2.1,e.2.2))=x
 | [],f,y,h,hb=>⟨λe he=>by simp at he,h⟩
 | (k,v,b)::es,f,y,h,hb=>by
  obtain ⟨h1,h2⟩:=renK_inv k (show renK (newK nb l) k (λk=>renK (newK nb l) v λv=>renEs (newK nb l) es λl=>f ((k,v,b)::l))=y from h) hb;obtain ⟨h3,h4⟩:=renK_inv v h2 hb;obtain ⟨h5,h6⟩:=renEs_inv es h4 hb;refine ⟨λe he=>?_,h6⟩;rcases List.mem_cons.1 he with rfl | he
  . exact ⟨h1,h3⟩
  . exact h5 e he
theorem renO_inv {o:ZO} {f:ZO->RR} {x:RR} (h:renO (newK nb l) o f=x) (hb:x≠.bad):o.okR (domL nb l)/\f (o.ren (rho nb l))=x:=by
 cases o with
 | ob T fx cs=>exact rensK_inv cs (f:=λcs=>f (.ob T fx cs)) h hb
 | mp es c=>exact renEs_inv es (f:=λes=>f (.mp es c)) h hb
 | it m a b c=>
  cases m with
  | none=>exact ⟨λr hr=>by simp at hr,h⟩
  | some r=>
   obtain ⟨h1,h2⟩:=newK_inv (show newK nb l r (λr=>f (.it (some r) a b c))=x from h) hb;exact ⟨λq hq=>by simp at hq; rw [<- hq]; exact h1,h2⟩
 | lp c σ st=>exact rensK_inv σ (f:=λσ=>f (.lp c σ st)) h hb
theorem upsR_inv {m:Mem}:∀ (dt:List Nat) {f:List (Nat × Option ZO)->RR} {x:RR},upsR (newK nb l) m dt f=x->x≠.bad->
 (∀ r∈dt,∀ o,mget r m=some o->o.okR (domL nb l))/\f (dt.map λr=>(r,(mget r m).map (ZO.ren (rho nb l))))=x
 | [],f,y,h,hb=>⟨λr hr=>by simp at hr,h⟩
 | r::dt,f,y,h,hb=>by
  cases e:mget r m with
  | none=>
   have h: @Option.rec ZO (λ_=>RR) (upsR (newK nb l) m dt λl=>f ((r,none)::l)) (λo=>renO (newK nb l) o λo=>upsR (newK nb l) m dt λl=>f ((r,some o)::l)) (mget r m)=y:=h;rw [e] at h;obtain ⟨h1,h2⟩:=upsR_inv dt h hb;refine ⟨λq hq o ho=>?_,by simp only [List.map_cons,e,Option.map_none]; exact h2⟩;rcases List.mem_cons.1 hq with rfl | hq
   . rw [e] at ho; cases ho
   . exact h1 q hq o ho
  | some o'=>
   have h: @Option.rec ZO (λ_=>RR) (upsR (newK nb l) m dt λl=>f ((r,none)::l)) (λo=>renO (newK nb l) o λo=>upsR (newK nb l) m dt λl=>f ((r,some o)::l)) (mget r m)=y:=h;rw [e] at h;obtain ⟨h0,h⟩:=renO_inv h hb;obtain ⟨h1,h2⟩:=upsR_inv dt h hb;refine ⟨λq hq o ho=>?_,by simp only [List.map_cons,e,Option.map_some]; exact h2⟩;rcases List.mem_cons.1 hq with rfl | hq
   . rw [e,Option.some.injEq] at ho; subst ho; exact h0
   . exact h1 q hq o ho
theorem newsR_inv {m:Mem}:∀ (q:List Nat) {i:Nat} {f:List ZO->RR} {x:RR},newsR (newK nb l) nb m q i f=x->x≠.bad->
 ∃ news:List ZO,f news=x/\news.length=q.length/\∀ j r,q[j]? =some r->nb<=r/\rho nb l r=i+j/\∃ o,mget r m=some o/\o.okR (domL nb l)/\news[j]? =some (o.ren (rho nb l))
 | [],i,f,y,h,hb=>⟨[],h,rfl,λj r hj=>by simp at hj⟩
 | r::q,i,f,y,h,hb=>by
  have h: @Bool.rec (λ_=>RR) .bad (newK nb l r λj=> @Bool.rec (λ_=>RR) .bad (@Option.rec ZO (λ_=>RR) .bad (λo=>renO (newK nb l) o λo=>newsR (newK nb l) nb m q (i+1) λl=>f (o::l)) (mget r m)) (Nat.beq j i)) (Nat.ble nb r)=y:=h;obtain ⟨h1,h⟩:=bad_inv h hb;obtain ⟨_,h⟩:=newK_inv h hb;obtain ⟨h2,h⟩:=bad_inv h hb;cases e:mget r m with
  | none=>rw [e] at h; exact absurd h.symm hb
  | some o=>
   rw [e] at h;obtain ⟨h3,h⟩:=renO_inv h hb;obtain ⟨news,a1,a2,a3⟩:=newsR_inv q h hb;refine ⟨o.ren (rho nb l)::news,a1,by simp [a2],λj r' hj=>?_⟩;cases j with
   | zero=>
    simp at hj; subst hj;exact ⟨ble_inv h1,by rw [beq_inv h2]; rfl,o,e,h3,rfl⟩
   | succ j=>
    obtain ⟨b1,b2,b3⟩:=a3 j r' (by simpa using hj);exact ⟨b1,by rw [b2]; omega,by simpa using b3⟩
end

theorem frcL_inv:∀ (l:List Nat) {f:List Nat->RR} {x:RR},frcL l f=x->f l=x
 | [],f,x,h=>h
 | r::l,f,x,h=>frcL_inv l (f:=λl=>f (r::l)) h

-- names that stay
mutual
theorem ren_id {ρ:Nat->Nat} {n:Nat} (hρ:∀ r,r<n->ρ r=r):∀ z:Z,Z.okR (· < n) z->Z.ren ρ z=z
 | .b x,_=>rfl
 | .i k n,_=>rfl
 | .s x,_=>rfl
 | .nul x,_=>rfl
 | .nil,_=>rfl
 | .any,_=>rfl
 | .sl r o n w,h=>by simp only [Z.ren,hρ r h]
 | .ptr r j,h=>by simp only [Z.ren,hρ r h]
 | .mp r,h=>by simp only [Z.ren,hρ r h]
 | .it r,h=>by simp only [Z.ren,hρ r h]
 | .yl r,h=>by simp only [Z.ren,hρ r h]
 | .clo i u v,h=>by simp only [Z.ren,rens_id hρ u h.1,rens_id hρ v h.2]
 | .ifc T u,h=>by simp only [Z.ren,ren_id hρ u h]
 | .agg cs,h=>by simp only [Z.ren,rens_id hρ cs h]
 | .tup cs,h=>by simp only [Z.ren,rens_id hρ cs h]
theorem rens_id {ρ:Nat->Nat} {n:Nat} (hρ:∀ r,r<n->ρ r=r):∀ zs:List Z,Z.oksR (· < n) zs->Z.rens ρ zs=zs
 | [],_=>rfl
 | z::zs,h=>by simp only [Z.rens,ren_id hρ z h.1,rens_id hρ zs h.2]
end
theorem renO_id {ρ:Nat->Nat} {n:Nat} (hρ:∀ r,r<n->ρ r=r) {o:ZO} (h:o.okR (· < n)):o.ren ρ=o:=by
 cases o with
 | ob T fx cs=>simp only [ZO.ren,rens_id hρ cs h]
 | mp es c=>
  have:es.map (λe=>(Z.ren ρ e.1,Z.ren ρ e.2.1,e.2.2))=es:=by
   have:∀ e∈es,(Z.ren ρ e.1,Z.ren ρ e.2.1,e.2.2)=e:=λe he=>by rw [ren_id hρ _ (h e he).1,ren_id hρ _ (h e he).2]
   rw [List.map_congr_left this]; simp
  simp only [ZO.ren,this]
 | it m a b c=>
  cases m with
  | none=>rfl
  | some r=>simp only [ZO.ren,Option.map_some,hρ r (h r rfl)]
 | lp c σ st=>simp only [ZO.ren,rens_id hρ σ h]

theorem upsF_notin:∀ {ups:List (Nat × Option ZO)} {h:Nat->Option ZO} {q:Nat},(∀ u∈ups,u.1≠q)->upsF h ups q=h q
 | [],h,q,_=>rfl
 | u::us,h,q,hn=>by
  show upsF (upd h u.1 u.2) us q=h q;rw [upsF_notin (λv hv=>hn v (by simp [hv])),upd_ne _ _ (λe=>hn u (by simp) e.symm)]
theorem upsF_map {g:Nat->Option ZO}:∀ {dt:List Nat} {h:Nat->Option ZO} {q:Nat},q∈dt->upsF h (dt.map λr=>(r,g r)) q=g q
 | r::dt,h,q,hq=>by
  show upsF (upd h r (g r)) (dt.map λr=>(r,g r)) q=g q;by_cases hm:q∈dt
  . exact upsF_map hm
  . have e:q=r:=by rcases List.mem_cons.1 hq with h | h; exact h; exact absurd h hm
    rw [upsF_notin (λu hu=>?_),e,upd_same];obtain ⟨x,hx,rfl⟩:=List.mem_map.1 hu;intro e; exact hm (e ▸ hx)
theorem newsF_lt:∀ {news:List ZO} {h:Nat->Option ZO} {nx q:Nat},q<nx->newsF h nx news q=h q
 | [],h,nx,q,_=>rfl
 | o::os,h,nx,q,hq=>by
  show newsF (upd h nx (some o)) (nx+1) os q=h q;rw [newsF_lt (by omega),upd_ne _ _ (by omega)]
theorem newsF_get:∀ {news:List ZO} {h:Nat->Option ZO} {nx j:Nat},j<news.length->newsF h nx news (nx+j)=news[j]?
 | o::os,h,nx,0,_=>by
  show newsF (upd h nx (some o)) (nx+1) os nx=some o;rw [newsF_lt (by omega),upd_same]
 | o::os,h,nx,j+1,hj=>by
  show newsF (upd h nx (some o)) (nx+1) os (nx+(j+1))=_;rw [show nx+(j+1)=nx+1+j by omega,newsF_get (by simpa using hj)]; rfl
theorem newsF_ge:∀ {news:List ZO} {h:Nat->Option ZO} {nx q:Nat},nx+news.length<=q->newsF h nx news q=h q
 | [],h,nx,q,_=>rfl
 | o::os,h,nx,q,hq=>by
  simp only [List.length_cons] at hq;show newsF (upd h nx (some o)) (nx+1) os q=h q;rw [newsF_ge (by omega),upd_ne _ _ (by omega)]

/-- What is new is called otherwise: the heap. -/
theorem compact_post {h:Nat->Option ZO} {nx:Nat} {w0:Bs} {w':World} {μ':Gh} {nx':Nat} {h':Nat->Option ZO} (okh:∀ q o,h q=some o->q<nx/\o.okR (· < nx)) (hN:w0.N<=nx) (H':HeapOK w' w0 μ' nx' h')
 {l dt:List Nat} {ups:List (Nat × Option ZO)} {news:List ZO} {zs':List Z} {vs:List Value}
 (a1:∀ r,r<nx->r ∉ dt->h' r=h r) (a2:∀ r∈dt,r<nx) (a3:Z.oksR (domL nx l) zs')
 (a5:∀ r∈dt,∀ o,h' r=some o->o.okR (domL nx l)) (hups:ups=(dt.map λr=>(r,(h' r).map (ZO.ren (rho nx l))))) (a7:news.length=l.length)
 (a8:∀ j r,l[j]? =some r->nx<=r/\rho nx l r=nx+j/\∃ o,h' r=some o/\o.okR (domL nx l)/\news[j]? =some (o.ren (rho nx l)))
 (hvr:∀ j (hj:j<zs'.length),RelZ μ' nx' (zs'[j]) (vs.getD j undef)):
 ∃ μ2,HeapOK w' w0 μ2 (nx+news.length) (newsF (upsF h ups) nx news)/\(∀ r,r<nx->μ2 r=μ' r)/\∀ j (hj:j<(Z.rens (rho nx l) zs').length),RelZ μ2 (nx+news.length) ((Z.rens (rho nx l) zs')[j]) (vs.getD j undef):=by
 subst hups
 let μ2:Gh:=λq=>if q<nx then μ' q else μ' (l.getD (q-nx) 0)
 let β:Nat->Nat:=λq=>if q<nx then q else l.getD (q-nx) 0
 have hgl:∀ j r,l[j]? =some r->l.getD j 0=r:=λj r hj=>by rw [List.getD_eq_getElem?_getD,hj]; rfl
 have hρ:∀ r,r<nx->rho nx l r=r:=λr hr=>by unfold rho; rw [if_pos hr]
 have hdom:∀ r,domL nx l r->rho nx l r<nx+news.length/\μ2 (rho nx l r)=μ' r:=λr hd=>by
  by_cases hlt:r<nx
  . rw [hρ r hlt]; exact ⟨by omega,by simp [μ2,hlt]⟩
  . have hm:r∈l:=hd.resolve_left hlt;obtain ⟨j,hj⟩:=List.mem_iff_getElem?.1 hm;obtain ⟨b1,b2,_⟩:=a8 j r hj;have hjl:j<l.length:=(List.getElem?_eq_some_iff.1 hj).1;rw [b2];refine ⟨by omega,?_⟩;simp only [μ2];rw [if_neg (by omega),show nx+j-nx=j by omega,hgl j r hj]
 have hold:∀ q,q<nx->newsF (upsF h (dt.map λr=>(r,(h' r).map (ZO.ren (rho nx l))))) nx news q=if q∈dt then (h' q).map (ZO.ren (rho nx l)) else h q:=λq hq=>by
  rw [newsF_lt hq];by_cases hm:q∈dt
  . rw [if_pos hm,upsF_map (g:=λr=>(h' r).map (ZO.ren (rho nx l))) hm]
  . rw [if_neg hm,upsF_notin];intro u hu;obtain ⟨x,hx,rfl⟩:=List.mem_map.1 hu;intro e; exact hm (e ▸ hx)
 refine ⟨μ2,?_,λr hr=>by simp only [μ2,hr,if_true],λj hj=>?_⟩
 . refine H'.rename (ρ:=rho nx l) (β:=β) (Nat.le_trans hN (Nat.le_add_right _ _)) (λr hr=>?_) (λq o' hq=>?_) (λq q' h1 h2 he=>?_)
   . simp only [μ2];rw [if_pos (by omega)];exact H'.base.2 r hr
   . rcases Nat.lt_or_ge q nx with hlt | hge
     . rw [hold q hlt] at hq;have hb:β q=q:=by simp [β,hlt]
       refine ⟨by omega,?_⟩;rw [hb];by_cases hm:q∈dt
       . rw [if_pos hm] at hq;cases e:h' q with
         | none=>rw [e] at hq; cases hq
         | some o=>
          rw [e] at hq;simp only [Option.map_some,Option.some.injEq] at hq;exact ⟨o,rfl,by simp [μ2,hlt],hq.symm,ZO.okR_mono (λr hd=>hdom r hd) (a5 q hm o e)⟩
       . rw [if_neg hm] at hq;have hok:=(okh q o' hq).2;refine ⟨o',by rw [a1 q hlt hm]; exact hq,by simp [μ2,hlt],(renO_id hρ hok).symm,ZO.okR_mono (λr hr=>hdom r (.inl hr)) hok⟩
     . rcases Nat.lt_or_ge (q-nx) news.length with hj | hj
       . have e:q=nx+(q-nx):=by omega
         rw [e,newsF_get hj] at hq;obtain ⟨r,hr⟩:∃ r,l[q-nx]? =some r:=⟨l[q-nx]'(by omega),by rw [List.getElem?_eq_getElem]⟩;obtain ⟨b1,b2,o,b3,b4,b5⟩:=a8 _ r hr;rw [b5,Option.some.injEq] at hq;have hb:β q=r:=by simp only [β]; rw [if_neg (by omega),hgl _ r hr]
         rw [hb];refine ⟨by omega,o,b3,?_,hq.symm,ZO.okR_mono (λr hd=>hdom r hd) b4⟩;simp only [μ2]; rw [if_neg (by omega),hgl _ r hr]
       . exfalso;rw [newsF_ge (by omega),upsF_notin] at hq
         . have:=(okh q o' hq).1; omega
         . intro u hu;obtain ⟨x,hx,rfl⟩:=List.mem_map.1 hu;have:=a2 x hx;show x≠q;omega
   . have hlive:∀ q,newsF (upsF h (dt.map λr=>(r,(h' r).map (ZO.ren (rho nx l))))) nx news q≠none->nx<=q->∃ r,l[q-nx]? =some r/\β q=r/\nx<=r/\rho nx l r=nx+(q-nx):=λq hq hge=>by
      rcases Nat.lt_or_ge (q-nx) news.length with hj | hj
      . obtain ⟨r,hr⟩:∃ r,l[q-nx]? =some r:=⟨l[q-nx]'(by omega),by rw [List.getElem?_eq_getElem]⟩;obtain ⟨b1,b2,_⟩:=a8 _ r hr;exact ⟨r,hr,by simp only [β]; rw [if_neg (by omega),hgl _ r hr],b1,b2⟩
      . exfalso;rw [newsF_ge (by omega),upsF_notin] at hq
        . cases e:h q with
          | none=>exact hq e
          | some o=>have:=(okh q o e).1; omega
        . intro u hu;obtain ⟨x,hx,rfl⟩:=List.mem_map.1 hu;have:=a2 x hx;show x≠q;omega
     rcases Nat.lt_or_ge q nx with c1 | c1<;>rcases Nat.lt_or_ge q' nx with c2 | c2
     . simpa [β,c1,c2] using he
     . obtain ⟨r,_,d1,d2,_⟩:=hlive q' h2 c2;have hb:β q=q:=by simp [β,c1]
       rw [hb,d1] at he; omega
     . obtain ⟨r,_,d1,d2,_⟩:=hlive q h1 c1;have hb:β q'=q':=by simp [β,c2]
       rw [hb,d1] at he; omega
     . obtain ⟨r,_,d1,d2,d3⟩:=hlive q h1 c1;obtain ⟨r',_,e1,e2,e3⟩:=hlive q' h2 c2;rw [d1,e1] at he;subst he;omega
 . rw [rens_length] at hj;simp only [rens_map,List.getElem_map];have hd:=(oksR_iff _ _).1 a3 _ (List.getElem_mem hj);exact (hvr j hj).ren (okR_mono (λr hr=>hdom r hr) _ hd)

/-- What is new is called otherwise behind a call. -/
theorem SpecZ.compact {P:Program} {f:FuncId} {h:Nat->Option ZO} {nx:Nat} {args:List Z} {R0:(Nat->Option ZO)->Nat->List Z->Prop} (hS:SpecZ P f h nx args R0) {zs:List Z} {ups:List (Nat × Option ZO)} {news:List ZO}
 (hR:∀ h' nx' zs',R0 h' nx' zs'->∃ (l dt:List Nat),(∀ r,r<nx->r ∉ dt->h' r=h r)/\(∀ r∈dt,r<nx)/\Z.oksR (domL nx l) zs'/\zs=Z.rens (rho nx l) zs'/\
  (∀ r∈dt,∀ o,h' r=some o->o.okR (domL nx l))/\ups=(dt.map λr=>(r,(h' r).map (ZO.ren (rho nx l))))/\news.length=l.length/\
  ∀ j r,l[j]? =some r->nx<=r/\rho nx l r=nx+j/\∃ o,h' r=some o/\o.okR (domL nx l)/\news[j]? =some (o.ren (rho nx l))):
 SpecZ P f h nx args λh' nx' zs'=>zs'=zs/\nx'=nx+news.length/\h'=newsF (upsF h ups) nx news:=by
 intro w0 w μ vals H hk hl hrel;refine (hS w0 w μ vals H hk hl hrel).mono ?_;rintro e w' ⟨h',nx',zs',vs,μ',hr,rfl,H',hnx,hμ,hk',hvl,hvr⟩;obtain ⟨l,dt,a1,a2,a3,rfl,a5,a6,a7,a8⟩:=hR h' nx' zs' hr;obtain ⟨μ2,b1,b2,b3⟩:=compact_post (λq o hq=>⟨(H.obj q o hq).1,(H.obj q o hq).2.2.okR⟩) H.base.1 H' a1 a2 a3 a5 a6 a7 a8 hvr;exact ⟨_,_,_,vs,μ2,⟨rfl,rfl,rfl⟩,rfl,b1,by omega,λr hr=>(b2 r hr).trans (hμ r hr),hk',by rw [rens_length]; exact hvl,b3⟩
end Go.Zw
namespace Go.Zw
open Go.RowKit (Below)
open Go.Vw (Nul Shape V SX SO SRes width slimX slimXs slimRes resRun results_run packed CallsX)

/-- The beginning moved up to here. -/
def Bs.at (w1:Bs) (w:World) (μ:Gh) (N:Nat) (pr:Nat->Prop) (old:∀ b,pr b->b<w.heap.size) (ds:List Deferred):Bs:=⟨w,μ,N,pr,old,ds⟩

theorem Keep.old {w0:Bs} {w:World} (k:Keep w0 w) {b:Nat} (h:w0.pr b):b<w.heap.size:=Nat.lt_of_lt_of_le (w0.old b h) k.size

section
variable {P:Program} {n:Nat} {Q:Exit->DZ->ZS->Prop} {S:ZS}

theorem dfr_inv {o:Oper} {x:SX} (h:dfrX P o=some x):∃ c px,o.op= .defer c/\c.callee= .value px/\c.args.size=0/\o.guard=none/\o.dst=none/\slimX P 0 px=some x:=by
 unfold dfrX at h;split at h
 . rename_i c hop;split at h
   . rename_i px hc;split at h
     . rename_i hb;simp only [Bool.and_eq_true,beq_iff_eq,Option.isNone_iff_eq_none] at hb;exact ⟨c,px,hop,hc,hb.1.1,hb.1.2,hb.2,h⟩
     . cases h
   . cases h
 . cases h

theorem WX_dfr {ops:List XOp} {x:SX} (h:RunX P (λS1=>∃ f caps,S1.ev x= .clo f [] caps/\Q .normal (.clo (.clo f [] caps)) S1) (λv S=>Q (.panic [{ v,recovered:=false }]) .clean S) ops S):WX P none n (.dfr ops x) Q .clean S:=by
 intro m c hc w0 a w hR;cases c<;>simp only [xslimCode,reduceCtorEq,Option.map_eq_some_iff,and_false,exists_false,Option.some.injEq] at hc<;>(try (revert hc; (repeat' split)<;>simp; done));rename_i id os draw;obtain ⟨w1,E,hR1⟩:=hR;cases hdf:dfrOf P os.toList with
 | none=>
  exfalso;revert hc;cases draw<;>simp only [hdf]<;>(repeat' split)<;>simp
 | some x'=>
  cases draw with
  | true=>simp [hdf] at hc
  | false=>
   simp only [hdf,Option.map_eq_some_iff,XC.dfr.injEq] at hc;obtain ⟨l,hl,rfl,rfl⟩:=hc;obtain ⟨o,hlast,hdo⟩:=Option.bind_eq_some_iff.1 (show (os.toList.getLast?).bind (dfrX P)=some x' from hdf);obtain ⟨c,px,hop,hcal,hargs,hg,hdst,hpx⟩:=dfr_inv hdo;have hne:os.toList≠[]:=λe=>by rw [e] at hlast; cases hlast
   have hsz:0<os.size:=by
    rcases Nat.eq_zero_or_pos os.size with e | e
    . exact absurd (by simpa using e) hne
    . exact e
   have hget:os[os.size-1]? =some o:=by
    rw [List.getLast?_eq_getElem?] at hlast
    simpa using hlast
   refine wpIn_region ?_;have hrange:List.range os.size=List.range' 0 os.toList.dropLast.length++[os.size-1]:=by
    rw [List.length_dropLast,Array.length_toList,<-List.range_eq_range']
    conv=>lhs; rw [show os.size=(os.size-1)+1 by omega]
    exact List.range_succ
   rw [hrange];refine xrun_region (ro:=none) (m:=m) (w0:=w1) (Q':=λe a' w'=>∃ d' S',Q e d' S'/\RelE w0 n d' S' a' w') [os.size-1] (λS' a' w' hS hR=>?_) (λv S' a' w' hS hR=>⟨.clean,S',hS,w1,E,hR⟩) os.toList.dropLast 0 l S a w ?_ hl h hR1
   . obtain ⟨f,caps,hev,hq⟩:=hS;obtain ⟨μ,H,rel⟩:=hR.ex;have hfv:=ev_rel hpx rel;rw [hev] at hfv;have ⟨cv,hcv,hcl,hcr⟩:∃ cv:Array Value,a'.eval px= .func (.func f) #[] cv/\cv.size=caps.length/\(∀ j (h:j<caps.length),RelZ μ S'.nx (caps[j]) (cv.getD j undef)):=by
      generalize a'.eval px=fv at hfv;cases hfv with
      | clo _ _ _ vf vc h1 h2 h3 h4=>
       have:vf=#[]:=Array.eq_empty_of_size_eq_zero (by simpa using h1);subst this;exact ⟨vc,rfl,h2,h4⟩
     have ha:c.args=#[]:=Array.eq_empty_of_size_eq_zero hargs;have hrun:(execOp a'.eval o).run P w'= .ok (.defer { target:=.fn (.func f) cv,args:=#[] }) w':=by
      simp [execOp,hop,resolve,hcal,hcv,Deferred.ofValue,Sem.run_bind,Sem.run_pure,Result.andThen_ok,ha]
     show wpOpIn (Fx none) m P os _ (os.size-1) _ a' w';unfold wpOpIn;simp only [hget];rw [if_pos (by simp [Region.wanted,hg])];refine ⟨λf _=>fx_fn none f,?_⟩;have:(Fx none).round=none:=rfl;rw [this,Oper.semAt_none,hrun];show ∃ d' S'',Q .normal d' S''/\RelE w0 n d' S'' _ w';refine ⟨_,S',hq,⟨w',μ,S'.nx,w1.pr,λb hb=>hR.below.old hb,[{ target:=.fn (.func f) cv,args:=#[] }]⟩,⟨E.pr,Keep.trans E.pr E.keep hR.below,⟨Nat.le_trans E.base.1 H.base.1,λr hr=>(H.base.2 r (Nat.lt_of_lt_of_le hr E.base.1)).trans (E.base.2 r hr)⟩,f,caps,cv,rfl,rfl,hcl,hcr⟩,?_⟩;refine ⟨⟨μ,⟨H.obj,H.inj,Nat.le_refl _,λ_ _=>rfl⟩,λt=>?_⟩,⟨rfl,rfl,rfl,Nat.le_refl _,λ_ _=>rfl,hR.below.layAt λ_ h=>h⟩,?_,?_⟩
     . have:=rel t
       simpa [Act.put,hdst] using this
     . have:=hR.size
       simpa [Act.put,hdst] using this
     . have hds:w1.ds=[]:=E.ds;have:=hR.defers;simp [Act.put,hdst,this,hds]
   . intro j hj;rw [List.length_dropLast] at hj;have:j<os.toList.length-1:=hj;rw [List.getElem?_dropLast,if_pos this];simp
end
end Go.Zw
namespace Go.Zw
open Go.RowKit (Below)
open Go.Vw (Nul Shape V SX SO SRes width slimX slimXs slimRes resRun results_run packed CallsX)

/-- Parameters set. -/
def setZ:List Nat->List Z->(Nat->Z)->Nat->Z
 | p::ps,a::as,σ=>setZ ps as (upd σ p a)
 | _,_,σ=>σ

theorem setZ_rel {μ:Gh} {N:Nat}:∀ {ps:List Nat} {vals:List Value} {args:List Z} {tmps:Array Value} {σ:Nat->Z},vals.length=args.length->(∀ j (hj:j<args.length),RelZ μ N (args[j]) (vals.getD j undef))->(∀ p∈ps,p<tmps.size)->
 (∀ t,RelZ μ N (σ t) (tmps.getD t undef))->((ps.zip vals).foldl (λtmps (t,a)=>tmps.setIfInBounds t a) tmps).size=tmps.size/\∀ t,RelZ μ N (setZ ps args σ t) (((ps.zip vals).foldl (λtmps (t,a)=>tmps.setIfInBounds t a) tmps).getD t undef)
 | [],vals,args,tmps,σ,hl,hr,hp,h=>by
  cases args<;>exact ⟨rfl,h⟩
 | p::ps,[],args,tmps,σ,hl,hr,hp,h=>by
  cases args with
  | nil=>exact ⟨rfl,h⟩
  | cons a as=>simp at hl
 | p::ps,v::vals,[],tmps,σ,hl,hr,hp,h=>by simp at hl
 | p::ps,v::vals,a::as,tmps,σ,hl,hr,hp,h=>by
  have hpp:=hp p (by simp);have ih:=setZ_rel (ps:=ps) (vals:=vals) (args:=as) (tmps:=tmps.setIfInBounds p v) (σ:=upd σ p a) (by simpa using hl) (λj hj=>by have:=hr (j+1) (by simpa using hj); simpa using this)
   (λq hq=>by simpa using hp q (by simp [hq])) (λt=>by
    rw [upd_apply];by_cases e:t=p
    . subst e;rw [if_pos rfl];have:=hr 0 (by simp)
      simpa [Array.getD_eq_getD_getElem?,Array.getElem?_setIfInBounds,hpp] using this
    . rw [if_neg e];have:=h t
      simpa [Array.getD_eq_getD_getElem?,Array.getElem?_setIfInBounds,Ne.symm e] using this)
  refine ⟨by simpa using ih.1,ih.2⟩

theorem fx_in (ro:Option Nat) (l:Nat):(Fx ro).inRound l=Fx (some l):=by cases ro<;>rfl

section
variable {P:Program}

/-- What is asked behind a round's body. -/
def roundQ (q:Nat) (lc:LC) (σ:List Z) (R:(Nat->Option ZO)->Nat->List Z->Prop):Exit->DZ->ZS->Prop:=λe d S=>d= .clean/\match e with
 | .normal=>R (upd S.h q (some (.lp lc σ .ready))) S.nx [.b true]
 | .ret=>R (upd S.h q (some (.lp lc σ (.done 0 0)))) S.nx [.b false]
 | .exit id=>R (upd S.h q (some (.lp lc σ (.done 1 id)))) S.nx [.b false]
 | _=>False

theorem specY_of {q:Nat} {lc:LC} {σ:List Z} {xa xb:XC} {h:Nat->Option ZO} {nx:Nat} {args:List Z} {R:(Nat->Option ZO)->Nat->List Z->Prop} (hq:h q=some (.lp lc σ .ready)) (hps:∀ p∈lc.ps.toList,p<σ.length) (hlen:args.length=lc.ps.size)
 (ha:xslimCode P σ.length lc.asg=some xa) (hb:xslimCode P σ.length lc.body=some xb)
 (hW:∀ l,WX P (some l) σ.length xa (λe d S1=>e= .normal/\d= .clean/\WX P (some l) σ.length xb (roundQ q lc σ R) .clean S1) .clean ⟨setZ lc.ps.toList args (λt=>(σ[t]?).getD (.tup [])),upd h q none,nx⟩):SpecY P q h nx args R:=by
 intro ro m w0 w μ vals H hk hl hrel;obtain ⟨hqn,hqp,rc,hrc,e1,e2,e3,e4,e5,e6,e7⟩:=H.obj q _ hq;refine ⟨rc.fn,((rc.params.zip vals).foldl (λtmps (t,a)=>tmps.setIfInBounds t a) rc.tmps),lc.asg,lc.body,?_,?_⟩
 . rw [run_yield hrc (by rw [e1,hl,hlen]),e2,e3]
 obtain ⟨wr,hwr⟩:∃ wr:Bs,wr=⟨w,μ,nx,λb=>w0.pr b\/b=(μ q).1,λb hb=>hb.elim (λhb=>hk.old hb) (λe=>by rw [e]; exact (Array.getElem?_eq_some_iff.1 hrc).1),[]⟩:=⟨_,rfl⟩;have hne:∀ r o,upd h q none r=some o->r≠q/\h r=some o:=λr o ho=>by
  by_cases e:r=q
  . subst e; rw [upd_same] at ho; cases ho
  . rw [upd_ne _ _ e] at ho; exact ⟨e,ho⟩
 have Hr:HeapOK w wr μ nx (upd h q none):=by
  subst hwr;refine ⟨λr o ho=>?_,?_,Nat.le_refl _,λ_ _=>rfl⟩
  . obtain ⟨e,ho⟩:=hne r o ho;obtain ⟨a1,a2,a3⟩:=H.obj r o ho;exact ⟨a1,λhp=>hp.elim a2 λeb=>e (H.inj r q (by rw [ho]; simp) (by rw [hq]; simp) eb),a3⟩
  . exact (H.drop (h':=upd h q none) λr=>by by_cases e:r=q<;>simp [upd_apply,e]).inj
 have hsl:=setZ_rel (μ:=μ) (N:=nx) (ps:=lc.ps.toList) (vals:=vals.toList) (args:=args) (tmps:=rc.tmps) (σ:=λt=>(σ[t]?).getD (.tup [])) (by simpa using hl) (λj hj=>by have:=hrel j hj; simpa [Array.getD_eq_getD_getElem?,List.getD] using this)
  (λp hp=>by rw [e4]; exact hps p hp) (λt=>by
   by_cases ht:t<σ.length
   . have:=e5 t ht
     simpa [ht] using this
   . have h1:σ[t]? =none:=List.getElem?_eq_none (by omega);have h2:rc.tmps[t]? =none:=Array.getElem?_eq_none (by omega);rw [h1,Array.getD_eq_getD_getElem?,h2];exact .tup _ _ rfl (by simp))
 have hfold:((rc.params.zip vals).foldl (λtmps (t,a)=>tmps.setIfInBounds t a) rc.tmps)=((lc.ps.toList.zip vals.toList).foldl (λtmps (t,a)=>tmps.setIfInBounds t a) rc.tmps):=by
  rw [e1,<-Array.foldl_toList,Array.toList_zip]
 refine roundIn_of_wpIn (fx_fn ro _) ?_;rw [fx_in];have hR0:RelE wr σ.length .clean ⟨setZ lc.ps.toList args (λt=>(σ[t]?).getD (.tup [])),upd h q none,nx⟩ { tmps:=((rc.params.zip vals).foldl (λtmps (t,a)=>tmps.setIfInBounds t a) rc.tmps),defers:=[] } w:=by
  refine ⟨wr,⟨λ_ hb=>hb,by subst hwr; exact ⟨rfl,rfl,rfl,Nat.le_refl _,λ_ _=>rfl,hk.layAt λ_ h=>.inl h⟩,⟨Nat.le_refl _,λ_ _=>rfl⟩,by subst hwr; rfl⟩,⟨⟨μ,Hr,λt=>?_⟩,by subst hwr; exact ⟨rfl,rfl,rfl,Nat.le_refl _,λ_ _=>rfl,hk.layAt λ_ h=>.inl h⟩,?_,by subst hwr; rfl⟩⟩
  . rw [hfold]; exact hsl.2 t
  . rw [hfold]; exact hsl.1.trans e4
 refine wpIn_mono (hW (μ q).1 m lc.asg ha wr _ w hR0) ?_;rintro e a1 w1 ⟨d,S1,⟨rfl,rfl,hW2⟩,hR1⟩;obtain ⟨w1',E1,R1⟩:=hR1;obtain ⟨μ1,H1',rel1⟩:=R1.ex;obtain ⟨H1,K1⟩:=E1.out H1' R1.below;have hblk:wr.pr (μ q).1:=by subst hwr; exact .inr rfl
 have hrc1:w1.heap[(μ q).1]? =some (.loop rc):=by rw [K1.block _ hblk]; subst hwr; exact hrc
 have hrdy:=e6;have hst:rc.state= .ready/\rc.pending=none:=by first | exact e7 | exact ⟨e6,e7⟩
 refine ⟨_,run_beginRound hrc1 hst.1,?_⟩;obtain ⟨w2,hw2⟩:∃ w2,w2=w1.putObj (μ q).1 (.loop { rc with state:=.busy }):=⟨_,rfl⟩;rw [<- hw2];have hlt1:(μ q).1<w1.heap.size:=(Array.getElem?_eq_some_iff.1 hrc1).1;have hb2:∀ b,b≠(μ q).1->w2.heap[b]? =w1.heap[b]? :=λb hb=>by rw [hw2]; exact World.putObj_heap_other hb
 have hrc2:w2.heap[(μ q).1]? =some (.loop { rc with state:=.busy }):=by rw [hw2]; exact World.putObj_heap_same hlt1
 obtain ⟨wr2,hwr2⟩:∃ wr2:Bs,wr2=⟨w2,μ1,S1.nx,wr.pr,λb hb=>by rw [hw2,World.putObj_size]; exact K1.old hb,[]⟩:=⟨_,rfl⟩;have hne:∀ k v,layV k=some v->k≠(μ q).1:=λk v hkv e=>hqp (e ▸ (hk.lay k v hkv).1);have Kw2:Keep wr2 w2:=by subst hwr2; exact ⟨rfl,rfl,rfl,Nat.le_refl _,λ_ _=>rfl,λk v hkv=>by
  obtain ⟨l1,l2⟩:=(K1.layAt (pr:=wr.pr) λ_ h=>h) k v hkv;refine ⟨l1,?_⟩;rw [<- l2];unfold World.cell?;simp only [hb2 k (hne k v hkv)]⟩
 have hR2:RelE wr2 σ.length .clean S1 a1 w2:=by
  refine ⟨wr2,⟨λ_ hb=>hb,by subst hwr2; exact Kw2,⟨Nat.le_refl _,λ_ _=>rfl⟩,by subst hwr2; rfl⟩,⟨⟨μ1,?_,rel1⟩,Kw2,R1.size,?_⟩⟩
  . subst hwr2;refine ⟨λr o ho=>?_,H1.inj,Nat.le_refl _,λ_ _=>rfl⟩;obtain ⟨b1,b2,b3⟩:=H1.obj r o ho;exact ⟨b1,b2,b3.keep (Nat.le_refl _) (λ_ _=>rfl) (hb2 _ λe=>b2 (e ▸ hblk))⟩
  . subst hwr2;exact R1.defers.trans E1.ds
 refine wpIn_mono (hW2 m lc.body hb wr2 a1 w2 hR2) ?_;rintro e a3 w3 ⟨d,S2,⟨rfl,hQ⟩,w2',E2,R2⟩;obtain ⟨μ2,H2',rel2⟩:=R2.ex;obtain ⟨H2,K2⟩:=E2.out H2' R2.below;have hblk2:wr2.pr (μ q).1:=by subst hwr2; exact hblk
 have hrc3:w3.heap[(μ q).1]? =some (.loop { rc with state:=.busy }):=by rw [K2.block _ hblk2]; subst hwr2; exact hrc2
 have hlt3:(μ q).1<w3.heap.size:=(Array.getElem?_eq_some_iff.1 hrc3).1;have hμ1:∀ r,r<nx->μ1 r=μ r:=λr hr=>by have:=H1.base.2 r (by subst hwr; exact hr); subst hwr; exact this
 have hnx1:nx<=S1.nx:=by have:=H1.base.1; subst hwr; exact this
 have hμ2:∀ r,r<S1.nx->μ2 r=μ1 r:=λr hr=>by have:=H2.base.2 r (by subst hwr2; exact hr); subst hwr2; exact this
 have hnx2:S1.nx<=S2.nx:=by have:=H2.base.1; subst hwr2; exact this
 have hμ:∀ r,r<nx->μ2 r=μ r:=λr hr=>(hμ2 r (by omega)).trans (hμ1 r hr);have fin:∀ (jump:Option Code) (st:LS),(match st with | .ready=>jump=none | .done j id=>jump=some (LS.code j id))->R (upd S2.h q (some (.lp lc σ st))) S2.nx [.b jump.isNone]->
  ∃ v w',(Instr.endRound (μ q).1 jump).run P w3= .ok v w'/\∃ h' nx' zs vs μ',R h' nx' zs/\Ending.returned v= .returned (packed vs)/\HeapOK w' w0 μ' nx' h'/\nx<=nx'/\(∀ r,r<nx->μ' r=μ r)/\Keep w0 w'/\vs.length=zs.length/\
   ∀ j (hj:j<zs.length),RelZ μ' nx' (zs[j]) (vs.getD j undef):=by
  intro jump st hj hR;refine ⟨_,_,run_endRound jump hrc3,_,_,_,[.bool jump.isNone],μ2,hR,rfl,?_,by omega,hμ,?_,rfl,λj hj=>?_⟩
  . obtain ⟨w4,hw4⟩:∃ w4,w4=w3.putObj (μ q).1 (.loop { rc with state:=if jump.isNone then .ready else .done,pending:=jump }):=⟨_,rfl⟩;have hb4:∀ b,b≠(μ q).1->w4.heap[b]? =w3.heap[b]? :=λb hb=>by rw [hw4]; exact World.putObj_heap_other hb
    have hrc4:w4.heap[(μ q).1]? =some (.loop { rc with state:=if jump.isNone then .ready else .done,pending:=jump }):=by rw [hw4]; exact World.putObj_heap_same hlt3
    have hw4':w3.putObj (μ q).1 (.loop { ({ rc with state:=.busy }:Loop) with state:=if jump.isNone then .ready else .done,pending:=jump })=w4:=hw4.symm;rw [hw4'];have hlive:∀ r o,r≠q->upd S2.h q (some (.lp lc σ st)) r=some o->S2.h r=some o:=λr o e ho=>by rwa [upd_ne _ _ e] at ho
    have hq2:¬ wr.pr (μ q).1->False:=λh=>h hblk;have npr:∀ r o,S2.h r=some o->(μ2 r).1≠(μ q).1:=λr o ho e=>(H2.obj r o ho).2.1 (by rw [e]; exact hblk2);refine ⟨λr o ho=>?_,λr r' h1 h2 he=>?_,?_,λr hr=>?_⟩
    . by_cases e:r=q
      . subst e;rw [upd_same,Option.some.injEq] at ho; subst ho;refine ⟨by omega,by rw [hμ r hqn]; exact hqp,?_⟩;rw [hμ r hqn];refine ⟨_,hrc4,e1,e2,e3,e4,λt ht=>(e5 t ht).mono (by omega) hμ,?_⟩;cases st with
        | ready=>simp only at hj; subst hj; exact ⟨rfl,rfl⟩
        | done j id=>simp only at hj; subst hj; exact ⟨rfl,rfl⟩
      . have ho:=hlive r o e ho;obtain ⟨b1,b2,b3⟩:=H2.obj r o ho;refine ⟨b1,λhp=>b2 (by subst hwr2; subst hwr; exact .inl hp),b3.keep (Nat.le_refl _) (λ_ _=>rfl) (hb4 _ (npr r o ho))⟩
    . by_cases e:r=q<;>by_cases e':r'=q
      . rw [e,e']
      . obtain ⟨y,hy⟩:=Option.ne_none_iff_exists'.1 h2;have hy:=hlive r' y e' hy;exact absurd (by rw [<- he,e,hμ q hqn]) (npr r' y hy)
      . obtain ⟨x,hx⟩:=Option.ne_none_iff_exists'.1 h1;have hx:=hlive r x e hx;exact absurd (by rw [he,e',hμ q hqn]) (npr r x hx)
      . obtain ⟨x,hx⟩:=Option.ne_none_iff_exists'.1 h1;obtain ⟨y,hy⟩:=Option.ne_none_iff_exists'.1 h2;exact H2.inj r r' (by rw [hlive r x e hx]; simp) (by rw [hlive r' y e' hy]; simp) he
    . have:=H.base.1; omega
    . exact (hμ r (Nat.lt_of_lt_of_le hr H.base.1)).trans (H.base.2 r hr)
  . have k3:Keep w0 w3:=by
     have k1:Keep w0 w1:=by
      refine ⟨K1.os.trans ?_,K1.tape.trans ?_,K1.output.trans ?_,Nat.le_trans ?_ K1.size,λb hb=>(K1.block b ?_).trans ?_,hk.lay⟩;all_goals subst hwr
      . exact hk.os
      . exact hk.tape
      . exact hk.output
      . exact hk.size
      . exact .inl hb
      . exact hk.block b hb
     have k2:Keep w0 w2:=by
      rw [hw2];exact k1.go rfl rfl rfl (by rw [World.putObj_size]; exact Nat.le_refl _) λb hb=>World.putObj_heap_other λe=>hqp (e ▸ hb)
     refine ⟨K2.os.trans ?_,K2.tape.trans ?_,K2.output.trans ?_,Nat.le_trans ?_ K2.size,λb hb=>(K2.block b ?_).trans ?_,hk.lay⟩;all_goals subst hwr2
     . exact k2.os
     . exact k2.tape
     . exact k2.output
     . exact k2.size
     . subst hwr; exact .inl hb
     . exact k2.block b hb
    refine k3.go rfl rfl rfl (by rw [World.putObj_size]; exact Nat.le_refl _) λb hb=>?_;exact World.putObj_heap_other λe=>hqp (e ▸ hb)
  . have:j=0:=by simpa using hj
    subst this;exact .b _
 cases e with
 | normal=>exact fin none .ready rfl hQ
 | ret=>exact fin (some .ret) (.done 0 0) rfl hQ
 | exit id=>exact fin (some (.exit id)) (.done 1 id) rfl hQ
 | goto l=>exact hQ.elim
 | panic c=>exact hQ.elim
 | outgrown=>exact hQ.elim

/-- What is new is called otherwise behind a round. -/
theorem SpecY.compact {q:Nat} {h:Nat->Option ZO} {nx:Nat} {args:List Z} {R0:(Nat->Option ZO)->Nat->List Z->Prop} (hS:SpecY P q h nx args R0) {zs:List Z} {ups:List (Nat × Option ZO)} {news:List ZO}
 (hR:(∀ q o,h q=some o->q<nx/\o.okR (· < nx))->∀ h' nx' zs',R0 h' nx' zs'->∃ (l dt:List Nat),(∀ r,r<nx->r ∉ dt->h' r=h r)/\(∀ r∈dt,r<nx)/\Z.oksR (domL nx l) zs'/\zs=Z.rens (rho nx l) zs'/\
  (∀ r∈dt,∀ o,h' r=some o->o.okR (domL nx l))/\ups=(dt.map λr=>(r,(h' r).map (ZO.ren (rho nx l))))/\news.length=l.length/\
  ∀ j r,l[j]? =some r->nx<=r/\rho nx l r=nx+j/\∃ o,h' r=some o/\o.okR (domL nx l)/\news[j]? =some (o.ren (rho nx l))):
 SpecY P q h nx args λh' nx' zs'=>zs'=zs/\nx'=nx+news.length/\h'=newsF (upsF h ups) nx news:=by
 intro ro m w0 w μ vals H hk hl hrel;obtain ⟨fn,tmps,asg,body,hy,hr⟩:=hS ro m w0 w μ vals H hk hl hrel;refine ⟨fn,tmps,asg,body,hy,hr.mono ?_⟩;rintro e w' ⟨h',nx',zs',vs,μ',hr,rfl,H',hnx,hμ,hk',hvl,hvr⟩;obtain ⟨l,dt,a1,a2,a3,rfl,a5,a6,a7,a8⟩:=hR (λq o hq=>⟨(H.obj q o hq).1,(H.obj q o hq).2.2.okR⟩) h' nx' zs' hr;obtain ⟨μ2,b1,b2,b3⟩:=compact_post (λq o hq=>⟨(H.obj q o hq).1,(H.obj q o hq).2.2.okR⟩) H.base.1 H' a1 a2 a3 a5 a6 a7 a8 hvr;exact ⟨_,_,_,vs,μ2,⟨rfl,rfl,rfl⟩,rfl,b1,by omega,λr hr=>(b2 r hr).trans (hμ r hr),hk',by rw [rens_length]; exact hvl,b3⟩
end
end Go.Zw
namespace Go.Zw
open Go.RowKit (Below)
open Go.Vw (Nul Shape V SX SO SRes width slimX slimXs slimRes resRun results_run packed CallsX)

section
variable {P:Program} {n:Nat} {Q:Exit->DZ->ZS->Prop} {S:ZS}

/-- The function is entered. -/
def EntersF (P : Program) (f : FuncId) : Prop := ∃ fn, P.funcs[f]? = some fn ∧ fn.body.isSome = true ∧ (fn.name == "runtime.NumGoroutine") = false

/-- How a loop goes on behind its function. -/
def rfQ (Q:Exit->DZ->ZS->Prop) (S:ZS):LS->Prop
 | .ready=>Q .normal .marks S
 | .done 0 _=>Q .ret .marks S
 | .done 1 id=>Q (.exit id) .marks S
 | _=>False

theorem WX_rf {g:SX} {lc:LC} {xa xb:XC} {d:DZ} (hd:d= .clean\/d= .marks) {f:FuncId} {fst caps:List Z} (hev:S.ev g= .clo f fst caps) (hent:EntersF P f) {R:(Nat->Option ZO)->Nat->List Z->Prop}
 (hS:SpecZ P f (upd S.h S.nx (some (.lp lc ((List.range n).map S.σ) .ready))) (S.nx+1) (fst++[.yl S.nx]++caps) R)
 (hK:∀ h' nx' zs,R h' nx' zs->∃ lc' σ st,h' S.nx=some (.lp lc' σ st)/\rfQ Q ⟨S.σ,upd h' S.nx none,nx'⟩ st):WX P none n (.rf g lc xa xb) Q d S:=by
 intro m c hc w0 a w hR;cases c<;>simp only [xslimCode,reduceCtorEq,Option.map_eq_some_iff,and_false,exists_false,Option.some.injEq] at hc<;>(try (revert hc; (repeat' split)<;>simp; done));rename_i px ps asg body;split at hc
 . rename_i g' x' y' hg hxa hxb;split at hc
   . rename_i hps;simp only [Option.some.injEq,XC.rf.injEq] at hc;obtain ⟨rfl,rfl,rfl,rfl⟩:=hc;obtain ⟨w1,E,hR1⟩:=hR;obtain ⟨μ,H,rel⟩:=hR1.ex;have hfv:=ev_rel hg rel;rw [hev] at hfv;have ⟨cf,cv,hcv,hfl,hcl,hfr,hcr⟩:∃ cf cv:Array Value,a.eval px= .func (.func f) cf cv/\cf.size=fst.length/\cv.size=caps.length/\
      (∀ j (h:j<fst.length),RelZ μ S.nx (fst[j]) (cf.getD j undef))/\∀ j (h:j<caps.length),RelZ μ S.nx (caps[j]) (cv.getD j undef):=by
      generalize a.eval px=fv at hfv;cases hfv with
      | clo _ _ _ vf vc h1 h2 h3 h4=>exact ⟨vf,vc,rfl,h1,h2,h3,h4⟩
     refine wpIn_rangeFunc ?_;intro fn hfn;have hro:(Fx none).round=none:=rfl;rw [hro];obtain ⟨rec,hrec⟩:∃ rec:Loop,rec={ state:=.ready,pending:=none,fn,tmps:=a.tmps,params:=ps,assign:=asg,body,defers:=w.heap.size }:=⟨_,rfl⟩;obtain ⟨wA,hwA⟩:∃ wA,wA=w.alloc (.deferred (some [])):=⟨_,rfl⟩;obtain ⟨wB,hwB⟩:∃ wB,wB=wA.alloc (.loop rec):=⟨_,rfl⟩;have hszA:wA.heap.size=w.heap.size+1:=by rw [hwA,World.size_alloc]
     have hszB:wB.heap.size=w.heap.size+2:=by rw [hwB,World.size_alloc,hszA]
     have hA:∀ b,b<w.heap.size->wA.heap[b]? =w.heap[b]? :=λb hb=>by rw [hwA]; exact Below.heap_alloc _ _ _ hb
     have hB:∀ b,b<wA.heap.size->wB.heap[b]? =wA.heap[b]? :=λb hb=>by rw [hwB]; exact Below.heap_alloc _ _ _ hb
     have hD:wB.heap[w.heap.size]? =some (.deferred (some [])):=by
      rw [hB _ (by omega),hwA]; exact World.alloc_heap_new w _
     have hL:wB.heap[w.heap.size+1]? =some (.loop rec):=by
      have:=World.alloc_heap_new wA (.loop rec);rw [hszA] at this; rw [hwB]; exact this
     have KA:Keep w1 wA:=hR1.below.go (by rw [hwA]; rfl) (by rw [hwA]; rfl) (by rw [hwA]; rfl) (by omega) λb hb=>hA b (hR1.below.old hb);have KB:Keep w1 wB:=KA.go (by rw [hwB]; rfl) (by rw [hwB]; rfl) (by rw [hwB]; rfl) (by omega) λb hb=>hB b (KA.old hb);have HA:HeapOK wA w1 μ S.nx S.h:=H.grow hA;have HB:HeapOK wB w1 (upd μ S.nx (w.heap.size+1,0)) (S.nx+1) (upd S.h S.nx (some (.lp ⟨ps,asg,body⟩ ((List.range n).map S.σ) .ready))):=by
      refine HA.new (by show w.heap.size+1=_; omega) KA (λb hb=>hB b hb) ?_;refine ⟨rec,hL,by rw [hrec],by rw [hrec],by rw [hrec],by rw [hrec]; simpa using hR1.size,λt ht=>?_,by rw [hrec]; exact ⟨rfl,rfl⟩⟩;have:=(rel t).mono (Nat.le_succ _) (λr hr=>upd_ne μ (w.heap.size+1,0) (Nat.ne_of_lt hr));rw [hrec]
      simpa using this
     obtain ⟨μ1,hμ1⟩:∃ μ1:Gh,μ1=upd μ S.nx (w.heap.size+1,0):=⟨_,rfl⟩;rw [<- hμ1] at HB;have hμ1r:∀ r,r<S.nx->μ1 r=μ r:=λr hr=>by rw [hμ1]; exact upd_ne _ _ (by omega)
     obtain ⟨wc,hwc⟩:∃ wc:Bs,wc=⟨wB,μ1,S.nx+1,λb=>w1.pr b\/b=w.heap.size,λb hb=>hb.elim (λhb=>KB.old hb) (λe=>by omega),markOf w.heap.size::w1.ds⟩:=⟨_,rfl⟩;have Kc:Keep wc wB:=by subst hwc; exact ⟨rfl,rfl,rfl,Nat.le_refl _,λ_ _=>rfl,KB.layAt λ_ h=>.inl h⟩
     have Hc:HeapOK wB wc μ1 (S.nx+1) (upd S.h S.nx (some (.lp ⟨ps,asg,body⟩ ((List.range n).map S.σ) .ready))):=by
      subst hwc;refine ⟨λr o ho=>?_,HB.inj,Nat.le_refl _,λ_ _=>rfl⟩;obtain ⟨b1,b2,b3⟩:=HB.obj r o ho;refine ⟨b1,λhp=>hp.elim b2 λe=>?_,b3⟩;by_cases er:r=S.nx
      . subst er;rw [hμ1,upd_same] at e;simp at e
      . rw [upd_ne _ _ er] at ho;obtain ⟨c1,_,c3⟩:=H.obj r o ho;have:=c3.lt;rw [hμ1r r c1] at e;omega
     have ha:(a.eval (.const (.func (.yield (w.heap.size+1)) #[] #[])))= .func (.yield (w.heap.size+1)) #[] #[]:=rfl;obtain ⟨fnd,hf1,hf2,hf3⟩:=hent;have henter:∀ (args:Array Value) (w:World),(callFunc f args).run P w= .ok (.enter f args) w:=λargs w=>Go.Vw.enters_run hf1 hf2 hf3 args w;refine ⟨w.heap.size+1,[markOf w.heap.size],wB,{ target:=.fn (.func f) cv,args:=cf++#[.func (.yield (w.heap.size+1)) #[] #[]] },wB,f,cf++#[.func (.yield (w.heap.size+1)) #[] #[]]++cv,wB,?_,?_,λf' _=>fx_fn none f',?_,(λh=>by rw [fx_depth] at h; cases h),?_⟩
     . rw [hwB,hwA,hrec]; exact run_enterLoop_outer _ _ _ _ _
     . simp [resolve,hcv,Deferred.ofValue,Sem.run_bind,Sem.run_pure,Result.andThen_ok];rfl
     . simp only [invoke];exact henter _ _
     . have hcx:=hS wc wB μ1 (cf++#[.func (.yield (w.heap.size+1)) #[] #[]]++cv) Hc Kc (by simp [hfl,hcl]; omega) (λj hj=>by
        simp only [List.length_append,List.length_cons,List.length_nil] at hj;by_cases h1:j<fst.length
        . have:=(hfr j h1).mono (Nat.le_succ S.nx) hμ1r;rw [List.getElem_append_left (by simp; omega),List.getElem_append_left h1];have hja:j<cf.size:=by omega
          simpa [Array.getD_eq_getD_getElem?,Array.getElem?_append,Array.getElem_push,hja,Nat.lt_of_lt_of_le hja (Nat.le_add_right _ _)] using this
        . by_cases h2:j<fst.length+1
          . have e:j=fst.length:=by omega
            subst e;rw [List.getElem_append_left (by simp),List.getElem_append_right (by omega)];have:=RelZ.yl (μ:=μ1) (N:=S.nx+1) S.nx (by omega);rw [hμ1,upd_same] at this;rw [hμ1]
            simpa [Array.getD_eq_getD_getElem?,Array.getElem?_append,Array.getElem_push,hfl] using this
          . have:=(hcr (j-(fst.length+1)) (by omega)).mono (Nat.le_succ S.nx) hμ1r;rw [List.getElem_append_right (by simp; omega)];have hja:¬ j<cf.size+1:=by omega
            simpa [Array.getD_eq_getD_getElem?,Array.getElem?_append,hja,hfl,h2] using this)
       have hcalls:=(hcx.resolve_right (by rintro ⟨v,h1,_⟩; rw [henter] at h1; cases h1)).2;refine fx_calls (hcalls.mono ?_);rintro e w2 ⟨h',nx',zs,vs,μ',hr,rfl,H',hnx,hμ',hk',_,_⟩;obtain ⟨lc',σ,st,hq,hst⟩:=hK h' nx' zs hr;obtain ⟨qn,qp,rc,q1,q2,q3,q4,q5,q6,q7⟩:=H'.obj _ _ hq;have hμq:(μ' S.nx).1=w.heap.size+1:=by rw [hμ' _ (by omega),hμ1,upd_same]
       rw [hμq] at q1;have hnb:rc.state≠.busy:=by
        cases st with
        | ready=>rw [q7.1]; simp
        | done j id=>rw [q7.1]; simp
       have hlt2:w.heap.size+1<w2.heap.size:=(Array.getElem?_eq_some_iff.1 q1).1;obtain ⟨w4,hw4⟩:∃ w4,w4=w2.putObj (w.heap.size+1) (.loop { rc with state:=.exhausted }):=⟨_,rfl⟩;have hb4:∀ b,b≠w.heap.size+1->w4.heap[b]? =w2.heap[b]? :=λb hb=>by rw [hw4]; exact World.putObj_heap_other hb
       have K4:Keep wc w4:=by
        rw [hw4];refine hk'.go rfl rfl rfl (by rw [World.putObj_size]; exact Nat.le_refl _) λb hb=>World.putObj_heap_other λe=>qp ?_;rw [hμq,<-e]; exact hb
       have H4:HeapOK w4 wc μ' nx' (upd h' S.nx none):=H'.letgo hq λb hb=>hb4 b (by rw [hμq] at hb; exact hb);have fin:RelE w0 n .marks ⟨S.σ,upd h' S.nx none,nx'⟩ { a with defers:=[markOf w.heap.size]++a.defers } w4:=by
        refine ⟨wc,⟨λb hb=>by subst hwc; exact .inl (E.pr b hb),?_,?_,?_⟩,⟨⟨μ',H4,λt=>?_⟩,K4,hR1.size,?_⟩⟩
        . subst hwc; exact Keep.trans E.pr E.keep KB
        . subst hwc;refine ⟨?_,λr hr=>?_⟩
          . have:=H.base.1; have:=E.base.1; show w0.N<=S.nx+1; omega
          . have h1:=H.base.1; have h2:=E.base.1;show μ1 r=w0.μ r;rw [hμ1r r (by omega),H.base.2 r (by omega),E.base.2 r hr]
        . have hds:∃ bs:List Nat,bs.Nodup/\w1.ds=bs.map markOf/\∀ b∈bs,w1.pr b/\¬ w0.pr b/\w1.w.heap[b]? =some (.deferred (some [])):=by
           rcases hd with rfl | rfl
           . exact ⟨[],List.nodup_nil,E.ds,λb hb=>by simp at hb⟩
           . exact E.ds
          obtain ⟨bs,d1,d2,d3⟩:=hds;subst hwc;refine ⟨w.heap.size::bs,List.nodup_cons.2 ⟨λhm=>?_,d1⟩,by show markOf w.heap.size::w1.ds=_; rw [d2]; rfl,λb hb=>?_⟩
          . have:=hR1.below.old (d3 _ hm).1; omega
          . rcases List.mem_cons.1 hb with rfl | hb
            . refine ⟨.inr rfl,λhp=>?_,hD⟩;have:=hR1.below.old (E.pr _ hp); omega
            . obtain ⟨c1,c2,c3⟩:=d3 b hb;exact ⟨.inl c1,c2,(KB.block b c1).trans c3⟩
        . have h1:=(rel t).mono (Nat.le_succ S.nx) hμ1r;exact h1.mono hnx hμ'
        . subst hwc;show markOf w.heap.size::a.defers=_;rw [hR1.defers]
       refine ⟨rc.pending,w4,by rw [hw4]; exact run_endLoop q1 hnb,?_⟩;cases st with
       | ready=>
        rw [q7.2];exact ⟨_,_,hst,fin⟩
       | done j id=>
        rw [q7.2]
        match j,hst with
        | 0,hst=>exact wpIn_ret ⟨_,_,hst,fin⟩
        | 1,hst=>exact wpIn_exit ⟨_,_,hst,fin⟩
   . cases hc
 . cases hc
end
end Go.Zw
namespace Go.Zw
open Go.RowKit (Below)
open Go.Vw (Nul Shape V SX SO SRes width slimX slimXs slimRes resRun results_run packed CallsX)

/-- Code in a row. -/
def WXL (P:Program) (n:Nat):List XC->(Exit->DZ->ZS->Prop)->DZ->ZS->Prop
 | [],Q,d,S=>Q .normal d S
 | x::l,Q,d,S=>WX P none n x (thenD (WXL P n l Q) Q) d S

theorem WXL.mono {P:Program} {n:Nat}:∀ {l:List XC} {Q Q':Exit->DZ->ZS->Prop} {d:DZ} {S:ZS},WXL P n l Q d S->(∀ e d S,Q e d S->Q' e d S)->WXL P n l Q' d S
 | [],Q,Q',d,S,h,hq=>hq _ _ _ h
 | x::l,Q,Q',d,S,h,hq=>WX.mono h λe d S q=>by
  cases e with
  | normal=>exact WXL.mono (l:=l) q hq
  | _=>exact hq _ _ _ q
theorem WXL.snoc {P:Program} {n:Nat} {x:XC}:∀ {l:List XC} {Q:Exit->DZ->ZS->Prop} {d:DZ} {S:ZS},WXL P n (l++[x]) Q d S->WXL P n l (thenD (WX P none n x Q) Q) d S
 | [],Q,d,S,h=>WX.mono h λe d S q=>by cases e<;>exact q
 | y::l,Q,d,S,h=>WX.mono h λe d S q=>by
  cases e with
  | normal=>exact WXL.snoc (l:=l) q
  | _=>exact q

/-- What is recovered first, then code in a row. -/
def recOp (n:Nat) (o:Oper):Option Nat:=
 match o.op with
 | .call c=>match c.callee with
  | .builtin .recover=>match o.dst with | some d=>if d<n && o.guard.isNone && c.args.size == 0 then some d else none | none=>none
  | _=>none
 | _=>none
def splitR (P:Program) (n:Nat):Code->Option (Nat × List XC)
 | .region _ ops false=>match ops.toList with | [o]=>(recOp n o).map λd=>(d,[]) | _=>none
 | .seq a b=>match splitR P n a,xslimCode P n b with | some (d,l),some x=>some (d,l++[x]) | _,_=>none
 | _=>none
def xdslimF (P:Program) (fn:Func):Option TD:=
 match fn.body with
 | some c => if fn.name == "runtime.NumGoroutine" then none else if fn.results.size == 0 then (splitR P fn.ntmps c).map fun x => (fn.ntmps, x) else none
 | none=>none

theorem recOp_inv {n:Nat} {o:Oper} {d:Nat} (h:recOp n o=some d):∃ c,o.op= .call c/\c.callee= .builtin .recover/\c.args=#[]/\o.dst=some d/\d<n/\o.guard=none:=by
 unfold recOp at h;split at h
 . rename_i c hop;split at h
   . rename_i hc;split at h
     . rename_i d' hd;split at h
       . rename_i hb;simp only [Option.some.injEq] at h; subst h;simp only [Bool.and_eq_true,decide_eq_true_eq,Option.isNone_iff_eq_none,beq_iff_eq] at hb;exact ⟨c,hop,hc,Array.eq_empty_of_size_eq_zero hb.2,hd,hb.1.1,hb.1.2⟩
       . cases h
     . cases h
   . cases h
 . cases h

/-- The frame below on its way out; what recover answers; its mode behind. -/
inductive RecM:FrameMode->Value->FrameMode->Prop
 | ret:RecM .returning .nilIface .returning
 | pan (v:Value):RecM (.panicking [{ v,recovered:=false }]) v (.panicking [{ v,recovered:=true }])

theorem RecM.settle {u u':FrameMode} {v:Value} (h:RecM u v u'):Go.settle u'= .returning:=by
 cases h<;>rfl

section
variable {P:Program} {n m:Nat}

theorem split_wp {w0:Bs} {u u':FrameMode} {v:Value} (hu:RecM u v u') {c₀:Frame} {cs:List Frame} (hm:c₀.mode=u) {dr:Nat} {a:Act} {w:World}:∀ {c:Code} {l:List XC} {Q:Exit->DZ->ZS->Prop} {d:DZ} {S:ZS},splitR P n c=some (dr,l)->
 WXL P n l Q d S->RelE w0 n d S (a.put (some dr) v) w->c.wpSIn Fence.wide m P (λe a' cs' w'=>cs'={ c₀ with mode:=u' }::cs/\∃ d' S',Q e d' S'/\RelE w0 n d' S' a' w') a (c₀::cs) w:=by
 intro c;induction c with
 | region id ops draw=>
  intro l Q d S hs hW hR;cases draw with
  | true=>simp [splitR] at hs
  | false=>
   simp only [splitR] at hs;split at hs
   . rename_i o ho;simp only [Option.map_eq_some_iff,Prod.mk.injEq] at hs;obtain ⟨d',h1,rfl,rfl⟩:=hs;obtain ⟨c,hop,hc,hargs,hd,hlt,hg⟩:=recOp_inv h1;have hops:ops=#[o]:=by apply Array.ext'; simpa using ho
     subst hops;refine wpSIn_region ?_;have hrange:List.range (#[o]:Array Oper).size=[0]:=rfl;rw [hrange];have hrun:(execOp a.eval o).run P w= .ok .recover w:=by
      simp [execOp,hop,resolve,hc,hargs,invoke,builtin,Sem.run_bind,Sem.run_pure,Result.andThen_ok]
     unfold wpOpsSIn;simp only [List.getElem?_toArray,List.getElem?_cons_zero];refine ⟨λf _=>trivial,?_⟩;rw [if_pos (by simp [Region.wanted,hg]),hrun];simp only;have hput:a.put o.dst v=a.put (some d') v:=by rw [hd]
     cases hu with
     | ret=>
      have:recoverD (c₀::cs)=none:=by simp [recoverD,hm]
      rw [this];refine ⟨?_,d,S,hW,by rw [<- hput] at hR; exact hR⟩;cases c₀; simp only at hm; subst hm; rfl
     | pan v=>
      have:recoverD (c₀::cs)=some (v,{ c₀ with mode:=.panicking [{ v,recovered:=true }] }::cs):=by simp [recoverD,hm]
      rw [this];exact ⟨rfl,d,S,hW,by rw [<- hput] at hR; exact hR⟩
   . cases hs
 | seq x y ihx ihy=>
  intro l Q d S hs hW hR;simp only [splitR] at hs;split at hs
  . rename_i dr' la sy h1 h2;simp only [Option.some.injEq,Prod.mk.injEq] at hs;obtain ⟨rfl,rfl⟩:=hs;have:=ihx h1 (WXL.snoc hW) hR;refine wpSIn_seq ?_;intro b k hb hr hF hroom;obtain ⟨e,a',cs',w',hl,⟨hcs,d',S',hq,hR'⟩,harr⟩:=this b k hb hr hF hroom;refine ⟨e,a',cs',w',hl,?_,harr⟩;cases e with
    | normal=>
     subst hcs;refine wpSIn_of_wpIn (F:=Fence.wide) rfl ?_;refine wpIn_mono (hq m y h2 w0 a' w' hR') ?_;rintro e a2 w2 ⟨d2,S2,q2,r2⟩;exact ⟨rfl,d2,S2,q2,r2⟩
    | _=>exact ⟨hcs,d',S',hq,hR'⟩
  . cases hs
 | _=>intro l Q d S hs; simp [splitR] at hs

/-- A deferred call, as a frame on its way out comes to it. -/
theorem def_of {f:FuncId} {fn:Func} {dr:Nat} {l:List XC} (hf:P.funcs[f]? =some fn) (hs:xdslimF P fn=some (n,dr,l)) {caps:List Z} (hcl:caps.length<=n) (hdr:dr<n) {u u':FrameMode} {v:Value} (hu:RecM u v u') {z:Z} {h:Nat->Option ZO} {nx:Nat} {K:ZS->Prop}
 (hW:WXL P n l (λe d S=>(e= .normal\/e= .ret)/\d= .clean/\K S) .clean ⟨upd (λt=>(caps[t]?).getD (.tup [])) dr z,h,nx⟩)
 {w0:Bs} {w:World} {μ:Gh} {vc:Array Value} (H:HeapOK w w0 μ nx h) (hk:Keep w0 w) (hv:RelZ μ nx z v) (hvl:vc.size=caps.length) (hvr:∀ j (hj:j<caps.length),RelZ μ nx (caps[j]) (vc.getD j undef)):
 CallsDIn Fence.wide m P f vc u w λe u'' w'=>∃ v,e= .returned v/\u''=u'/\∃ S μ',K S/\HeapOK w' w0 μ' S.nx S.h/\nx<=S.nx/\(∀ r,r<nx->μ' r=μ r)/\Keep w0 w':=by
 unfold xdslimF at hs;split at hs
 . rename_i c hb;split at hs
   . cases hs
   split at hs
   . rename_i hres;simp only [Option.map_eq_some_iff,Prod.mk.injEq] at hs;obtain ⟨⟨d1,l1⟩,h1,rfl,e2⟩:=hs;simp only [Prod.mk.injEq] at e2;obtain ⟨rfl,rfl⟩:=e2;refine callsDIn_of_wpSIn (F:=Fence.wide) hf hb trivial ?_;intro c₀ cs hm;obtain ⟨w2,hw2⟩:∃ w2:Bs,w2=⟨w,μ,nx,w0.pr,λb hb=>hk.old hb,[]⟩:=⟨_,rfl⟩;have hR:RelE w2 fn.ntmps .clean ⟨upd (λt=>(caps[t]?).getD (.tup [])) d1 z,h,nx⟩ (({ tmps:=vc++Array.replicate (fn.ntmps-vc.size) undef,defers:=[] }:Act).put (some d1) v) w:=by
      subst hw2;refine ⟨_,⟨λ_ hb=>hb,⟨rfl,rfl,rfl,Nat.le_refl _,λ_ _=>rfl,hk.layAt λ_ h=>h⟩,⟨Nat.le_refl _,λ_ _=>rfl⟩,rfl⟩,⟨⟨μ,⟨H.obj,H.inj,Nat.le_refl _,λ_ _=>rfl⟩,λt=>?_⟩,⟨rfl,rfl,rfl,Nat.le_refl _,λ_ _=>rfl,hk.layAt λ_ h=>h⟩,?_,rfl⟩⟩
      . have hsz:(vc++Array.replicate (fn.ntmps-vc.size) undef).size=fn.ntmps:=by simp; omega
        simp only [Act.put,upd_apply];by_cases e:t=d1
        . subst e;rw [if_pos rfl,Array.getD_eq_getD_getElem?,Array.getElem?_setIfInBounds];simp only [hsz,hdr,if_true,Option.getD_some];exact hv
        . rw [if_neg e,Array.getD_eq_getD_getElem?,Array.getElem?_setIfInBounds,if_neg (λh=>e h.symm),<-Array.getD_eq_getD_getElem?];by_cases hlt:t<caps.length
          . have h1:=hvr t hlt;have hs:t<vc.size:=by rw [hvl]; exact hlt
            rw [List.getElem?_eq_getElem hlt]
            simpa [Array.getD_eq_getD_getElem?,Array.getElem?_append,hs] using h1
          . rw [List.getElem?_eq_none (Nat.le_of_not_lt hlt)];have hs:¬ t<vc.size:=by rw [hvl]; exact hlt
            have:(vc++Array.replicate (fn.ntmps-vc.size) undef).getD t undef=undef:=by
                rw [Array.getD_eq_getD_getElem?,Array.getElem?_append,if_neg hs,Array.getElem?_replicate];split<;>rfl
            rw [this];exact .tup _ _ rfl (by simp)
      . simp [Act.put]; omega
     have hsp:=split_wp (m:=m) (P:=P) (w0:=w2) hu hm (cs:=cs) (a:={ tmps:=vc++Array.replicate (fn.ntmps-vc.size) undef,defers:=[] }) h1 hW hR;intro b k hb hr hF hroom;obtain ⟨e,a',cs',w',hl,⟨hcs,d',S',⟨he,rfl,hK⟩,w3,E,R⟩,harr⟩:=hsp b k hb hr hF hroom;refine ⟨e,a',cs',w',hl,?_,harr⟩;obtain ⟨μ',H',rel'⟩:=R.ex;obtain ⟨H2,K2⟩:=E.out H' R.below;have hds:a'.defers=[]:=R.defers.trans E.ds;have hfr:fn.results=#[]:=Array.eq_empty_of_size_eq_zero (by simpa using hres);have hr0:(results fn a'.tmps).run P w'= .ok (packed []) w':=results_run fn a'.tmps (by rw [hfr]; rfl);have k0:Keep w0 w':=by
      subst hw2;exact ⟨K2.os.trans hk.os,K2.tape.trans hk.tape,K2.output.trans hk.output,Nat.le_trans hk.size K2.size,λb hb=>(K2.block b hb).trans (hk.block b hb),hk.lay⟩
     have fin:∃ u'',cs'={ c₀ with mode:=u'' }::cs/\∃ v,(results fn a'.tmps).run P w'= .ok v w'/\(∃ v',Ending.returned v= .returned v'/\u''=u'/\∃ S μ',K S/\HeapOK w' w0 μ' S.nx S.h/\nx<=S.nx/\(∀ r,r<nx->μ' r=μ r)/\Keep w0 w'):=by
      refine ⟨u',hcs,_,hr0,_,rfl,rfl,S',μ',hK,?_,?_,?_,k0⟩
      . subst hw2;exact ⟨H2.obj,H2.inj,Nat.le_trans H.base.1 H2.base.1,λr hr=>(H2.base.2 r (Nat.lt_of_lt_of_le hr H.base.1)).trans (H.base.2 r hr)⟩
      . have:=H2.base.1; subst hw2; exact this
      . intro r hr; have:=H2.base.2 r (by subst hw2; exact hr); subst hw2; exact this
     rcases he with rfl | rfl
     . exact ⟨hds,fin⟩
     . exact ⟨hds,fin⟩
   . cases hs
 . cases hs
end
end Go.Zw
namespace Go.Zw
open Go.RowKit (Below)
open Go.Vw (Nul Shape V SX SO SRes width slimX slimXs slimRes resRun results_run packed CallsX)

/-- A function's slim form. -/
def xslimF (P:Program) (fn:Func):Option T3:=
 match fn.body with
 | some c=>
  if fn.name == "runtime.NumGoroutine" then none else
  match xslimCode P fn.ntmps c,slimRes P fn.results.toList with
  | some sc,some rs=>some (fn.ntmps,sc,rs)
  | _,_=>none
 | none=>none

/-- How a frame leaves: z: what recover answers. -/
def leaveP (P:Program) (rs:List SRes) (R:(Nat->Option ZO)->Nat->List Z->Prop) (z:Z) (S:ZS):DZ->Prop
 | .clo zc=>∃ f caps fn n dr l,zc= .clo f [] caps/\P.funcs[f]? =some fn/\xdslimF P fn=some (n,dr,l)/\caps.length<=n/\dr<n/\
  WXL P n l (λe d S'=>(e= .normal\/e= .ret)/\d= .clean/\retP rs R ⟨S.σ,S'.h,S'.nx⟩) .clean ⟨upd (λt=>(caps[t]?).getD (.tup [])) dr z,S.h,S.nx⟩
 | _=>z= .nul .iface/\retP rs R S
/-- What holds at a function's end. -/
def retD (P:Program) (rs:List SRes) (R:(Nat->Option ZO)->Nat->List Z->Prop):Exit->DZ->ZS->Prop
 | .normal,d,S=>leaveP P rs R (.nul .iface) S d
 | .ret,d,S=>leaveP P rs R (.nul .iface) S d
 | .panic chain,d,S=>∃ z v,zcv z=some v/\chain=[{ v,recovered:=false }]/\leaveP P rs R z S d/\∃ zc,d= .clo zc
 | _,_,_=>False

section
variable {P:Program} {n m:Nat}

/-- What a call's answer is of. -/
def GivenZ (w0:Bs) (μ:Gh) (nx:Nat) (R:(Nat->Option ZO)->Nat->List Z->Prop) (e:Ending) (w':World):Prop:=
 ∃ h' nx' zs vs μ',R h' nx' zs/\e= .returned (packed vs)/\HeapOK w' w0 μ' nx' h'/\nx<=nx'/\(∀ r,r<nx->μ' r=μ r)/\Keep w0 w'/\vs.length=zs.length/\
  ∀ j (hj:j<zs.length),RelZ μ' nx' (zs[j]) (vs.getD j undef)

/-- Marks are passed by. -/
theorem marks_leave {fn:Func} {tmps:Array Value} {R:Ending->World->Prop} {w0:Bs} {μ:Gh} {N:Nat} {h:Nat->Option ZO} (hfin:∀ w',HeapOK w' w0 μ N h->Keep w0 w'->LeavesIn Fence.wide n P fn tmps R [] .returning w'):
 ∀ (bs:List Nat) (w:World),bs.Nodup->(∀ b∈bs,¬ w0.pr b/\w.heap[b]? =some (.deferred (some []))/\∀ r o,h r=some o->(μ r).1≠b)->HeapOK w w0 μ N h->Keep w0 w->LeavesInM Fence.wide n P fn tmps R (bs.map markOf) .returning w
 | [],w,_,_,H,k=>hfin w H k
 | b::bs,w,hnd,hb,H,k=>by
  obtain ⟨h1,h2⟩:=List.nodup_cons.1 hnd;obtain ⟨c1,c2,c3⟩:=hb b (by simp);refine ⟨by simp,.inl ⟨b,_,rfl,run_takeDeferred c2,?_⟩⟩;refine marks_leave hfin bs _ h2 (λb' hb'=>?_) ?_ ?_
  . obtain ⟨d1,d2,d3⟩:=hb b' (by simp [hb']);exact ⟨d1,(World.putObj_heap_other λe=>h1 (by rw [<- e]; exact hb')).trans d2,d3⟩
  . refine ⟨λr o ho=>?_,H.inj,H.base⟩;obtain ⟨a1,a2,a3⟩:=H.obj r o ho;exact ⟨a1,a2,a3.keep (Nat.le_refl _) (λ_ _=>rfl) (World.putObj_heap_other (c3 r o ho))⟩
  . exact k.go rfl rfl rfl (by rw [World.putObj_size]; exact Nat.le_refl _) λb' hb'=>World.putObj_heap_other λe=>c1 (e ▸ hb')

theorem leave_ok {fn:Func} {rs:List SRes} {R:(Nat->Option ZO)->Nat->List Z->Prop} {z:Z} {v:Value} {u u':FrameMode} {d:DZ} {S:ZS} {w0:Bs} {nx:Nat} {μ0:Gh} (hrs:slimRes P fn.results.toList=some rs) (hu:RecM u v u') (hzv:∀ μ N,RelZ μ N z v) (hur:(∀ zc,d≠.clo zc)->u= .returning)
 (hl:leaveP P rs R z S d) {a:Act} {w w00:World} {old:∀ b,w0.pr b->b<w00.heap.size} (hk0:Keep w0 w00) (hN:w0.N<=nx) (hμ0:∀ r,r<w0.N->μ0 r=w0.μ r) (hR:RelE ⟨w00,μ0,nx,w0.pr,old,[]⟩ n d S a w):
 LeavesInM Fence.wide m P fn a.tmps (GivenZ w0 μ0 nx R) a.defers u w:=by
 obtain ⟨w1,E,R1⟩:=hR;obtain ⟨μ1,H1,rel1⟩:=R1.ex
 -- the end, in whatever world
 have fin:∀ (S':ZS) (μ':Gh) (w':World) (m:Nat),S'.σ=S.σ->retP rs R S'->HeapOK w' ⟨w00,μ0,nx,w0.pr,old,[]⟩ μ' S'.nx S'.h->Keep ⟨w00,μ0,nx,w0.pr,old,[]⟩ w'->(∀ t,RelZ μ' S'.nx (S'.σ t) (a.tmps.getD t undef))->LeavesIn Fence.wide m P fn a.tmps (GivenZ w0 μ0 nx R) [] .returning w':=by
  intro S' μ' w' m hσ hq H' K' rel';unfold retP at hq;split at hq
  . rename_i zs hzs;obtain ⟨vs,f1,f2,f3⟩:=zret_run (P:=P) H' rel' fn.results.toList rs zs hrs hzs;refine ⟨packed vs,results_run fn a.tmps f2,S'.h,S'.nx,zs,vs,μ',hq,rfl,⟨H'.obj,H'.inj,Nat.le_trans hN H'.base.1,λr hr=>?_⟩,H'.base.1,H'.base.2,?_,f1,f3⟩
    . exact (H'.base.2 r (Nat.lt_of_lt_of_le hr hN)).trans (hμ0 r hr)
    . exact ⟨K'.os.trans hk0.os,K'.tape.trans hk0.tape,K'.output.trans hk0.output,Nat.le_trans hk0.size K'.size,λb hb=>(K'.block b hb).trans (hk0.block b hb),hk0.lay⟩
  . exact hq.elim
 obtain ⟨H2,K2⟩:=E.out H1 R1.below;cases d with
 | clean=>
  obtain ⟨_,hq⟩:=hl;have hds:a.defers=[]:=R1.defers.trans E.ds;rw [hds,hur (λzc h=>by cases h)];exact fin S μ1 w m rfl hq H2 K2 rel1
 | marks=>
  obtain ⟨_,hq⟩:=hl;obtain ⟨bs,b1,b2,b3⟩:=E.ds;rw [R1.defers,b2,hur (λzc h=>by cases h)];refine marks_leave (w0:=⟨w00,μ0,nx,w0.pr,old,[]⟩) (λw' H' K'=>fin S μ1 w' m rfl hq H' K' rel1) bs w b1 (λb hb=>?_) H2 K2;obtain ⟨c1,c2,c3⟩:=b3 b hb;exact ⟨c2,(R1.below.block b c1).trans c3,λr o ho e=>(H1.obj r o ho).2.1 (by rw [e]; exact c1)⟩
 | clo zc=>
  obtain ⟨f',caps',vc,e1,hds,hvl,hvr⟩:=E.ds;obtain ⟨f,caps,fd,n',dr,l,e2,hf,hsl,hcl,hdr,hW⟩:=hl;rw [e1] at e2;simp only [Z.clo.injEq,true_and] at e2;obtain ⟨rfl,rfl⟩:=e2;rw [R1.defers,hds];have hu1:u≠.run:=by cases hu<;>simp
  have henter:(invoke (.fn (.func f') vc) #[]).run P w= .ok (.enter f' vc) w:=by
   have hb : fd.body.isSome = true ∧ (fd.name == "runtime.NumGoroutine") = false := by
    unfold xdslimF at hsl;split at hsl
    . rename_i c hb;split at hsl
      . cases hsl
      . rename_i hname;exact ⟨by rw [hb]; rfl,by simpa using hname⟩
    . cases hsl
   simp only [invoke];have:=Go.Vw.enters_run (P:=P) hf hb.1 hb.2 vc w
   simpa using this
  refine ⟨hu1,.inr ⟨(λh=>by cases h),.func f',vc,f',vc,rfl,henter,λg _=>trivial,?_⟩⟩;have hvr1:∀ j (hj:j<caps'.length),RelZ μ1 S.nx (caps'[j]) (vc.getD j undef):=λj hj=>(hvr j hj).mono H1.base.1 H1.base.2;refine (def_of (m:=m-1) hf hsl hcl hdr hu (z:=z) hW (w0:=⟨w00,μ0,nx,w0.pr,old,[]⟩) H2 K2 (hzv _ _) hvl hvr1).mono ?_;rintro e u'' w' ⟨v',rfl,rfl,S',μ',hq,H',hnx,hμ',K'⟩;show LeavesInM Fence.wide m P fn a.tmps _ [] (settle _) w';rw [hu.settle];exact fin ⟨S.σ,S'.h,S'.nx⟩ μ' w' m rfl hq H' K' λt=>(rel1 t).mono hnx hμ'

theorem enter_rel {f:FuncId} {fn:Func} {h:Nat->Option ZO} {nx:Nat} {args:List Z} (hn:fn.ntmps=n) (hargs:args.length<=n) {w0:Bs} {w:World} {μ:Gh} {vals:Array Value} (H:HeapOK w w0 μ nx h) (hbl:Keep w0 w) (hl:vals.size=args.length)
 (hrel:∀ j (hj:j<args.length),RelZ μ nx (args[j]) (vals.getD j undef)):RelE ⟨w,μ,nx,w0.pr,λb hb=>hbl.old hb,[]⟩ n .clean (S0Z h nx args) { tmps:=vals++Array.replicate (fn.ntmps-vals.size) undef,defers:=[] } w:=by
 refine ⟨_,⟨λ_ hb=>hb,⟨rfl,rfl,rfl,Nat.le_refl _,λ_ _=>rfl,hbl.layAt λ_ h=>h⟩,⟨Nat.le_refl _,λ_ _=>rfl⟩,rfl⟩,⟨⟨μ,⟨H.obj,H.inj,Nat.le_refl _,λ_ _=>rfl⟩,λt=>?_⟩,⟨rfl,rfl,rfl,Nat.le_refl _,λ_ _=>rfl,hbl.layAt λ_ h=>h⟩,by simp [hn,hl]; omega,rfl⟩⟩;simp only [S0Z];by_cases hlt:t<args.length
 . have h1:=hrel t hlt;have hs:t<vals.size:=by rw [hl]; exact hlt
   rw [List.getElem?_eq_getElem hlt]
   simpa [Array.getD_eq_getD_getElem?,Array.getElem?_append,hs] using h1
 . rw [List.getElem?_eq_none (Nat.le_of_not_lt hlt)];have hs:¬ t<vals.size:=by rw [hl]; exact hlt
   have:(vals++Array.replicate (fn.ntmps-vals.size) undef).getD t undef=undef:=by
    rw [Array.getD_eq_getD_getElem?,Array.getElem?_append,if_neg hs,Array.getElem?_replicate];split<;>rfl
   rw [this];exact .tup _ _ rfl (by simp)

theorem xslimF_inv {fn : Func} {sc : XC} {rs : List SRes} (hs : xslimF P fn = some (n, sc, rs)) : ∃ c, fn.body = some c ∧ fn.ntmps = n ∧ xslimCode P n c = some sc ∧ (fn.name == "runtime.NumGoroutine") = false ∧ slimRes P fn.results.toList = some rs := by
 unfold xslimF at hs;split at hs
 . rename_i c hb;split at hs
   . cases hs
   . rename_i hname;split at hs
     . rename_i sc' rs' h1 h2;simp only [Option.some.injEq,Prod.mk.injEq] at hs;obtain ⟨rfl,rfl,rfl⟩:=hs;exact ⟨c,hb,rfl,h1,by simpa using hname,h2⟩
     . cases hs
 . cases hs

/-- THE CONTRACT OUT OF THE BODY: it returns. -/
theorem specX_at {f:FuncId} {fn:Func} {sc:XC} {rs:List SRes} (hf:P.funcs[f]? =some fn) (hs:xslimF P fn=some (n,sc,rs)) {h:Nat->Option ZO} {nx:Nat} {args:List Z} {R:(Nat->Option ZO)->Nat->List Z->Prop} (hargs:args.length<=n)
 (hW:WX P none n sc (retD P rs R) .clean (S0Z h nx args)):SpecZ P f h nx args R:=by
 obtain ⟨c,hb,hn,hsl,hname,hrs⟩:=xslimF_inv hs;intro w0 w μ vals H hbl hl hrel;refine .inl ⟨Go.Vw.enters_run hf (by rw [hb]; rfl) hname vals w,?_⟩;refine callsIn_wide.1 (callsIn_of_wp_marks (n:=0) (F:=Fence.wide) hf hb trivial ?_);refine wpIn_mono (hW 0 c hsl _ _ w (enter_rel (f:=f) hn hargs H hbl hl hrel)) ?_;rintro e a' w' ⟨d,S',q,r⟩;cases e with
 | normal=>exact leave_ok (z:=.nul .iface) (v:=.nilIface) hrs .ret (λμ N=>.nul .iface) (λ_=>rfl) q hbl H.base.1 H.base.2 r
 | ret=>exact leave_ok (z:=.nul .iface) (v:=.nilIface) hrs .ret (λμ N=>.nul .iface) (λ_=>rfl) q hbl H.base.1 H.base.2 r
 | panic chain=>
  obtain ⟨z,v,hz,rfl,q,zc,hd⟩:=q;exact leave_ok (z:=z) (v:=v) hrs (.pan v) (λμ N=>zcv_mk hz μ N) (λhne=>absurd hd (hne zc)) q hbl H.base.1 H.base.2 r
 | _=>exact q.elim

/-- It panics. -/
theorem specP_at {f:FuncId} {fn:Func} {sc:XC} {rs:List SRes} (hf:P.funcs[f]? =some fn) (hs:xslimF P fn=some (n,sc,rs)) {h:Nat->Option ZO} {nx:Nat} {args:List Z} {v:Value} {G:Nat->Option ZO} (hargs:args.length<=n)
 (hG:∀ r,G r=none\/G r=h r) (hW:WX P none n sc (λe d S=>e= .panic [{ v,recovered:=false }]/\d= .clean/\∀ r,G r=none\/G r=S.h r) .clean (S0Z h nx args)):SpecP P f h nx args v G:=by
 obtain ⟨c,hb,hn,hsl,hname,hrs⟩:=xslimF_inv hs;intro w0 w μ vals H hbl hl hrel;refine ⟨Go.Vw.enters_run hf (by rw [hb]; rfl) hname vals w,?_⟩;refine callsIn_wide.1 (callsIn_of_wp_marks (n:=0) (F:=Fence.wide) hf hb trivial ?_);refine wpIn_mono (hW 0 c hsl _ _ w (enter_rel (f:=f) hn hargs H hbl hl hrel)) ?_;rintro e a' w' ⟨d,S',⟨rfl,rfl,hq⟩,w1,E,R1⟩;obtain ⟨μ1,H1,rel1⟩:=R1.ex;obtain ⟨H2,K2⟩:=E.out H1 R1.below;have hds:a'.defers=[]:=R1.defers.trans E.ds;show LeavesInM _ _ _ _ _ _ a'.defers _ w';rw [hds];refine ⟨rfl,?_,⟨K2.os.trans hbl.os,K2.tape.trans hbl.tape,K2.output.trans hbl.output,Nat.le_trans hbl.size K2.size,λb hb=>(K2.block b hb).trans (hbl.block b hb),hbl.lay⟩⟩;have H3:HeapOK w' ⟨w,μ,nx,w0.pr,λb hb=>hbl.old hb,[]⟩ μ1 S'.nx G:=H2.drop hq;have hμ:∀ r,r<nx->μ1 r=μ r:=H2.base.2;have H4:HeapOK w' ⟨w,μ,nx,w0.pr,λb hb=>hbl.old hb,[]⟩ μ nx G:=by
  refine H3.rename (ρ:=id) (β:=id) (Nat.le_refl _) (λ_ _=>rfl) (λq o' hq'=>?_) (λq q' _ _ he=>he);have hh:h q=some o':=by
   rcases hG q with e | e
   . rw [e] at hq'; cases hq'
   . rw [<- e]; exact hq'
  obtain ⟨a1,a2,a3⟩:=H.obj q o' hh;have hok:=a3.okR;exact ⟨a1,o',hq',(hμ q a1).symm,(renO_id (n:=nx) (λ_ _=>rfl) hok).symm,ZO.okR_mono (λr hr=>⟨hr,(hμ r hr).symm⟩) hok⟩
 exact ⟨H4.obj,H4.inj,H.base.1,λr hr=>H.base.2 r hr⟩
end
end Go.Zw
namespace Go.Zw
open Go.RowKit (Below)
open Go.Vw (Nul Shape V SX SO SRes width slimRes resRun results_run packed CallsX slimX)

section
variable {P:Program} {n:Nat} {ro:Option Nat} {h0:Nat->Option ZO} {nb:Nat} {c:CallK} {r:RR} {ent:FuncId->Bool} {rd:Bool}

theorem RunX.mono {K K':ZS->Prop} {E E':Value->ZS->Prop} (hk:∀ S,K S->K' S) (he:∀ v S,E v S->E' v S):∀ {ops:List XOp} {S:ZS},RunX P K E ops S->RunX P K' E' ops S
 | [],S,h=>hk S h
 | o::ops,S,h=>by
  rcases h with h | h
  . exact .inl (XOpZ.mono h λT hT=>RunX.mono hk he hT)
  . exact .inr (h.mono he)

/-- What holds behind code. -/
def QK (h0:Nat->Option ZO) (nb:Nat) (e:Ex) (k:Kont) (c:CallK) (r:RR):Exit->DZ->ZS->Prop:=λx d S=>∃ s m,absS s m=S/\MOK h0 nb m/\
 (match x with | .normal=>k s m (setD d c)=r | .exit id=>exk e id s m (setD d c)=r | .ret=>exr e s m (setD d c)=r | .panic chain=>∃ pv v,zcv pv=some v/\chain=[{ v,recovered:=false }]/\callP (setD d c) s m pv=r | _=>False)

theorem fc_inv {x:FC} {f:CK->FC} {y:FC} (h:fc x f=y):∃ g,x= .mk g/\f g=y:=by
 cases x with
 | mk g=>exact ⟨g,rfl,h⟩

theorem mkC_inj {f g:CK} (h:FC.mk f=FC.mk g):f=g:=by cases h; rfl
theorem setD_setD (d d':DZ) (c:CallK):setD d (setD d' c)=setD d c:=by cases c; rfl
theorem setD_self (c:CallK):setD (callD c) c=c:=by cases c; rfl
theorem callF_setD (d:DZ) (c:CallK):callF (setD d c)=callF c:=by cases c; rfl
theorem cleanK_inv {d:DZ} {x:RR} (h:cleanK (setD d c) x=r) (hb:r≠.bad):d= .clean/\x=r:=by
 have h: @DZ.rec (λ_=>RR) x .bad (λ_=>.bad) (callD (setD d c))=r:=h;rw [setD_d] at h;cases d with
 | clean=>exact ⟨rfl,h⟩
 | _=>exact absurd h.symm hb
theorem marksK_inv {d:DZ} {f:CallK->RR} (h:marksK (setD d c) f=r) (hb:r≠.bad):(d= .clean\/d= .marks)/\f (setD .marks c)=r:=by
 have h: @DZ.rec (λ_=>RR) (f (setD .marks (setD d c))) (f (setD d c)) (λ_=>.bad) (callD (setD d c))=r:=h;rw [setD_d] at h;cases d with
 | clean=>exact ⟨.inl rfl,by rw [setD_setD] at h; exact h⟩
 | marks=>exact ⟨.inr rfl,h⟩
 | clo z=>exact absurd h.symm hb
theorem lpK_inv {o:Option ZO} {f:LC->List Z->LS->RR} (h:lpK o f=r) (hb:r≠.bad):∃ lc σ st,o=some (.lp lc σ st)/\f lc σ st=r:=by
 cases o with
 | none=>exact absurd h.symm hb
 | some o=>
  cases o with
  | lp lc σ st=>exact ⟨lc,σ,st,rfl,h⟩
  | _=>exact absurd h.symm hb
theorem listS_eq {s:SL}:∀ (n i:Nat),i+n<=512->listS n s i=(List.range' i n).map (sabs s)
 | 0,i,_=>rfl
 | n+1,i,h=>by
  show sget i s::listS n s (i+1)=_;rw [listS_eq n (i+1) (by omega),List.range'_succ,List.map_cons];have:sabs s i=sget i s:=by unfold sabs; rw [if_pos (by omega)]
  rw [this]

theorem kcode_ok (hent:∀ id,ent id=true->EntersF P id) (hc:CallsOK P c) (hb:r≠.bad) (hro:rd=false->ro=none) (hn:n<=512) (fuel:Nat):∀ (sc:XC) (F:CK),kcode ent rd n fuel sc= .mk F->
 ∀ (e:Ex) (k:Kont) (d:DZ) (s:SL) (m:Mem),F e k s m (setD d c)=r->MOK h0 nb m->WX P ro n sc (QK h0 nb e k c r) d (absS s m):=by
 intro sc;induction sc with
 | skip=>
  intro F hF e k d s m h M;have h:kSkip e k s m (setD d c)=r:=by rw [mkC_inj (show FC.mk kSkip= .mk F from hF)]; exact h
  exact WX_skip ⟨s,m,rfl,M,h⟩
 | seq a b iha ihb=>
  intro F hF e k d s m h M;obtain ⟨fa,ha,hF⟩:=fc_inv (show fc (kcode ent rd n fuel a) (λa=>fc (kcode ent rd n fuel b) λb=>.mk (kSeq a b))= .mk F from hF);obtain ⟨fb,hb',hF⟩:=fc_inv hF;have h:fa e (fb e k) s m (setD d c)=r:=by rw [<- mkC_inj hF] at h; exact h
  refine WX_seq ((iha fa ha e (fb e k) d s m h M).mono ?_);rintro x d' S ⟨s',m',rfl,M',hx⟩;cases x with
  | normal=>exact ihb fb hb' e k d' s' m' hx M'
  | _=>exact ⟨s',m',rfl,M',hx⟩
 | reg ops=>
  intro F hF e k d s m h M;have h:run k (kops ops) s m (setD d c)=r:=by rw [<- mkC_inj (show FC.mk (kReg (kops ops))= .mk F from hF)] at h; exact h
  refine WX_reg (RunX.mono (λS hS=>hS) (λv S hS=>?_) (run_ok (P:=P) (setD_calls hc) hb h M));obtain ⟨pv,s',m',h1,h2,h3,h4⟩:=hS;exact ⟨s',m',h2,h3,pv,v,h1,rfl,h4⟩
 | dfr ops x=>
  intro F hF e k d s m h M;cases rd with
  | true=>
   have h:kBad e k s m (setD d c)=r:=by rw [mkC_inj (show FC.mk kBad= .mk F from hF)]; exact h
   exact absurd h.symm hb
  | false=>
   obtain rfl:=hro rfl;obtain ⟨g,hg1,hg⟩:=gx_ok x;have hF: @GX.rec (λ_=>FC) (λg=>FC.mk (kDfr (kops ops) g)) (gx x)= .mk F:=hF;rw [hg1] at hF;have h:kDfr (kops ops) g e k s m (setD d c)=r:=by rw [mkC_inj (show FC.mk (kDfr (kops ops) g)= .mk F from hF)]; exact h
   obtain ⟨rfl,h⟩:=cleanK_inv h hb;refine WX_dfr (RunX.mono (λS hS=>?_) (λv S hS=>?_) (run_ok (P:=P) (setD_calls hc) hb h M))
   . obtain ⟨s',m',rfl,M',hx⟩:=hS;obtain ⟨f,a,caps,h1,hx⟩:=zClo_inv hx hb;obtain ⟨h2,hx⟩:=bad_inv hx hb;have h2:=beq_inv h2;rw [lenL_eq] at h2;obtain rfl:=List.length_eq_zero_iff.1 h2;rw [setD_setD] at hx;rw [hg s' m'] at h1;exact ⟨f,caps,h1,s',m',rfl,M',hx⟩
   . obtain ⟨pv,s',m',h1,h2,h3,h4⟩:=hS;exact ⟨s',m',h2,h3,pv,v,h1,rfl,h4⟩
 | rf g lc a b iha ihb=>
  intro F hF e k d s m h M;cases rd with
  | true=>
   have h:kBad e k s m (setD d c)=r:=by rw [mkC_inj (show FC.mk kBad= .mk F from hF)]; exact h
   exact absurd h.symm hb
  | false=>
   obtain rfl:=hro rfl;obtain ⟨gt,hg1,hg⟩:=gx_ok g;have hF: @GX.rec (λ_=>FC) (λg=>FC.mk (kRf ent n g lc)) (gx g)= .mk F:=hF;rw [hg1] at hF;have h:kRf ent n gt lc e k s m (setD d c)=r:=by rw [mkC_inj (show FC.mk (kRf ent n gt lc)= .mk F from hF)]; exact h
   obtain ⟨id,fst,caps,h1,h⟩:=zClo_inv h hb;rw [hg s m] at h1;obtain ⟨hen,h⟩:=bad_inv h hb;obtain ⟨hlt,h⟩:=mnew_inv h hb;rw [callF_setD,appL_eq] at h;have hls:listS n s 0=(List.range n).map (absS s m).σ:=by
    rw [listS_eq n 0 (by omega),<-List.range_eq_range']; rfl
   rw [hls] at h;obtain ⟨m1,hm1⟩:∃ m1,m1=mput (.lp lc ((List.range n).map (absS s m).σ) .ready) m:=⟨_,rfl⟩;rw [<- hm1] at h;have M1:MOK h0 nb m1:=by rw [hm1]; exact M.put hlt _
   have hab:mabs m1=upd (absS s m).h (absS s m).nx (some (.lp lc ((List.range n).map (absS s m).σ) .ready)):=by rw [hm1,mabs_put hlt]; rfl
   have hnx:m1.nx=(absS s m).nx+1:=by rw [hm1,mput_nx]; rfl
   cases ea:callF c id m1 (fst++[.yl m.nx]++caps) with
   | bad=>
    have:fst++Z.yl m.nx::caps=fst++[.yl m.nx]++caps:=by simp
    rw [this,ea] at h; exact absurd h.symm hb
   | pan v dt=>
    have:fst++Z.yl m.nx::caps=fst++[.yl m.nx]++caps:=by simp
    rw [this,ea] at h; exact absurd h.symm hb
   | ok zs ups news=>
    have:fst++Z.yl m.nx::caps=fst++[.yl m.nx]++caps:=by simp
    rw [this,ea] at h;have hS:=(hc.f id m1 _ M1.top M1.free).1 zs ups news ea;unfold AnsOK at hS;rw [hab,hnx] at hS;obtain ⟨m2,b1,b2,M2,h⟩:=upsK_inv (show upsK ups m1 _=r from h) hb M1;obtain ⟨m3,c1,c2,M3,h⟩:=newsK_inv h hb M2;obtain ⟨lc',σ,st,hq,h⟩:=lpK_inv h hb;obtain ⟨hd,h⟩:=marksK_inv h hb;have hh3:mabs m3=newsF (upsF (upd (absS s m).h (absS s m).nx (some (.lp lc ((List.range n).map (absS s m).σ) .ready))) ups) ((absS s m).nx+1) news:=by rw [c1,b1,b2,hab,hnx]
    have hn3:m3.nx=(absS s m).nx+1+news.length:=by rw [c2,b2,hnx]
    have hqlt:m.nx<m3.nx:=by rw [hn3]; show m.nx<m.nx+1+_; omega
    have M4:MOK h0 nb (mset m.nx none m3):=M3.set hqlt none;have ha4:absS s (mset m.nx none m3)=⟨(absS s m).σ,upd (mabs m3) (absS s m).nx none,m3.nx⟩:=by
     simp only [absS,mabs_set (Nat.lt_of_lt_of_le hqlt M3.top),mset_nx]
    refine WX_rf hd h1 (hent id hen) hS ?_;rintro h' nx' zs' ⟨rfl,rfl,rfl⟩;rw [<- hh3,<-hn3];refine ⟨lc',σ,st,hq,?_⟩;rw [<- ha4];cases st with
    | ready=>exact ⟨s,_,rfl,M4,h⟩
    | done j i=>
     match j,h with
     | 0,h=>exact ⟨s,_,rfl,M4,h⟩
     | 1,h=>exact ⟨s,_,rfl,M4,h⟩
     | 2,h=>exact absurd h.symm hb
     | j+3,h=>exact absurd h.symm hb
 | regD anc ops=>
  intro F hF e k d s m h M;have h:kDrawn anc ops e k s m (setD d c)=r:=by rw [<- mkC_inj (show FC.mk (kDrawn anc ops)= .mk F from hF)] at h; exact h
  exact regD_ok (setD_calls hc) hb h M λS hS=>hS
 | cond t a b iha ihb=>
  intro F hF e k d s m h M;obtain ⟨g,hg1,hg⟩:=gx_ok t;have hF: @GX.rec (λ_=>FC) (λt=>fc (kcode ent rd n fuel a) λa=>fc (kcode ent rd n fuel b) λb=>.mk (kCond t a b)) (gx t)= .mk F:=hF;rw [hg1] at hF;obtain ⟨fa,ha,hF⟩:=fc_inv hF;obtain ⟨fb,hb',hF⟩:=fc_inv hF;have h:kCond g fa fb e k s m (setD d c)=r:=by rw [<- mkC_inj hF] at h; exact h
  obtain ⟨v,h1,h2⟩:=zBool_inv h hb;rw [hg s m] at h1;refine WX_cond h1 (λe1=>?_) λe1=>?_
  . subst e1; exact iha fa ha e k d s m h2 M
  . subst e1; exact ihb fb hb' e k d s m h2 M
 | block id b ih=>
  intro F hF e k d s m h M;obtain ⟨fb,hb',hF⟩:=fc_inv (show fc (kcode ent rd n fuel b) (λb=>.mk (kBlock id b))= .mk F from hF);have h:fb (.cons id k e) k s m (setD d c)=r:=by rw [<- mkC_inj hF] at h; exact h
  refine WX_block ((ih fb hb' (.cons id k e) k d s m h M).mono ?_);rintro x d' S ⟨s',m',rfl,M',hx⟩;cases x with
  | exit i=>
   have hx: @Bool.rec (λ_=>RR) (exk e i s' m' (setD d' c)) (k s' m' (setD d' c)) (Nat.beq id i)=r:=hx;simp only [blockD];cases e1:Nat.beq id i with
   | true=>rw [e1] at hx; rw [if_pos (beq_inv e1).symm]; exact ⟨s',m',rfl,M',hx⟩
   | false=>rw [e1] at hx; rw [if_neg (λh=>bne_inv e1 h.symm)]; exact ⟨s',m',rfl,M',hx⟩
  | _=>exact ⟨s',m',rfl,M',hx⟩
 | loop b ih=>
  intro F hF e k d s m h M;obtain ⟨fb,hb',hF⟩:=fc_inv (show fc (kcode ent rd n fuel b) (λb=>.mk (kLoop fuel b))= .mk F from hF);have h:(@Nat.rec (λ_=>Kont) (λ_ _ _=>.bad) (λ_ ih=>fb e ih) fuel) s m (setD d c)=r:=by rw [<- mkC_inj hF] at h; exact h
  refine WX_loopN (k0:=fuel) (λj d S=>∃ s m,absS s m=S/\MOK h0 nb m/\(@Nat.rec (λ_=>Kont) (λ_ _ _=>.bad) (λ_ ih=>fb e ih) j) s m (setD d c)=r) ⟨s,m,rfl,M,h⟩ ?_;rintro j d' S ⟨s',m',rfl,M',hx⟩;cases j with
  | zero=>exact absurd hx.symm hb
  | succ j=>
   have hx:fb e (@Nat.rec (λ_=>Kont) (λ_ _ _=>.bad) (λ_ ih=>fb e ih) j) s' m' (setD d' c)=r:=hx;refine (ih fb hb' e _ d' s' m' hx M').mono ?_;rintro x d2 S ⟨s2,m2,rfl,M2,h2⟩;cases x with
   | normal=>exact ⟨j,Nat.lt_succ_self j,s2,m2,rfl,M2,h2⟩
   | _=>exact ⟨s2,m2,rfl,M2,h2⟩
 | scope b ih=>
  intro F hF e k d s m h M;refine WX_scope ((ih F hF e k d s m h M).mono ?_);rintro x d' S ⟨s',m',rfl,M',hx⟩;cases x with
  | goto l=>exact hx
  | _=>exact ⟨s',m',rfl,M',hx⟩
 | no=>
  intro F hF e k d s m h M;have h:kBad e k s m (setD d c)=r:=by rw [mkC_inj (show FC.mk kBad= .mk F from hF)]; exact h
  exact absurd h.symm hb
 | exit id=>
  intro F hF e k d s m h M;have h:exk e id s m (setD d c)=r:=by rw [<- mkC_inj (show FC.mk (kExit id)= .mk F from hF)] at h; exact h
  exact WX_exit ⟨s,m,rfl,M,h⟩
 | ret=>
  intro F hF e k d s m h M;have h:exr e s m (setD d c)=r:=by rw [<- mkC_inj (show FC.mk kRet= .mk F from hF)] at h; exact h
  exact WX_ret ⟨s,m,rfl,M,h⟩
end
end Go.Zw
namespace Go.Zw
open Go.RowKit (Below)
open Go.Vw (Nul Shape V SX SO SRes width slimRes packed CallsX)

theorem retsK_inv {s:SL} {m:Mem}:∀ {rs:List SRes} {f:List Z->RR} {x:RR},retsK rs s m f=x->x≠.bad->∃ zs,zrets (absS s m) rs=some zs/\f zs=x
 | [],f,x,h,hb=>⟨[],rfl,h⟩
 | r::rs,f,x,h,hb=>by
  cases r with
  | tmp t=>
   obtain ⟨g,hg1,hg⟩:=gx_ok (.t t);have h: @GX.rec (λ_=>RR) (λg=>retsK rs s m λl=>f (g s::l)) (gx (.t t))=x:=h;rw [hg1] at h;obtain ⟨zs,h1,h2⟩:=retsK_inv (rs:=rs) h hb;have hs:g s=(absS s m).σ t:=hg s m;rw [hs] at h2;exact ⟨_,by simp only [zrets,zret,h1],h2⟩
  | cell t sz=>
   obtain ⟨g,hg1,hg⟩:=gx_ok (.t t);have h: @GX.rec (λ_ => RR) (λg => zPtr (g s) λr j => oOb (mget r m) λ_ _ cs => @Option.rec Nat (λ_=>RR) (nthK cs j λz=>retsK rs s m λl=>f (z::l)) (λn=>subK cs j n λz=>retsK rs s m λl=>f (.agg z::l)) sz) (gx (.t t))=x:=h;rw [hg1] at h;obtain ⟨q,j,h1,h2⟩:=zPtr_inv h hb;obtain ⟨T,fx,cs,h3,h4⟩:=oOb_inv h2 hb;have hs:g s=(absS s m).σ t:=hg s m;rw [hs] at h1;have h3:(absS s m).h q=some (.ob T fx cs):=h3;cases sz with
   | none=>
    obtain ⟨z,h5,h6⟩:=nthK_inv h4 hb;obtain ⟨zs,h7,h8⟩:=retsK_inv (rs:=rs) h6 hb;exact ⟨_,by simp only [zrets,zret,h1,h3,zpart_one h5,h7],h8⟩
   | some n=>
    obtain ⟨h5,h6⟩:=subK_inv h4 hb;obtain ⟨zs,h7,h8⟩:=retsK_inv (rs:=rs) h6 hb;exact ⟨_,by simp only [zrets,zret,h1,h3,zpart_some h5,h7],h8⟩

theorem fillS_sabs:∀ (zs:List Z) (n:Nat) (s:SL) (t:Nat),n+zs.length<=512->sabs (fillS zs n s) t=if n<=t/\t<n+zs.length then (zs[t-n]?).getD (.tup []) else sabs s t
 | [],n,s,t,_=>by
  rw [if_neg (by rintro ⟨a,b⟩; simp at b; omega)]; rfl
 | z::zs,n,s,t,h=>by
  simp only [List.length_cons] at h;have ih:=fillS_sabs zs (n+1) (sput n z s) t (by omega);show sabs (fillS zs (n+1) (sput n z s)) t=_;rw [ih,sabs_put (by omega)];simp only [List.length_cons];by_cases e:t=n
  . subst e;rw [if_neg (by omega),if_pos (by omega),upd_same];simp
  . by_cases h1:n+1<=t/\t<n+1+zs.length
    . rw [if_pos h1,if_pos (by omega)];have:t-n=(t-(n+1))+1:=by omega
      rw [this,List.getElem?_cons_succ]
    . rw [if_neg h1,if_neg (by omega),upd_ne _ _ e]

theorem sabs_s0:sabs s0=λ_=>.tup []:=by
 funext t;unfold sabs;split
 . rename_i h; exact sget_s0 h
 . rfl

theorem lenN_eq:∀ l:List Nat,lenN l=l.length
 | []=>rfl
 | z::l=>by show (lenN l).succ=_; rw [lenN_eq l]; rfl
theorem allLt_inv {n:Nat}:∀ {l:List Nat},allLt n l=true->∀ x∈l,x<n
 | [],_,x,h=>by simp at h
 | y::l,h,x,hx=>by
  have h: @Bool.rec (λ_=>Bool) false (allLt n l) (Nat.ble (Nat.succ y) n)=true:=h;cases e:Nat.ble (Nat.succ y) n with
  | false=>rw [e] at h; cases h
  | true=>
   rw [e] at h;rcases List.mem_cons.1 hx with rfl | hx
   . exact ble_inv e
   . exact allLt_inv h x hx
theorem appU_eq:∀ a b:List (Nat × Option ZO),appU a b=a++b
 | [],b=>rfl
 | z::a,b=>by show z::appU a b=_; rw [appU_eq a b]; rfl
theorem setPs_sabs:∀ {ps:List Nat} {as:List Z} {s:SL},(∀ p∈ps,p<512)->sabs (setPs ps as s)=setZ ps as (sabs s)
 | [],as,s,_=>by cases as<;>rfl
 | p::ps,[],s,_=>rfl
 | p::ps,a::as,s,h=>by
  show sabs (setPs ps as (sput p a s))=setZ ps as (upd (sabs s) p a);rw [setPs_sabs (λq hq=>h q (by simp [hq])),sabs_put (h p (by simp))]
theorem fill0_sabs {zs:List Z} (h:zs.length<=512):sabs (fillS zs 0 s0)=λt=>(zs[t]?).getD (.tup []):=by
 funext t;rw [fillS_sabs zs 0 s0 t (by omega),sabs_s0];split
 . simp
 . rename_i hn;rw [List.getElem?_eq_none (by omega)]; rfl

section
variable {P:Program} {ent:FuncId->Bool}

theorem inC_setD (c:CallK):inC c=setD .clean (inC c):=by cases c; rfl
theorem setD_no {c:CallK} (h:NoP c) (d:DZ) (hd:∀ d,NoP (setD d c)):NoP (setD d c):=hd d
theorem inC_noD (c:CallK) (d:DZ):NoP (setD d (inC c)):=by cases c; exact λ_ _ _=>rfl

/-- What is asked behind a round, reckoned. -/
noncomputable def finYi (q nb:Nat) (b:Bool) (ups0:List (Nat × Option ZO)) (m:Mem):RR:= @Mem.rec (λ_=>RR) (λ_ _ _ dt=> @Bool.rec (λ_=>RR) (frcL (seen nb m [] dt) λl=>upsR (newK nb l) m dt λups=>newsR (newK nb l) nb m l nb λnews=>.ok (.cons (.b b) .nil) (appU ups0 ups) news) .bad (memN q dt)) m

/-- Rounds of whatever loop. -/
theorem roundU_ok {slm:Nat->Code->Option XC} (hent:∀ id,ent id=true->EntersF P id) (hslm:∀ n c x,slm n c=some x->xslimCode P n c=some x) {fuel:Nat} {c:CallK} (hc:CallsOK P c):YOK P (roundU slm ent fuel c):=by
 intro q m args zs ups news htop hfree h;have hb:RR.ok zs ups news≠.bad:=by simp
 obtain ⟨lc,σ,st,hq,h⟩:=lpK_inv h hb;have hqn:q<m.nx:=by
  rcases Nat.lt_or_ge q m.nx with h | h
  . exact h
  . have:=hfree q h; rw [show mabs m q=mget q m from rfl,hq] at this; cases this
 cases st with
 | done j id=>exact absurd h.symm hb
 | ready=>
  have h:frc (lenL σ) (λn=> @Option.rec XC (λ_=>RR) .bad (λxa=> @Option.rec XC (λ_=>RR) .bad (λxb=> @FC.rec (λ_=>RR) (λka=> @FC.rec (λ_=>RR) (λkb=>roundB q n σ lc ka kb (inC c) m args) (kcode ent true n fuel xb)) (kcode ent true n fuel xa)) (slm n lc.body)) (slm n lc.asg))=RR.ok zs ups news:=h;rw [frc_eq,lenL_eq] at h;cases ea:slm σ.length lc.asg with
  | none=>rw [ea] at h; cases h
  | some xa=>
  cases eb:slm σ.length lc.body with
  | none=>rw [ea,eb] at h; cases h
  | some xb=>
  rw [ea,eb] at h;cases eFa:kcode ent true σ.length fuel xa with
  | mk ka=>
  cases eFb:kcode ent true σ.length fuel xb with
  | mk kb=>
  have h:(@FC.rec (λ_=>RR) (λka=> @FC.rec (λ_=>RR) (λkb=>roundB q σ.length σ lc ka kb (inC c) m args) (kcode ent true σ.length fuel xb)) (kcode ent true σ.length fuel xa))=RR.ok zs ups news:=h;rw [eFa,eFb] at h;have h:roundB q σ.length σ lc ka kb (inC c) m args=RR.ok zs ups news:=h;cases m with
  | mk hp nx nb dt=>
  obtain ⟨h1,h⟩:=bad_inv h hb;obtain ⟨h2,h⟩:=bad_inv h hb;obtain ⟨h3,h⟩:=bad_inv h hb;have h1:=ble_inv h1;have h2:=beq_inv h2;rw [lenL_eq,lenN_eq] at h2;have h3:=allLt_inv h3;obtain ⟨hh,hhe⟩:∃ hh,hh=mabs (.mk hp nx nb dt):=⟨_,rfl⟩;have hqn:q<nx:=hqn;have htop:nx<=4096:=htop;have hab:mabs (.mk (hput q none hp) nx nx [])=upd hh q none:=by
   funext r;rw [hhe];simp only [mabs,mget,upd_apply];exact hget_put (by omega) none hp r
  have hq:hh q=some (.lp lc σ .ready):=by rw [hhe]; exact hq
  have hfree:∀ r,nx<=r->hh r=none:=by rw [hhe]; exact hfree
  have M0:MOK (upd hh q none) nx (.mk (hput q none hp) nx nx []):=⟨rfl,Nat.le_refl _,htop,λr _ _=>by rw [hab],λr hr=>absurd (show r∈([]:List Nat) from hr) (by simp),λr hr=>by
   rw [hab,upd_ne _ _ (by have:nx<=r:=hr; omega)]; exact hfree r hr⟩
  have hS0:absS (setPs lc.ps.toList args (fillS σ 0 s0)) (.mk (hput q none hp) nx nx [])=⟨setZ lc.ps.toList args (λt=>(σ[t]?).getD (.tup [])),upd hh q none,nx⟩:=by
   simp only [absS,hab];rw [setPs_sabs (λp hp=>Nat.lt_of_lt_of_le (h3 p hp) h1),fill0_sabs h1]; rfl
  let R0:(Nat->Option ZO)->Nat->List Z->Prop:=λh' nx' zs'=>∃ m2 b st ups0,h'=upd (mabs m2) q (some (.lp lc σ st))/\nx'=m2.nx/\zs'=[.b b]/\MOK (upd hh q none) nx m2/\finYi q nx b ups0 m2= .ok zs ups news/\((st= .ready/\ups0=[])\/ups0=[(q,some (.lp lc σ st))])
  have hc':CallsOK P (inC c):=inC_calls hc;rw [inC_setD c] at h;have hsp:SpecY P q hh nx args R0:=by
   refine specY_of hq h3 (by simpa using h2) (hslm _ _ _ ea) (hslm _ _ _ eb) λl=>?_;have hWa:=kcode_ok (P:=P) (n:=σ.length) (ro:=some l) (h0:=upd hh q none) (nb:=nx) (rd:=true) hent hc' hb (λh=>by cases h) h1 fuel xa ka eFa _ _ _ _ _ h M0;rw [hS0] at hWa;refine hWa.mono ?_;rintro x d S ⟨s1,m1,rfl,M1,hx⟩;cases x with
   | normal=>
    obtain ⟨rfl,hx⟩:=cleanK_inv hx hb;refine ⟨rfl,rfl,?_⟩;have hWb:=kcode_ok (P:=P) (n:=σ.length) (ro:=some l) (h0:=upd hh q none) (nb:=nx) (rd:=true) hent hc' hb (λh=>by cases h) h1 fuel xb kb eFb _ _ _ _ _ hx M1;refine hWb.mono ?_;rintro x d S ⟨s2,m2,rfl,M2,hx⟩;cases x with
    | normal=>
     obtain ⟨rfl,hx⟩:=cleanK_inv (show cleanK (setD d (inC c)) (finYi q nx true [] m2)=_ from hx) hb;exact ⟨rfl,m2,true,.ready,[],rfl,rfl,rfl,M2,hx,.inl ⟨rfl,rfl⟩⟩
    | ret=>
     obtain ⟨rfl,hx⟩:=cleanK_inv (show cleanK (setD d (inC c)) (finYi q nx false (jmpO lc σ q 0 0) m2)=_ from hx) hb;exact ⟨rfl,m2,false,.done 0 0,_,rfl,rfl,rfl,M2,hx,.inr rfl⟩
    | exit id=>
     obtain ⟨rfl,hx⟩:=cleanK_inv (show cleanK (setD d (inC c)) (finYi q nx false (jmpO lc σ q 1 id) m2)=_ from hx) hb;exact ⟨rfl,m2,false,.done 1 id,_,rfl,rfl,rfl,M2,hx,.inr rfl⟩
    | panic chain=>
     obtain ⟨pv,v,_,_,hx⟩:=hx;rw [inC_noD] at hx; exact absurd hx.symm hb
    | _=>exact hx.elim
   | ret=>exact absurd (show RR.bad=_ from hx) (by simp)
   | exit id=>exact absurd (show RR.bad=_ from hx) (by simp)
   | panic chain=>
    obtain ⟨pv,v,_,_,hx⟩:=hx;rw [inC_noD] at hx; exact absurd hx.symm hb
   | _=>exact hx.elim
  show SpecY P q (mabs (.mk hp nx nb dt)) nx args _;rw [<- hhe];refine hsp.compact ?_;rintro okh h' nx' zs' ⟨m2,b,st,ups0,rfl,rfl,rfl,M2,hx,hcase⟩;cases m2 with
  | mk hp2 nx2 nb2 dt2=>
  have hx: @Bool.rec (λ_=>RR) (frcL (seen nx (.mk hp2 nx2 nb2 dt2) [] dt2) λl=>upsR (newK nx l) (.mk hp2 nx2 nb2 dt2) dt2 λups=>newsR (newK nx l) nx (.mk hp2 nx2 nb2 dt2) l nx λnews=>.ok (.cons (.b b) .nil) (appU ups0 ups) news) .bad (memN q dt2)=RR.ok zs ups news:=hx;cases hmem:memN q dt2 with
  | true=>rw [hmem] at hx; cases hx
  | false=>
  rw [hmem] at hx;have hqd:q ∉ dt2:=λhm=>by rw [(memN_iff q dt2).2 hm] at hmem; cases hmem
  have hx:=frcL_inv _ (show frcL (seen nx (.mk hp2 nx2 nb2 dt2) [] dt2) (λl=>upsR (newK nx l) (.mk hp2 nx2 nb2 dt2) dt2 λups=>newsR (newK nx l) nx (.mk hp2 nx2 nb2 dt2) l nx λnews=>.ok (.cons (.b b) .nil) (appU ups0 ups) news)=RR.ok zs ups news from hx);obtain ⟨b2,hx⟩:=upsR_inv dt2 hx hb;obtain ⟨news',hx,b3,b4⟩:=newsR_inv _ hx hb;simp only [RR.ok.injEq] at hx;obtain ⟨e1,e2,e3⟩:=hx;subst e3;rw [appU_eq] at e2;have hne:∀ r,r≠q->upd (mabs (.mk hp2 nx2 nb2 dt2)) q (some (.lp lc σ st)) r=mget r (.mk hp2 nx2 nb2 dt2):=λr hr=>by rw [upd_ne _ _ hr]; rfl
  have a1:∀ r,r<nx->r ∉ dt2->r≠q->upd (mabs (.mk hp2 nx2 nb2 dt2)) q (some (.lp lc σ st)) r=hh r:=λr hr hd hrq=>by
   have:=M2.keep r hr hd;rw [upd_ne _ _ hrq] at this ⊢;exact this
  have hmap:(dt2.map λr=>(r,(upd (mabs (.mk hp2 nx2 nb2 dt2)) q (some (.lp lc σ st)) r).map (ZO.ren (rho nx (seen nx (.mk hp2 nx2 nb2 dt2) [] dt2)))))=dt2.map λr=>(r,(mget r (.mk hp2 nx2 nb2 dt2)).map (ZO.ren (rho nx (seen nx (.mk hp2 nx2 nb2 dt2) [] dt2)))):=
   List.map_congr_left λr hr=>by rw [hne r (λe=>hqd (e ▸ hr))]
  have hnews:∀ j r,(seen nx (.mk hp2 nx2 nb2 dt2) [] dt2)[j]? =some r->nx<=r/\rho nx (seen nx (.mk hp2 nx2 nb2 dt2) [] dt2) r=nx+j/\∃ o,upd (mabs (.mk hp2 nx2 nb2 dt2)) q (some (.lp lc σ st)) r=some o/\o.okR (domL nx (seen nx (.mk hp2 nx2 nb2 dt2) [] dt2))/\news'[j]? =some (o.ren (rho nx (seen nx (.mk hp2 nx2 nb2 dt2) [] dt2))):=λj r hj=>by
   obtain ⟨c1,c2,o,c3,c4,c5⟩:=b4 j r hj;exact ⟨c1,c2,o,by rw [hne r (by omega)]; exact c3,c4,c5⟩
  have hold:∀ r∈dt2,∀ o,upd (mabs (.mk hp2 nx2 nb2 dt2)) q (some (.lp lc σ st)) r=some o->o.okR (domL nx (seen nx (.mk hp2 nx2 nb2 dt2) [] dt2)):=λr hr o ho=>b2 r hr o (by rw [<- hne r (λe=>hqd (e ▸ hr))]; exact ho);rcases hcase with ⟨rfl,rfl⟩ | rfl
  . refine ⟨_,dt2,λr hr hd=>?_,λr hr=>M2.old r hr,⟨trivial,trivial⟩,e1.symm,hold,by rw [hmap]; exact e2.symm,b3,hnews⟩;by_cases e:r=q
    . subst e; rw [upd_same,hq]
    . exact a1 r hr hd e
  . have hσ:(ZO.lp lc σ st).okR (· < nx):=(okh q _ hq).2;refine ⟨_,q::dt2,λr hr hd=>?_,λr hr=>?_,⟨trivial,trivial⟩,e1.symm,λr hr o ho=>?_,?_,b3,hnews⟩
    . simp only [List.mem_cons,not_or] at hd;exact a1 r hr hd.2 hd.1
    . rcases List.mem_cons.1 hr with rfl | hr
      . exact hqn
      . exact M2.old r hr
    . by_cases e:r=q
      . subst e;rw [upd_same,Option.some.injEq] at ho; subst ho;exact ZO.okR_mono (λr hr=>.inl hr) hσ
      . rcases List.mem_cons.1 hr with hr | hr
        . exact absurd hr e
        . exact hold r hr o ho
    . rw [List.map_cons,hmap,upd_same,<-e2];simp only [Option.map_some,List.cons_append,List.nil_append];rw [renO_id (n:=nx) (λr hr=>by unfold rho; rw [if_pos hr]) hσ]
end
end Go.Zw
namespace Go.Zw
open Go.RowKit (Below)
open Go.Vw (Nul Shape V SX SO SRes width slimRes packed CallsX)

def ConOK (P:Program) (con:(YT->Fn3)->YT->Fn3):Prop:=∀ g,GOK P g->GOK P (con g)
def TabOK (P:Program) (tab:FuncId->Option T3):Prop:=∀ f t,tab f=some t->∃ fn,P.funcs[f]? =some fn/\xslimF P fn=some t
def DTabOK (P:Program) (dtab:FuncId->Option TD):Prop:=∀ f t,dtab f=some t->∃ fn,P.funcs[f]? =some fn/\xdslimF P fn=some t

theorem entT_ok {P:Program} {tab:FuncId->Option T3} (ht:TabOK P tab):∀ id,entT tab id=true->EntersF P id:=by
 intro id h;have h: @Option.rec T3 (λ_=>Bool) false (λ_=>true) (tab id)=true:=h;cases e:tab id with
 | none=>rw [e] at h; cases h
 | some t=>
  obtain ⟨fn,hf,hs⟩:=ht id t e;obtain ⟨n,sc,rs⟩:=t;obtain ⟨c,hb,hn,hsl,hname,hrs⟩:=xslimF_inv hs;exact ⟨fn,hf,by rw [hb]; rfl,hname⟩

theorem chkP_inv {x r:RR} (h:chkP x=r) (hb:r≠.bad):x=r/\∀ v dt,r= .pan v dt->∃ val,zcv v=some val:=by
 cases x with
 | bad=>exact absurd h.symm hb
 | ok zs ups news=>exact ⟨h,λv dt e=>by rw [<- h] at e; cases e⟩
 | pan v dt=>
  have h: @Option.rec Value (λ_=>RR) .bad (λ_=>.pan v dt) (zcv v)=r:=h;cases e:zcv v with
  | none=>rw [e] at h; exact absurd h.symm hb
  | some val=>
   rw [e] at h;refine ⟨h,λv' dt' e'=>?_⟩;rw [<- h] at e';have e':RR.pan v dt=RR.pan v' dt':=e';simp only [RR.pan.injEq] at e';rw [<- e'.1]; exact ⟨val,e⟩
theorem onlyOk_inv {x r:RR} (h:onlyOk x=r) (hb:r≠.bad):x=r/\∃ zs ups news,r= .ok zs ups news:=by
 cases x with
 | ok zs ups news=>exact ⟨h,_,_,_,h.symm⟩
 | _=>exact absurd h.symm hb

section
variable {P:Program} {ent:FuncId->Bool} {h0:Nat->Option ZO} {nb:Nat} {c:CallK} {r:RR}

theorem kseqs_ok (hent:∀ id,ent id=true->EntersF P id) (hc:CallsOK P c) (hb:r≠.bad) {n:Nat} (hn:n<=512) (fuel:Nat):∀ (l:List XC) (F:CK),kcode ent false n fuel (kseqs l)= .mk F->
 ∀ (e:Ex) (k:Kont) (d:DZ) (s:SL) (m:Mem),F e k s m (setD d c)=r->MOK h0 nb m->WXL P n l (QK h0 nb e k c r) d (absS s m)
 | [],F,hF,e,k,d,s,m,h,M=>by
  have h:kSkip e k s m (setD d c)=r:=by rw [mkC_inj (show FC.mk kSkip= .mk F from hF)]; exact h
  exact ⟨s,m,rfl,M,h⟩
 | x::l,F,hF,e,k,d,s,m,h,M=>by
  obtain ⟨fa,ha,hF⟩:=fc_inv (show fc (kcode ent false n fuel x) (λa=>fc (kcode ent false n fuel (kseqs l)) λb=>.mk (kSeq a b))= .mk F from hF);obtain ⟨fb,hb',hF⟩:=fc_inv hF;have h:fa e (fb e k) s m (setD d c)=r:=by rw [<- mkC_inj hF] at h; exact h
  refine (kcode_ok (ro:=none) hent hc hb (λ_=>rfl) hn fuel x fa ha e (fb e k) d s m h M).mono ?_;rintro ex d' S ⟨s',m',rfl,M',hx⟩;cases ex with
  | normal=>exact kseqs_ok hent hc hb hn fuel l fb hb' e k d' s' m' hx M'
  | _=>exact ⟨s',m',rfl,M',hx⟩

theorem defK_ok (hent:∀ id,ent id=true->EntersF P id) {dtab:FuncId->Option TD} (hdt:DTabOK P dtab) {y:YT} {g:YT->Fn3} (hy:YOK P y) (hg:GOK P g) {fuel:Nat} {z v:Z} {m:Mem} {f:Mem->RR} (h:defK ent dtab fuel y g z v m f=r) (hb:r≠.bad) (M:MOK h0 nb m):
 ∃ id caps fn n dr l,z= .clo id [] caps/\P.funcs[id]? =some fn/\xdslimF P fn=some (n,dr,l)/\caps.length<=n/\dr<n/\
  WXL P n l (λe d S=>(e= .normal\/e= .ret)/\d= .clean/\∃ m',S.h=mabs m'/\S.nx=m'.nx/\MOK h0 nb m'/\f m'=r) .clean ⟨upd (λt=>(caps[t]?).getD (.tup [])) dr v,mabs m,m.nx⟩:=by
 obtain ⟨id,a,caps,rfl,hh⟩:=zClo_inv h hb;clear h;obtain ⟨h1,h⟩:=bad_inv hh hb;clear hh;have h1:=beq_inv h1;rw [lenL_eq] at h1;have h1:=List.length_eq_zero_iff.1 h1;subst h1;cases ed:dtab id with
 | none=>rw [ed] at h; exact absurd h.symm hb
 | some t=>
  obtain ⟨n,dr,l⟩:=t;rw [ed] at h;obtain ⟨fn,hf,hs⟩:=hdt id _ ed;obtain ⟨h2,h⟩:=bad_inv h hb;obtain ⟨h3,h⟩:=bad_inv h hb;obtain ⟨h4,h⟩:=bad_inv h hb;have h2:=ble_inv h2;have h3:=ble_inv h3;have h4:dr<n:=ble_inv h4;rw [lenL_eq] at h3;cases eF:kcode ent false n fuel (kseqs l) with
  | mk F=>
   rw [eF] at h;have h:F (.nil λ_ m c=>cleanK c (f m)) (λ_ m c=>cleanK c (f m)) (sput dr v (fillS caps 0 s0)) m (setD .clean (.mk y g (λ_ _ _ _=>.bad) .clean))=r:=h;have hS0:absS (sput dr v (fillS caps 0 s0)) m=⟨upd (λt=>(caps[t]?).getD (.tup [])) dr v,mabs m,m.nx⟩:=by
    simp only [absS];rw [sabs_put (by omega),fill0_sabs (by omega)]
   have hW:=kseqs_ok (P:=P) (h0:=h0) (nb:=nb) (c:=.mk y g (λ_ _ _ _=>.bad) .clean) hent ⟨hy,hg⟩ hb h2 fuel l F eF _ _ .clean _ _ h M;rw [hS0] at hW;refine ⟨id,caps,fn,n,dr,l,rfl,hf,hs,h3,h4,hW.mono ?_⟩;rintro e d S ⟨s',m',rfl,M',hx⟩;cases e with
   | normal=>
    obtain ⟨rfl,hx⟩:=cleanK_inv hx hb;exact ⟨.inl rfl,rfl,m',rfl,rfl,M',hx⟩
   | ret=>
    obtain ⟨rfl,hx⟩:=cleanK_inv hx hb;exact ⟨.inr rfl,rfl,m',rfl,rfl,M',hx⟩
   | exit i=>exact absurd (show RR.bad=r from hx) hb.symm
   | panic chain=>
    obtain ⟨pv,v,_,_,hx⟩:=hx;exact absurd (show RR.bad=r from hx) hb.symm
   | _=>exact hx.elim

/-- An answer's making, turned back. -/
theorem fin0_inv {rs:List SRes} {s:SL} {m:Mem} (h:fin0 nb rs s m=r) (hb:r≠.bad):∃ zs0,zrets (absS s m) rs=some zs0/\
 (@Mem.rec (λ_=>RR) (λ_ _ _ dt=>frcL (seen nb m zs0 dt) λl=>rensK (newK nb l) zs0 λzs=>upsR (newK nb l) m dt λups=>newsR (newK nb l) nb m l nb λnews=>.ok zs ups news) m)=r:=
 retsK_inv (show retsK rs s m (λzs'=> @Mem.rec (λ_=>RR) (λ_ _ _ dt=>frcL (seen nb m zs' dt) λl=>rensK (newK nb l) zs' λzs=>upsR (newK nb l) m dt λups=>newsR (newK nb l) nb m l nb λnews=>.ok zs ups news) m)=r from h) hb

/-- What a memory answers. -/
def FinR (h0:Nat->Option ZO) (nx:Nat) (zs:List Z) (ups:List (Nat × Option ZO)) (news:List ZO):(Nat->Option ZO)->Nat->List Z->Prop:=λh' nx' zs'=>∃ m',h'=mabs m'/\nx'=m'.nx/\MOK h0 nx m'/\
 (@Mem.rec (λ_=>RR) (λ_ _ _ dt=>frcL (seen nx m' zs' dt) λl=>rensK (newK nx l) zs' λzs=>upsR (newK nx l) m' dt λups=>newsR (newK nx l) nx m' l nx λnews=>.ok zs ups news) m')=RR.ok zs ups news

theorem fin_compact {f:FuncId} {args zs:List Z} {ups:List (Nat × Option ZO)} {news:List ZO} (hsp:SpecZ P f h0 nb args (FinR h0 nb zs ups news)):AnsOK P f h0 nb args zs ups news:=by
 have hb:RR.ok zs ups news≠.bad:=by simp
 refine hsp.compact ?_;rintro h' nx' zs' ⟨m',rfl,rfl,M',hx⟩;cases m' with
 | mk hp' nx' nb' dt'=>
  have hx:=frcL_inv _ (show frcL (seen nb (.mk hp' nx' nb' dt') zs' dt') (λl=>rensK (newK nb l) zs' λzs=>upsR (newK nb l) (.mk hp' nx' nb' dt') dt' λups=>newsR (newK nb l) nb (.mk hp' nx' nb' dt') l nb λnews=>.ok zs ups news)=RR.ok zs ups news from hx);obtain ⟨b1,hx⟩:=rensK_inv zs' hx hb;obtain ⟨b2,hx⟩:=upsR_inv dt' hx hb;obtain ⟨news',hx,b3,b4⟩:=newsR_inv _ hx hb;simp only [RR.ok.injEq] at hx;obtain ⟨e1,e2,e3⟩:=hx;subst e3;exact ⟨_,dt',λr hr hn=>M'.keep r hr hn,λr hr=>M'.old r hr,b1,e1.symm,b2,e2.symm,b3,b4⟩
end

/-- THE WHOLE: functions, as the kernel reckons them, keep the contract that is reckoned. -/
theorem kfun_ok {P:Program} {con:(YT->Fn3)->YT->Fn3} {tab:FuncId->Option T3} {dtab:FuncId->Option TD} {fuel:Nat} (hcon:ConOK P con) (ht:TabOK P tab) (hdt:DTabOK P dtab):∀ d,GOK P (kfun con tab dtab fuel d)
 | 0=>λy hy f m args h1 h2=>⟨(λzs ups news h=>by cases h),(λv dt h=>by cases h)⟩
 | d+1=>by
  refine hcon _ ?_;intro y hy f m args h1 h2;have ih:=kfun_ok (fuel:=fuel) hcon ht hdt d;have hent:=entT_ok ht;cases m with
  | mk hp nx nb dt=>
  -- what is reckoned, whatever it is
  have key:∀ r,r≠.bad->(@Option.rec T3 (λ_=>RR) .bad (λt=> @Prod.rec Nat (XC × List SRes) (λ_=>RR) (λn t=> @Prod.rec XC (List SRes) (λ_=>RR) (λsc rs=>
   @Bool.rec (λ_=>RR) .bad (@Bool.rec (λ_=>RR) .bad (@FC.rec (λ_=>RR) (λF=>F (.nil (finD (entT tab) dtab fuel y (kfun con tab dtab fuel d) nx rs)) (finD (entT tab) dtab fuel y (kfun con tab dtab fuel d) nx rs) (fillS args 0 s0) (.mk hp nx nx []) (.mk y (kfun con tab dtab fuel d) (panD (entT tab) dtab fuel y (kfun con tab dtab fuel d) nx rs) .clean)) (kcode (entT tab) false n fuel sc)) (Nat.ble (lenL args) n)) (Nat.ble n 512)) t) t) (tab f))=r->
   ∃ fn n sc rs,P.funcs[f]? =some fn/\xslimF P fn=some (n,sc,rs)/\args.length<=n/\
    WX P none n sc (QK (mabs (.mk hp nx nb dt)) nx (.nil (finD (entT tab) dtab fuel y (kfun con tab dtab fuel d) nx rs)) (finD (entT tab) dtab fuel y (kfun con tab dtab fuel d) nx rs) (.mk y (kfun con tab dtab fuel d) (panD (entT tab) dtab fuel y (kfun con tab dtab fuel d) nx rs) .clean) r) .clean (S0Z (mabs (.mk hp nx nb dt)) nx args):=by
   intro r hb h;cases e:tab f with
   | none=>rw [e] at h; exact absurd h.symm hb
   | some t=>
    obtain ⟨n,sc,rs⟩:=t;rw [e] at h;obtain ⟨h3,h⟩:=bad_inv h hb;obtain ⟨h4,h⟩:=bad_inv h hb;have h3:=ble_inv h3;have h4:=ble_inv h4;rw [lenL_eq] at h4;cases eF:kcode (entT tab) false n fuel sc with
    | mk F=>
     rw [eF] at h;have M0:MOK (mabs (.mk hp nx nb dt)) nx (.mk hp nx nx []):=⟨rfl,Nat.le_refl _,h1,λr _ _=>rfl,λr hr=>absurd (show r∈([]:List Nat) from hr) (by simp),h2⟩;have hS0:absS (fillS args 0 s0) (.mk hp nx nx [])=S0Z (mabs (.mk hp nx nb dt)) nx args:=by
      simp only [absS,S0Z];rw [fill0_sabs (by omega)]; rfl
     have hW:=kcode_ok (P:=P) (n:=n) (ro:=none) (rd:=false) (h0:=mabs (.mk hp nx nb dt)) (nb:=nx) (c:=.mk y (kfun con tab dtab fuel d) (panD (entT tab) dtab fuel y (kfun con tab dtab fuel d) nx rs) .clean) hent ⟨hy,ih⟩ hb (λ_=>rfl) h3 fuel sc F eF _ _ .clean _ _ h M0;rw [hS0] at hW;obtain ⟨fn,hf,hs⟩:=ht f _ e;exact ⟨fn,n,sc,rs,hf,hs,h4,hW⟩
  refine ⟨λzs ups news h=>?_,λv dtp h=>?_⟩
  . have hb:RR.ok zs ups news≠.bad:=by simp
    obtain ⟨fn,n,sc,rs,hf,hs,h4,hW⟩:=key _ hb (chkP_inv h hb).1;refine fin_compact (specX_at hf hs h4 (hW.mono ?_));rintro x d' S ⟨s',m',rfl,M',hx⟩;have fin:∀ {s:SL} {m:Mem},MOK (mabs (.mk hp nx nb dt)) nx m->fin0 nx rs s m=RR.ok zs ups news->retP rs (FinR (mabs (.mk hp nx nb dt)) nx zs ups news) (absS s m):=λ{s m} M hx=>by
     obtain ⟨zs0,a1,a2⟩:=fin0_inv hx hb;unfold retP;rw [a1];exact ⟨m,rfl,rfl,M,a2⟩
    have fdef:∀ {z v:Z},defK (entT tab) dtab fuel y (kfun con tab dtab fuel d) z v m' (λm=>fin0 nx rs s' m)=RR.ok zs ups news->leaveP P rs (FinR (mabs (.mk hp nx nb dt)) nx zs ups news) v (absS s' m') (.clo z):=λ{z v} hx=>by
     obtain ⟨id,caps,fd,n',dr,l,rfl,c1,c2,c3,c4,c5⟩:=defK_ok hent hdt hy ih hx hb M';refine ⟨id,caps,fd,n',dr,l,rfl,c1,c2,c3,c4,c5.mono ?_⟩;rintro e d2 S ⟨he,rfl,m2,q1,q2,M2,hx2⟩;refine ⟨he,rfl,?_⟩;have:=fin M2 hx2;rw [q1,q2];exact this
    have hend:finD (entT tab) dtab fuel y (kfun con tab dtab fuel d) nx rs s' m' (setD d' (.mk y (kfun con tab dtab fuel d) (panD (entT tab) dtab fuel y (kfun con tab dtab fuel d) nx rs) .clean))=RR.ok zs ups news->leaveP P rs (FinR (mabs (.mk hp nx nb dt)) nx zs ups news) (.nul .iface) (absS s' m') d':=λhx=>by
     obtain ⟨hx,_⟩:=onlyOk_inv hx hb;rw [setD_d] at hx;cases d' with
     | clean=>exact ⟨rfl,fin M' hx⟩
     | marks=>exact ⟨rfl,fin M' hx⟩
     | clo z=>exact fdef hx
    cases x with
    | normal=>exact hend hx
    | ret=>exact hend hx
    | exit i=>exact absurd (show RR.bad=RR.ok zs ups news from hx) (by simp)
    | panic chain=>
     obtain ⟨pv,v,hv,rfl,hx⟩:=hx;have hx:panD (entT tab) dtab fuel y (kfun con tab dtab fuel d) nx rs d' s' m' pv=RR.ok zs ups news:=hx;cases d' with
     | clean=>cases hx
     | marks=>cases hx
     | clo z=>
      obtain ⟨hx,_⟩:=onlyOk_inv hx hb;exact ⟨pv,v,hv,rfl,fdef hx,z,rfl⟩
    | _=>exact hx.elim
  . have hb:RR.pan v dtp≠.bad:=by simp
    obtain ⟨hx,hval⟩:=chkP_inv h hb;obtain ⟨fn,n,sc,rs,hf,hs,h4,hW⟩:=key _ hb hx;obtain ⟨val,hz⟩:=hval v dtp rfl;have hend:∀ {s':SL} {m':Mem} {d':DZ},finD (entT tab) dtab fuel y (kfun con tab dtab fuel d) nx rs s' m' (setD d' (.mk y (kfun con tab dtab fuel d) (panD (entT tab) dtab fuel y (kfun con tab dtab fuel d) nx rs) .clean))=RR.pan v dtp->False:=λhx=>by
     obtain ⟨_,zs,ups,news,e⟩:=onlyOk_inv hx hb;cases e
    . refine ⟨val,hz,specP_at hf hs h4 (λr=>?_) (hW.mono ?_)⟩
      . simp only [dropF];split
        . exact .inl rfl
        . exact .inr rfl
      . rintro x d' S ⟨s',m',rfl,M',hx⟩;cases x with
        | normal=>exact (hend hx).elim
        | ret=>exact (hend hx).elim
        | exit i=>exact absurd (show RR.bad=RR.pan v dtp from hx) (by simp)
        | panic chain=>
         obtain ⟨pv,v',hv,rfl,hx⟩:=hx;have hx:panD (entT tab) dtab fuel y (kfun con tab dtab fuel d) nx rs d' s' m' pv=RR.pan v dtp:=hx;cases d' with
         | clean=>
          have hx:RR.pan pv m'.dt=RR.pan v dtp:=hx;simp only [RR.pan.injEq] at hx;obtain ⟨rfl,rfl⟩:=hx;rw [hz,Option.some.injEq] at hv; subst hv;refine ⟨rfl,rfl,λr=>?_⟩;simp only [dropF];split
          . exact .inl rfl
          . rename_i hr;rcases Nat.lt_or_ge r nx with hlt | hge
            . exact .inr (M'.keep r hlt hr).symm
            . exact .inl (h2 r hge)
         | marks=>cases hx
         | clo z=>
          obtain ⟨_,zs,ups,news,e⟩:=onlyOk_inv hx hb;cases e
        | _=>exact hx.elim
end Go.Zw
namespace Go.Zw
open Go.RowKit (Below)
open Go.Vw (Nul Shape V SX SO SRes width slimRes packed CallsX)

/-- The function is of the model's table. -/
def ExtF (P : Program) (f : FuncId) (e : Array Value → Sem Value) : Prop := ∃ fn, P.funcs[f]? = some fn ∧ (fn.name == "runtime.NumGoroutine") = false ∧ fn.body.isNone = true ∧ Extern.findNext fn = none ∧ Extern.find fn = some e

theorem ext_ans {P:Program} {f:FuncId} {e:Array Value->Sem Value} (hf:ExtF P f e) {h:Nat->Option ZO} {nx:Nat} {args zs:List Z}
 (hr:∀ μ (vals:Array Value),vals.size=args.length->(∀ j (hj:j<args.length),RelZ μ nx (args[j]) (vals.getD j undef))->∃ vs:List Value,(∀ w,(e vals).run P w= .ok (packed vs) w)/\vs.length=zs.length/\∀ j (hj:j<zs.length),RelZ μ nx (zs[j]) (vs.getD j undef)):
 AnsOK P f h nx args zs [] []:=by
 intro w0 w μ vals H hbl hl hrel;obtain ⟨fn,h1,h2,h3,h4,h5⟩:=hf;obtain ⟨vs,b1,b2,b3⟩:=hr μ vals hl hrel;refine .inr ⟨packed vs,?_,h,nx,zs,vs,μ,⟨rfl,rfl,rfl⟩,rfl,H,Nat.le_refl _,λ_ _=>rfl,hbl,b2,b3⟩;rw [run_callFunc_extern h1 h2 h3 h4 h5,b1]; rfl

/-- As the table has it. -/
def addEntry:Array Value->Sem Value:=λargs=>do
 let (x, y, c) ← Extern.MathBitsCarry.three "Add64" args
 pure (Extern.MathBitsCarry.pair ((x+y+c)%Extern.MathBitsCarry.m64) ((x+y+c) / Extern.MathBitsCarry.m64))
def subEntry:Array Value->Sem Value:=λargs=>do
 let (x, y, b) ← Extern.MathBitsCarry.three "Sub64" args
 pure (Extern.MathBitsCarry.pair ((x+Extern.MathBitsCarry.m64-y-b)%Extern.MathBitsCarry.m64) (if x<y+b then 1 else 0))

noncomputable def a3 (args:List Z) (f:Nat->Nat->Nat->RR):RR:= @List.rec Z (λ_=>RR) .bad (λa r _=> @List.rec Z (λ_=>RR) .bad (λb r _=> @List.rec Z (λ_=>RR) .bad (λc r _=> @List.rec Z (λ_=>RR)
 (zNat a λa=>zNat b λb=>zNat c λc=> @Bool.rec (λ_=>RR) .bad (f a b c) (Nat.ble c 1)) (λ_ _ _=>.bad) r) r) r) args
noncomputable def two (a b:Nat):RR:=.ok (.cons (.i .u64 (.ofNat a)) (.cons (.i .u64 (.ofNat b)) .nil)) [] []
noncomputable def kAdd64 (args:List Z):RR:=a3 args λa b c=>frc (Nat.add (Nat.add a b) c) λs=>frc (Nat.mod s 18446744073709551616) λlo=>frc (Nat.div s 18446744073709551616) λhi=>two lo hi
noncomputable def kSub64 (args:List Z):RR:=a3 args λa b c=>frc (Nat.mod (Nat.sub (Nat.sub (Nat.add a 18446744073709551616) b) c) 18446744073709551616) λlo=> @Bool.rec (λ_=>RR) (two lo 1) (two lo 0) (Nat.ble (Nat.add b c) a)
noncomputable def idxK (c:Nat) (l:List UInt8):Nat->RR:= @List.rec UInt8 (λ_=>Nat->RR) (λ_=>.ok (.cons (.i .i64 (.negSucc 0)) .nil) [] []) (λx _ ih i=> @Bool.rec (λ_=>RR) (ih (Nat.succ i)) (frc i λi=>.ok (.cons (.i .i64 (.ofNat i)) .nil) [] []) (Nat.beq (u8n x) c)) l
noncomputable def kU8 (k:IntKind) (x:RR):RR:= @Bool.rec (λ_=>RR) .bad x (Nat.beq (kc k) (kc .u8))
noncomputable def kIbs (args:List Z):RR:= @List.rec Z (λ_=>RR) .bad (λa r _=> @List.rec Z (λ_=>RR) .bad (λb r _=> @List.rec Z (λ_=>RR)
 (zStr a λs=>zInt b λk c=>kU8 k (iNN c λc=> @Bool.rec (λ_=>RR) .bad (idxK c s.data.toList 0) (Nat.ble (Nat.succ c) 256))) (λ_ _ _=>.bad) r) r) args
noncomputable def kSame (args:List Z):RR:= @List.rec Z (λ_=>RR) .bad (λa r _=> @List.rec Z (λ_=>RR) (.ok (.cons a .nil) [] []) (λ_ _ _=>.bad) r) args

theorem a3_inv {args:List Z} {f:Nat->Nat->Nat->RR} {r:RR} (h:a3 args f=r) (hb:r≠.bad):∃ k1 a k2 b k3 c,args=[.i k1 (.ofNat a),.i k2 (.ofNat b),.i k3 (.ofNat c)]/\c<=1/\f a b c=r:=by
 match args,h with
 | [],h=>exact absurd h.symm hb
 | [_],h=>exact absurd h.symm hb
 | [_,_],h=>exact absurd h.symm hb
 | [x,y,z],h=>
  obtain ⟨k1,a,e1,g1⟩:=zNat_inv (show zNat x _=r from h) hb;obtain ⟨k2,b,e2,g2⟩:=zNat_inv g1 hb;obtain ⟨k3,c,e3,g3⟩:=zNat_inv g2 hb;obtain ⟨h1,g4⟩:=bad_inv g3 hb;exact ⟨k1,a,k2,b,k3,c,by rw [e1,e2,e3]; rfl,ble_inv h1,g4⟩
 | _::_::_::_::_,h=>exact absurd h.symm hb

theorem vals3 {μ:Gh} {N:Nat} {x y z:Z} {vals:Array Value} (hl:vals.size=3) (hr:∀ j (hj:j<[x,y,z].length),RelZ μ N ([x,y,z][j]) (vals.getD j undef)):∃ a b c,vals=#[a,b,c]/\RelZ μ N x a/\RelZ μ N y b/\RelZ μ N z c:=by
 obtain ⟨l⟩:=vals
 match l,hl with
 | [a,b,c],_=>exact ⟨a,b,c,rfl,hr 0 (by simp),hr 1 (by simp),hr 2 (by simp)⟩

theorem two_rel (μ:Gh) (N:Nat) (a b:Nat):∀ j (hj:j<[Z.i .u64 (.ofNat a),Z.i .u64 (.ofNat b)].length),RelZ μ N ([Z.i .u64 (.ofNat a),Z.i .u64 (.ofNat b)][j]) ([Value.int .u64 (.ofNat a),Value.int .u64 (.ofNat b)].getD j undef)
 | 0,_=>.i _ _
 | 1,_=>.i _ _

section
variable {P:Program} {f:FuncId} {h:Nat->Option ZO} {nx:Nat} {args zs:List Z} {ups:List (Nat × Option ZO)} {news:List ZO}

theorem kAdd64_ok (hf:ExtF P f addEntry) (hk:kAdd64 args= .ok zs ups news):AnsOK P f h nx args zs ups news:=by
 have hb:RR.ok zs ups news≠.bad:=by simp
 obtain ⟨k1,a,k2,b,k3,c,rfl,hc,hk⟩:=a3_inv hk hb;rw [frc_eq,frc_eq,frc_eq] at hk;simp only [two,RR.ok.injEq] at hk;obtain ⟨rfl,rfl,rfl⟩:=hk;refine ext_ans hf λμ vals hl hr=>?_;obtain ⟨x,y,z,rfl,h1,h2,h3⟩:=vals3 hl hr;cases h1; cases h2; cases h3;refine ⟨[.int .u64 (.ofNat _),.int .u64 (.ofNat _)],λw=>?_,rfl,two_rel μ nx _ _⟩;have:c=0\/c=1:=by omega
 rcases this with rfl | rfl<;>rfl
theorem kSub64_ok (hf:ExtF P f subEntry) (hk:kSub64 args= .ok zs ups news):AnsOK P f h nx args zs ups news:=by
 have hb:RR.ok zs ups news≠.bad:=by simp
 obtain ⟨k1,a,k2,b,k3,c,rfl,hc,hk⟩:=a3_inv hk hb;rw [frc_eq] at hk;have hk:two ((a+18446744073709551616-b-c)%18446744073709551616) (if a<b+c then 1 else 0)= .ok zs ups news:=by
  rw [<- hk];cases e:Nat.ble (Nat.add b c) a with
  | true=>
   have:b+c<=a:=ble_inv e;rw [if_neg (by omega)]; rfl
  | false=>
   have:a<b+c:=of_ble_false e;rw [if_pos this]; rfl
 simp only [two,RR.ok.injEq] at hk;obtain ⟨rfl,rfl,rfl⟩:=hk;refine ext_ans hf λμ vals hl hr=>?_;obtain ⟨x,y,z,rfl,h1,h2,h3⟩:=vals3 hl hr;cases h1; cases h2; cases h3;refine ⟨[.int .u64 (.ofNat _),.int .u64 (.ofNat _)],λw=>?_,rfl,two_rel μ nx _ _⟩;have:c=0\/c=1:=by omega
 rcases this with rfl | rfl<;>rfl
theorem kSame_ok (hf:ExtF P f Extern.AbiNoEscape.same) (hk:kSame args= .ok zs ups news):AnsOK P f h nx args zs ups news:=by
 match args,hk with
 | [a],hk=>
  simp only [kSame,RR.ok.injEq] at hk;obtain ⟨rfl,rfl,rfl⟩:=hk;refine ext_ans hf λμ vals hl hr=>?_;obtain ⟨l⟩:=vals
  match l,hl with
  | [v],_=>
   refine ⟨[v],λw=>rfl,rfl,λj hj=>?_⟩;have:j=0:=by simpa using hj
   subst this;exact hr 0 (by simp)
 | [],hk=>cases hk
 | _::_::_,hk=>cases hk

theorem idxK_ok {c:Nat} {b:UInt8} (hb:b.toNat=c):∀ (l:List UInt8) (i:Nat),idxK c l i= .ok [.i .i64 (if Lib.indexByte l b= -1 then -1 else (i:Int)+Lib.indexByte l b)] [] []
 | [],i=>rfl
 | x::l,i=>by
  show @Bool.rec (λ_=>RR) (idxK c l (Nat.succ i)) (frc i λi=>.ok [.i .i64 (.ofNat i)] [] []) (Nat.beq (u8n x) c)=_;rw [frc_eq,idxK_ok hb l (Nat.succ i)];have hge:=Lib.indexByte_ge l b;cases e:Nat.beq (u8n x) c with
  | true=>
   have e:=beq_inv e;have hx:x=b:=UInt8.toNat_inj.1 (by rw [hb]; exact e);subst hx;simp [Lib.indexByte]
  | false=>
   have e:=bne_inv e;have hx:(x == b)=false:=by
    rw [beq_eq_false_iff_ne];intro hx; subst hx; exact e hb
   simp only [Lib.indexByte,hx,Bool.false_eq_true,if_false,beq_iff_eq];by_cases h1:Lib.indexByte l b= -1
   . simp [h1]
   . rw [if_neg h1,if_neg h1,if_neg (by omega)];congr 3;push_cast;omega
theorem kIbs_ok (hf:ExtF P f Extern.BytealgIndexByte.indexByte) (hk:kIbs args= .ok zs ups news):AnsOK P f h nx args zs ups news:=by
 have hb:RR.ok zs ups news≠.bad:=by simp
 match args,hk with
 | [],hk=>cases hk
 | [_],hk=>cases hk
 | _::_::_::_,hk=>cases hk
 | [x,y],hk=>
  obtain ⟨s,e1,g1⟩:=zStr_inv (show zStr x _=RR.ok zs ups news from hk) hb;obtain ⟨k,z,e0,g1⟩:=zInt_inv (show zInt y _=RR.ok zs ups news from g1) hb;obtain ⟨hk8,g2⟩:=bad_inv (show kU8 k (iNN z λc=> @Bool.rec (λ_=>RR) .bad (idxK c s.data.toList 0) (Nat.ble (Nat.succ c) 256))=RR.ok zs ups news from g1) hb;have hk8:k= .u8:=by have:=beq_inv hk8; cases k<;>first | rfl | cases this
  subst hk8;cases z with
  | negSucc z=>cases g2
  | ofNat c=>
   obtain ⟨h8,g3⟩:=bad_inv (show @Bool.rec (λ_=>RR) .bad (idxK c s.data.toList 0) (Nat.ble (Nat.succ c) 256)=RR.ok zs ups news from g2) hb;have h8:c<256:=ble_inv h8;have hu:(UInt8.ofNat c).toNat=c:=by simp; omega
   rw [idxK_ok hu] at g3;simp only [RR.ok.injEq] at g3;obtain ⟨rfl,rfl,rfl⟩:=g3;subst e1; subst e0;refine ext_ans hf λμ vals hl hr=>?_;obtain ⟨l⟩:=vals
   match l,hl with
   | [v1,v2],_=>
    have h1:=hr 0 (by simp);have h2:=hr 1 (by simp);have h1:RelZ μ nx (.s s) v1:=h1;have h2:RelZ μ nx (.i .u8 (.ofNat c)) v2:=h2;cases h1; cases h2;refine ⟨[.int .i64 (if Lib.indexByte s.data.toList (UInt8.ofNat c)= -1 then -1 else ((0:Nat):Int)+Lib.indexByte s.data.toList (UInt8.ofNat c))],λw=>?_,rfl,λj hj=>?_⟩
    . rw [Lib.run_indexByteString];have hc:(Int.ofNat c).toNat.toUInt8=UInt8.ofNat c:=rfl;rw [hc];have:(if Lib.indexByte s.data.toList (UInt8.ofNat c)= -1 then -1 else ((0:Nat):Int)+Lib.indexByte s.data.toList (UInt8.ofNat c))=Lib.indexByte s.data.toList (UInt8.ofNat c):=by
       split<;>simp_all
      rw [this]; rfl
    . have:j=0:=by simpa using hj
      subst this;exact .i _ _
end

/-- The contracts of functions without a body. -/
noncomputable def conX (a s i e:Nat):(YT->Fn3)->YT->Fn3:=λg y id m args=> @Bool.rec (λ_=>RR) (@Bool.rec (λ_=>RR) (@Bool.rec (λ_=>RR) (@Bool.rec (λ_=>RR) (g y id m args) (onlyOk (kSame args)) (Nat.beq id e)) (onlyOk (kIbs args)) (Nat.beq id i)) (onlyOk (kSub64 args)) (Nat.beq id s)) (onlyOk (kAdd64 args)) (Nat.beq id a)

theorem conX_ok {P:Program} {a s i e:Nat} (ha:ExtF P a addEntry) (hs:ExtF P s subEntry) (hi:ExtF P i Extern.BytealgIndexByte.indexByte) (he:ExtF P e Extern.AbiNoEscape.same):ConOK P (conX a s i e):=by
 intro g hg y hy id m args h1 h2;have only:∀ {x:RR},(∀ zs ups news,x= .ok zs ups news->AnsOK P id (mabs m) m.nx args zs ups news)->(∀ zs ups news,onlyOk x= .ok zs ups news->AnsOK P id (mabs m) m.nx args zs ups news)/\
  ∀ v dt,onlyOk x= .pan v dt->∃ val,zcv v=some val/\SpecP P id (mabs m) m.nx args val (dropF (mabs m) dt):=λ{x} hx=>by
  refine ⟨λzs ups news h=>hx _ _ _ (onlyOk_inv h (by simp)).1,λv dt h=>?_⟩;obtain ⟨_,_,_,_,e⟩:=onlyOk_inv h (by simp);cases e
 unfold conX;cases e1:Nat.beq id a with
 | true=>obtain rfl:=beq_inv e1; exact only λzs ups news h=>kAdd64_ok ha h
 | false=>
 cases e2:Nat.beq id s with
 | true=>obtain rfl:=beq_inv e2; exact only λzs ups news h=>kSub64_ok hs h
 | false=>
 cases e3:Nat.beq id i with
 | true=>obtain rfl:=beq_inv e3; exact only λzs ups news h=>kIbs_ok hi h
 | false=>
 cases e4:Nat.beq id e with
 | true=>obtain rfl:=beq_inv e4; exact only λzs ups news h=>kSame_ok he h
 | false=>exact hg y hy id m args h1 h2
end Go.Zw
