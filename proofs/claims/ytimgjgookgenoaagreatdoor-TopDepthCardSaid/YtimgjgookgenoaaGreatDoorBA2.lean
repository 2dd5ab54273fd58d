/- A base: states, operations, code, calls; what the kernel reckons holds. It names no program. Part 3. -/
import Derived.Test.YtimgjgookgenoaaGreatDoorBA1
set_option linter.unusedVariables false
set_option linter.unusedSimpArgs false
set_option linter.unusedSectionVars false
namespace Go.Zw
open Go.RowKit (Below)
open Go.Vw (Nul Shape width V SX SO SOp SC SRes szOf slimX slimXs slimO slimOp slimOp0 slimRes zeroV zeroOf ancOk ordOk isNilC)

/-- An operation. -/
inductive XO where
 | o (x:SO)
 | n (x:XN)
 | pan (x:SX)
 | bad

structure XOp where
 dst:Option Nat
 op:XO
 guard:Option (Nat × Bool)

inductive XC where
 | skip
 | seq (a b:XC)
 | reg (ops:List XOp)
 | dfr (ops:List XOp) (x:SX)
 | rf (g:SX) (lc:LC) (a b:XC)
 | regD (anc:List Nat) (ops:List XOp)
 | cond (c:SX) (a b:XC)
 | block (id:Nat) (b:XC)
 | loop (b:XC)
 | scope (b:XC)
 | exit (id:Nat)
 | ret
 | no

def panOf (P:Program) (o:Oper):Option SX:=
 match o.op with
 | .panic x=>slimX P 0 x
 | _=>none
def xslimOp (P:Program) (o:Oper):Option XO:=
 match panOf P o with
 | some x=>some (.pan x)
 | none=>
 match xnew P o with
 | some x=>some (.n x)
 | none=>(slimOp P o).map .o

def xslim1 (P:Program) (n:Nat) (ops:Array Oper) (o:Oper):Option XOp:=
 if o.dst.all (· < n) then
  match o.guard with
  | none=>some ⟨o.dst,(xslimOp P o).getD .bad,none⟩
  | some (j,want)=>match (ops[j]?).bind (·.dst) with | some g=>some ⟨o.dst,(xslimOp P o).getD .bad,some (g,want)⟩ | none=>none
 else none

def xslimL (P:Program) (n:Nat) (ops:Array Oper):List Oper->Option (List XOp)
 | []=>some []
 | o::rest=>match xslim1 P n ops o,xslimL P n ops rest with | some a,some b=>some (a::b) | _,_=>none

def XO.opds:XO->List SX
 | .o x=>x.opds
 | .n x=>x.opds
 | .pan x=>[x]
 | .bad=>[]

def XOp.looks (o:XOp):List Nat:=o.op.opds.flatMap Go.Vw.SX.slot++(match o.guard with | some (g,_)=>[g] | none=>[])

def apartX (x y:XOp):Bool:=
 (match x.dst with | some d=> !y.looks.contains d && y.dst != some d | none=>true) && (match y.dst with | some d=> !x.looks.contains d | none=>true)

/-- Any two operations that no edges tie touch different slots. -/
def apAllX (l:List XOp) (anc:List Nat):Bool:=
 l.zipIdx.all λ(x,i)=>l.zipIdx.all λ(y,j)=>i == j || (anc.getD j 0).testBit i || (anc.getD i 0).testBit j || apartX x y

/-- The function whose call is deferred. -/
def dfrX (P:Program) (o:Oper):Option SX:=
 match o.op with
 | .defer c=>match c.callee with | .value x=>if c.args.size == 0 && o.guard.isNone && o.dst.isNone then slimX P 0 x else none | _=>none
 | _=>none
def dfrOf (P:Program) (l:List Oper):Option SX:=(l.getLast?).bind (dfrX P)

def xslimCode (P:Program) (n:Nat):Code->Option XC
 | .skip=>some .skip
 | .seq a b=>match xslimCode P n a,xslimCode P n b with | some x,some y=>some (.seq x y) | _,_=>none
 | .region _ ops draw=>
  match draw,dfrOf P ops.toList with
  | false,some x=>(xslimL P n ops ops.toList.dropLast).map λl=>.dfr l x
  | true,some _=>none
  | _,none=>
  match xslimL P n ops ops.toList with
  | some l=>
   if draw then
    if ancOk ops.toList (Region.before ops).toList && ordOk ops.toList && apAllX l (Region.before ops).toList && P.follows .mixedOrders then some (.regD (Region.before ops).toList l) else none
   else some (.reg l)
  | none=>none
 | .cond c a b=>match slimX P 0 c,xslimCode P n a,xslimCode P n b with | some c,some x,some y=>some (.cond c x y) | _,_,_=>none
 | .block id b=>(xslimCode P n b).map (.block id)
 | .loop b=>(xslimCode P n b).map .loop
 | .exit id=>some (.exit id)
 | .ret=>some .ret
 | .label _=>some .skip
 | .scope b=>(xslimCode P n b).map .scope
 | .refuse _=>some .no
 | .rangeFunc g ps a b=>match slimX P 0 g,xslimCode P n a,xslimCode P n b with | some g,some x,some y=>if ps.toList.all (· < n) then some (.rf g ⟨ps,a,b⟩ x y) else none | _,_,_=>none
 | _=>none

/-- One operation: what must hold behind it. -/
def XCore (P:Program) (dst:Option Nat) (op:XO) (K:ZS->Prop) (S:ZS):Prop:=
 match op with
 | .o so=>ZCore P dst so K S
 | .n x=>∃ l,xalt S.ev S.h S.nx x=some l/\∀ r∈l,K ((S.app r.2).put dst r.1)
 | .pan _=>False
 | .bad=>False

def XOpZ (P:Program) (o:XOp) (K:ZS->Prop) (S:ZS):Prop:=
 match o.guard with
 | none=>XCore P o.dst o.op K S
 | some (g,want)=>
  match S.σ g with
  | .b c=>(c=want->XCore P o.dst o.op K S)/\(c= !want->K (S.put o.dst (.tup [])))
  | .i _ _=>K (S.put o.dst (.tup []))
  | .tup _=>K (S.put o.dst (.tup []))
  | _=>False

-- panics
/-- The value that reads as z, where z names nothing. -/
def zcv0:Z->Option Value
 | .b x=>some (.bool x)
 | .i k n=>some (.int k n)
 | .s x=>some (.string x)
 | _=>none
def zcvs:List Z->Option (List Value)
 | []=>some []
 | z::zs=>match zcv0 z,zcvs zs with | some v,some vs=>some (v::vs) | _,_=>none
def zcv1:Z->Option Value
 | .agg cs=>(zcvs cs).map λvs=>.agg vs.toArray
 | z=>zcv0 z
def zcv:Z->Option Value
 | .ifc T x=>(zcv1 x).map λv=>.iface T v
 | _=>none
theorem zcv0_rel {μ:Gh} {N:Nat} {z:Z} {v val:Value} (h:zcv0 z=some v) (hr:RelZ μ N z val):val=v:=by
 cases hr<;>simp_all [zcv0]
theorem zcvs_rel {μ:Gh} {N:Nat}:∀ {cs:List Z} {vs f:List Value},zcvs cs=some vs->RelCs μ N cs f->f=vs
 | [],vs,f,h,hr=>by
  simp only [zcvs,Option.some.injEq] at h; subst h;exact List.length_eq_zero_iff.1 hr.1
 | z::zs,vs,f,h,hr=>by
  simp only [zcvs] at h;split at h
  . rename_i v vs' h1 h2;simp only [Option.some.injEq] at h; subst h;cases f with
    | nil=>have:=hr.1; simp at this
    | cons x f=>
     have h0:=(hr.2 0 (by simp)).1;have ht:RelCs μ N zs f:=by have:=hr.drop 1; simpa using this
     have e1:x=v:=zcv0_rel h1 (by simpa using h0);rw [zcvs_rel h2 ht,e1]
  . cases h
theorem zcv1_rel {μ:Gh} {N:Nat} {z:Z} {v val:Value} (h:zcv1 z=some v) (hr:RelZ μ N z val):val=v:=by
 cases z with
 | agg cs=>
  obtain ⟨vals,rfl,hc⟩:=hr.agg_inv;simp only [zcv1,Option.map_eq_some_iff] at h;obtain ⟨vs,h1,rfl⟩:=h;rw [<- zcvs_rel h1 hc]
 | _=>simp only [zcv1] at h; exact zcv0_rel h hr
theorem zcv_rel {μ:Gh} {N:Nat} {z:Z} {v val:Value} (h:zcv z=some v) (hr:RelZ μ N z val):val=v:=by
 cases z with
 | ifc T x=>
  simp only [zcv,Option.map_eq_some_iff] at h;obtain ⟨u,h1,rfl⟩:=h;cases hr with
  | ifc _ _ val hrel=>rw [zcv1_rel h1 hrel]
 | _=>cases h
theorem zcv0_mk {z:Z} {v:Value} (h:zcv0 z=some v) (μ:Gh) (N:Nat):RelZ μ N z v/\v.oneCell'=true:=by
 cases z<;>simp only [zcv0,Option.some.injEq,reduceCtorEq] at h;all_goals subst h
 . exact ⟨.b _,rfl⟩
 . exact ⟨.i _ _,rfl⟩
 . exact ⟨.s _,rfl⟩
theorem zcvs_mk (μ:Gh) (N:Nat):∀ {cs:List Z} {vs:List Value},zcvs cs=some vs->RelCs μ N cs vs
 | [],vs,h=>by simp only [zcvs,Option.some.injEq] at h; subst h; exact RelCs.nil
 | z::zs,vs,h=>by
  simp only [zcvs] at h;split at h
  . rename_i v vs' h1 h2;simp only [Option.some.injEq] at h; subst h;have h3:RelCs μ N [z] [v]:=⟨rfl,λj hj=>by
     have:j=0:=by simpa using hj
     subst this; exact zcv0_mk h1 μ N⟩
    exact h3.append (zcvs_mk μ N h2)
  . cases h
theorem zcv_mk {z:Z} {v:Value} (h:zcv z=some v) (μ:Gh) (N:Nat):RelZ μ N z v:=by
 cases z with
 | ifc T x=>
  simp only [zcv,Option.map_eq_some_iff] at h;obtain ⟨u,h1,rfl⟩:=h;refine .ifc T x u ?_;cases x with
  | agg cs=>
   simp only [zcv1,Option.map_eq_some_iff] at h1;obtain ⟨vs,h2,rfl⟩:=h1;exact (zcvs_mk μ N h2).agg
  | _=>simp only [zcv1] at h1; exact (zcv0_mk h1 μ N).1
 | _=>cases h

/-- The contract of a call that ends in a panic: its value; what is still known of the heap. -/
def SpecP (P:Program) (f:FuncId) (h:Nat->Option ZO) (nx:Nat) (args:List Z) (v:Value) (G:Nat->Option ZO):Prop:=
 ∀ (w0:Bs) (w:World) (μ:Gh) (vals:Array Value),HeapOK w w0 μ nx h->Keep w0 w->vals.size=args.length->(∀ j (hj:j<args.length),RelZ μ nx (args[j]) (vals.getD j undef))->
  (callFunc f vals).run P w= .ok (.enter f vals) w/\Calls P f vals w λe w'=>e= .panicked [{ v,recovered:=false }]/\HeapOK w' w0 μ nx G/\Keep w0 w'

/-- The operation ends in a panic. -/
def XPan (P:Program) (o:XOp) (E:Value->ZS->Prop) (S:ZS):Prop:=
 o.guard=none/\
 match o.op with
 | .pan x=>∃ v,zcv (S.ev x)=some v/\E v S
 | .o (.call f as)=>∃ id fst caps v G,S.ev f= .clo id fst caps/\SpecP P id S.h S.nx (fst++as.map S.ev++caps) v G/\E v ⟨S.σ,G,S.nx⟩
 | _=>False

def RunX (P:Program) (Q:ZS->Prop) (E:Value->ZS->Prop):List XOp->ZS->Prop
 | [],S=>Q S
 | o::rest,S=>XOpZ P o (RunX P Q E rest) S\/XPan P o E S

-- what is deferred
/-- Nothing; no more than the marks of loops; one call of a function. -/
inductive DZ where
 | clean
 | marks
 | clo (z:Z)

def markOf (b:Nat):Deferred:={ target:=.collected b,args:=#[] }
def DefOK (w0 w1:Bs):DZ->Prop
 | .clean=>w1.ds=[]
 | .marks=>∃ bs:List Nat,bs.Nodup/\w1.ds=bs.map markOf/\∀ b∈bs,w1.pr b/\¬ w0.pr b/\w1.w.heap[b]? =some (.deferred (some []))
 | .clo z=>∃ f caps vc,z= .clo f [] caps/\w1.ds=[{ target:=.fn (.func f) vc,args:=#[] }]/\vc.size=caps.length/\∀ j (hj:j<caps.length),RelZ w1.μ w1.N (caps[j]) (vc.getD j undef)

/-- A later beginning: more is protected, more is deferred. -/
structure Ext (w0 w1:Bs) (dz:DZ):Prop where
 pr:∀ b,w0.pr b->w1.pr b
 keep:Keep w0 w1.w
 base:w0.N<=w1.N/\∀ r,r<w0.N->w1.μ r=w0.μ r
 ds:DefOK w0 w1 dz

/-- The frame and the world are as the state says, all that is deferred besides. -/
def RelE (w0:Bs) (n:Nat) (dz:DZ) (S:ZS) (a:Act) (w:World):Prop:=∃ w1,Ext w0 w1 dz/\RelSt w1 n S a w

theorem Ext.refl (w0:Bs) (hds:w0.ds=[]) (hk:Keep w0 w0.w):Ext w0 w0 .clean:=⟨λ_ h=>h,hk,⟨Nat.le_refl _,λ_ _=>rfl⟩,hds⟩
theorem Keep.trans {w0 w1:Bs} {w:World} (hp:∀ b,w0.pr b->w1.pr b) (h:Keep w0 w1.w) (k:Keep w1 w):Keep w0 w:=
 ⟨k.os.trans h.os,k.tape.trans h.tape,k.output.trans h.output,Nat.le_trans h.size k.size,λb hb=>(k.block b (hp b hb)).trans (h.block b hb),h.lay⟩
theorem Ext.out {w0 w1:Bs} {dz:DZ} (E:Ext w0 w1 dz) {w:World} {μ:Gh} {N:Nat} {h:Nat->Option ZO} (H:HeapOK w w1 μ N h) (k:Keep w1 w):HeapOK w w0 μ N h/\Keep w0 w:=
 ⟨⟨λr o ho=>⟨(H.obj r o ho).1,λhp=>(H.obj r o ho).2.1 (E.pr _ hp),(H.obj r o ho).2.2⟩,H.inj,Nat.le_trans E.base.1 H.base.1,λr hr=>(H.base.2 r (Nat.lt_of_lt_of_le hr E.base.1)).trans (E.base.2 r hr)⟩,Keep.trans E.pr E.keep k⟩

theorem noDef_of_xnew {P:Program} {o:Oper} {x:XN} (h:xnew P o=some x):∀ c,o.op≠.defer c:=by
 intro c hc;unfold xnew at h;rw [hc] at h;simp at h

theorem xslim_seq {P:Program} {n:Nat} {c:Code} {x y:XC} (hc:xslimCode P n c=some (.seq x y)):∃ a b,c= .seq a b/\xslimCode P n a=some x/\xslimCode P n b=some y:=by
 cases c<;>simp only [xslimCode,reduceCtorEq,Option.map_eq_some_iff,and_false,exists_false,Option.some.injEq] at hc<;>(try (revert hc; (repeat' split)<;>simp; done));split at hc
 . rename_i a b x' y' hx hy;simp only [Option.some.injEq,XC.seq.injEq] at hc;obtain ⟨rfl,rfl⟩:=hc;exact ⟨_,_,rfl,hx,hy⟩
 . cases hc

section
variable {P:Program} {n:Nat} {ro:Option Nat} {m:Nat}

/-- One operation, as the model's own calculus has it. -/
theorem xop_wp {w0:Bs} {o:Oper} {S:ZS} {so:XO} (hs:xslimOp P o=some so) (hd:∀ t,o.dst=some t->t<n) {K:ZS->Prop} (h:XCore P o.dst so K S) {a:Act} {w:World} (hR:RelSt w0 n S a w)
 {K':Act->World->Prop} {Q:Exit->Act->World->Prop} (hk:∀ S' a' w',K S'->RelSt w0 n S' a' w'->K' a' w'):o.wpIn (Fx ro) m P a w K' Q:=by
 unfold xslimOp at hs;split at hs
 . simp only [Option.some.injEq] at hs; subst hs; exact h.elim
 . split at hs
   . rename_i x hx;simp only [Option.some.injEq] at hs; subst hs;obtain ⟨l,hl,hk'⟩:=h;obtain ⟨r,hr,nx,w',h1,h2⟩:=xnew_sound hx hd hl a w hR;refine oper_in (noDef_of_xnew hx) ?_;unfold Oper.wp;rw [h1];rcases h2 with ⟨u,rfl,h3⟩ | ⟨rfl,h3⟩
     . exact hk _ _ _ (hk' r hr) h3
     . exact hk _ _ _ (hk' r hr) h3
   . simp only [Option.map_eq_some_iff] at hs;obtain ⟨so',h1,rfl⟩:=hs;exact zop_wp h1 hd h hR hk

/-- One that ends in a panic. -/
theorem xpan_wp {w0:Bs} {o:Oper} {S:ZS} {so:XOp} (hs:xslim1 P n #[] o=some so\/xslimOp P o=some so.op) (hso:xslimOp P o=some so.op) {E:Value->ZS->Prop} (h:XPan P so E S) {a:Act} {w:World} (hR:RelSt w0 n S a w)
 {K':Act->World->Prop} {Q:Exit->Act->World->Prop} (hk:∀ v S' w',E v S'->RelSt w0 n S' a w'->Q (.panic [{ v,recovered:=false }]) a w'):o.wpIn (Fx ro) m P a w K' Q:=by
 obtain ⟨_,h⟩:=h;obtain ⟨d,op,g⟩:=so;simp only at hso h;obtain ⟨μ,H,rel⟩:=hR.ex;cases op with
 | pan x=>
  obtain ⟨v,hv,he⟩:=h;unfold xslimOp at hso;split at hso
  . rename_i y hy;simp only [Option.some.injEq,XO.pan.injEq] at hso; subst hso;unfold panOf at hy;split at hy
    . rename_i px hop;have hval:=zcv_rel hv (ev_rel hy rel);refine oper_in (λc hc=>by rw [hop] at hc; cases hc) ?_;unfold Oper.wp;have hif:∃ T u,v= .iface T u:=by
       cases hz:S.ev y with
       | ifc T z=>
        rw [hz] at hv;simp only [zcv,Option.map_eq_some_iff] at hv;obtain ⟨u,_,rfl⟩:=hv;exact ⟨_,_,rfl⟩
       | _=>rw [hz] at hv; cases hv
      obtain ⟨T,u,rfl⟩:=hif;have hrun:(execOp a.eval o).run P w= .halt (.panic (.iface T u)) w:=by
       simp [execOp,hop,hval,Instr.panic,goPanic,Sem.run_bind,Sem.run,Result.andThen]
      rw [hrun];exact hk _ _ _ he hR
    . cases hy
  . split at hso
    . cases hso
    . simp at hso
 | o so=>
  cases so with
  | call f as=>
   obtain ⟨id,fst,caps,v,G,hev,hS,he⟩:=h;have hsl:slimOp P o=some (.call f as):=by
    unfold xslimOp at hso;split at hso
    . cases hso
    . split at hso
      . cases hso
      . simp only [Option.map_eq_some_iff,XO.o.injEq,exists_eq_right] at hso;exact hso
   have ⟨c,ho,hc⟩:∃ c,o.op= .call c/\Go.Vw.slimCall P o c=some (.call f as):=by
    have hs:slimOp0 P o=some (.call f as):=by
     rcases Go.Vw.slimOp_or hsl with h | ⟨k,_,h⟩
     . exact h
     . have:=Go.Vw.slimArr_arr h; simp [Go.Vw.SO.isArr] at this
    unfold slimOp0 Go.Vw.slimMv at hs;split at hs
    case h_22=>rename_i c ho; exact ⟨c,ho,hs⟩
    all_goals (exfalso; revert hs; (repeat' split)<;>simp)
   have ⟨fx,hcal,hf,hargs⟩:∃ fx,c.callee= .value fx/\slimX P 0 fx=some f/\slimXs P c.args.toList c.argTypes.toList=some as:=by
    unfold Go.Vw.slimCall at hc;split at hc
    . rename_i fx hcal;split at hc
      . rename_i f' args' h1 h2;simp only [Option.some.injEq,SO.call.injEq] at hc;obtain ⟨rfl,rfl⟩:=hc;exact ⟨fx,hcal,h1,h2⟩
      . cases hc
    all_goals (exfalso; revert hc; (repeat' split)<;>simp)
   have hfv:=ev_rel hf rel;rw [hev] at hfv;have ⟨cf,cv,hcv,hfl,hcl,hfr,hcr⟩:∃ cf cv:Array Value,a.eval fx= .func (.func id) cf cv/\cf.size=fst.length/\cv.size=caps.length/\
    (∀ j (h:j<fst.length),RelZ μ S.nx (fst[j]) (cf.getD j undef))/\∀ j (h:j<caps.length),RelZ μ S.nx (caps[j]) (cv.getD j undef):=by
    generalize a.eval fx=fv at hfv;cases hfv with
    | clo _ _ _ vf vc h1 h2 h3 h4=>exact ⟨vf,vc,rfl,h1,h2,h3,h4⟩
   have hrun:(execOp a.eval o).run P w=(callFunc id (cf++c.args.map a.eval++cv)).run P w:=by
    simp only [execOp,ho,resolve,hcal,hcv,Deferred.ofValue,Sem.run_bind,Sem.run_pure,Result.andThen_ok,invoke]
   obtain ⟨hal',hargr⟩:=evs_rel hargs rel;have hal:as.length=c.args.size:=by simpa using hal'
   obtain ⟨hc1,hc2⟩:=hS w0 w μ (cf++c.args.map a.eval++cv) H hR.below (by simp [hal,hcl,hfl]) (λj hj=>by
    simp only [List.length_append,List.length_map] at hj;by_cases h1:j<fst.length
    . have:=hfr j h1;rw [List.getElem_append_left (by simp; omega),List.getElem_append_left h1];have hja:j<cf.size:=by omega
      simpa [Array.getD_eq_getD_getElem?,Array.getElem?_append,hja,Nat.lt_of_lt_of_le hja (Nat.le_add_right _ _)] using this
    . by_cases h2:j<fst.length+as.length
      . have:=hargr (j-fst.length) (by omega);rw [List.getElem_append_left (by simp; omega),List.getElem_append_right (by omega),List.getElem_map];have hja:¬ j<cf.size:=by omega
        have hjb:j<cf.size+c.args.size:=by omega
        have hjc:j-fst.length<c.args.size:=by omega
        simpa [Array.getD_eq_getD_getElem?,List.getD,Array.getElem?_append,hja,hjb,hfl,hjc,h1] using this
      . have:=hcr (j-(fst.length+as.length)) (by omega);rw [List.getElem_append_right (by simp; omega)];have hja:¬ j-fst.length<c.args.size:=by omega
        have hjb:j-fst.length-c.args.size=j-(fst.length+c.args.size):=by omega
        simpa [Array.getD_eq_getD_getElem?,Array.getElem?_append,hja,hjb,hfl,hal,h1] using this)
   refine oper_in (λd hd=>by rw [ho] at hd; cases hd) ?_;unfold Oper.wp;rw [hrun,hc1];simp only [Oper.upon];refine hc2.mono ?_;rintro e w' ⟨rfl,H',hb⟩;exact hk _ _ _ he ⟨⟨μ,H',rel⟩,hb,hR.size,hR.defers⟩
  | _=>exact h.elim
 | n x=>exact h.elim
 | bad=>exact h.elim

/-- One operation of a region. -/
theorem xop_region {w0:Bs} {S:ZS} {ops:Array Oper} {o:Oper} {so:XOp} {i:Nat} (hi:ops[i]? =some o) (hs:xslim1 P n ops o=some so) {K:ZS->Prop} (h:XOpZ P so K S)
 {a:Act} {w:World} (hR:RelSt w0 n S a w) {K':Act->World->Prop} {Q:Exit->Act->World->Prop} (hk:∀ S' a' w',K S'->RelSt w0 n S' a' w'->K' a' w'):wpOpIn (Fx ro) m P ops Q i K' a w:=by
 unfold xslim1 at hs;split at hs
 . rename_i hdst;have hd:∀ t,o.dst=some t->t<n:=λt ht=>by rw [ht] at hdst; simpa using hdst
   have hskip:∀ w,RelSt w0 n S a w->RelSt w0 n (S.put o.dst (.tup [])) (a.put o.dst undef) w:=λw hR=>by
    obtain ⟨μ,H,rel⟩:=hR.ex;exact RelSt.put' rel hR.size hR.defers (Nat.le_refl _) (λ_ _=>rfl) H hR.below hd (.tup _ _ rfl (by simp))
   have hab:∀ f,o.about P w a.eval=some f->(Fx ro).fn f:=λf _=>fx_fn ro f;have hcore:∀ {a:Act} {w:World},RelSt w0 n S a w->XCore P o.dst ((xslimOp P o).getD .bad) K S->o.wpIn (Fx ro) m P a w K' Q:=λhR h=>by
    cases hop:xslimOp P o with
    | none=>rw [hop] at h; exact h.elim
    | some sop=>rw [hop] at h; exact xop_wp hop hd h hR hk
   unfold wpOpIn;simp only [hi];split at hs
   . rename_i hg;simp only [Option.some.injEq] at hs; subst hs;simp only [XOpZ] at h;rw [if_pos (by simp [Region.wanted,hg])];exact hcore hR h
   . rename_i j want hg;split at hs
     . rename_i g hgj;simp only [Option.some.injEq] at hs; subst hs;simp only [XOpZ] at h;obtain ⟨μ,H,rel⟩:=hR.ex;have hrg:=rel g;have hy:yielded ops a.tmps j=(match a.tmps.getD g undef with | .bool b=>some b | _=>none):=by
        simp only [yielded,hgj,Option.bind_some];by_cases hlt:g<a.tmps.size
        . simp [hlt,Array.getD];split<;>simp_all
        . simp [hlt,Array.getD,undef]
       split at h
       . rename_i c hc;rw [hc] at hrg;have hv:=bool_val hrg;rw [hv] at hy;simp only at hy;by_cases hcw:c=want
         . rw [if_pos (by simp [Region.wanted,hg,hy,hcw])];exact hcore hR (h.1 hcw)
         . rw [if_neg (by simp [Region.wanted,hg,hy,hcw])];exact ⟨hab,hk _ _ _ (h.2 (by cases c<;>cases want<;>simp_all)) (hskip w hR)⟩
       . rename_i k m hc;rw [hc] at hrg;have hv:=int_val hrg;rw [hv] at hy;simp only at hy;rw [if_neg (by simp [Region.wanted,hg,hy])];exact ⟨hab,hk _ _ _ h (hskip w hR)⟩
       . rename_i vs hc;rw [hc] at hrg;obtain ⟨vals,hv⟩:∃ vals,a.tmps.getD g undef= .tuple vals:=by
          generalize a.tmps.getD g undef=v at hrg; cases hrg; exact ⟨_,rfl⟩
         rw [hv] at hy;simp only at hy;rw [if_neg (by simp [Region.wanted,hg,hy])];exact ⟨hab,hk _ _ _ h (hskip w hR)⟩
       . exact h.elim
     . cases hs
 . cases hs
theorem xpan_region {w0:Bs} {S:ZS} {ops:Array Oper} {o:Oper} {so:XOp} {i:Nat} (hi:ops[i]? =some o) (hs:xslim1 P n ops o=some so) {E:Value->ZS->Prop} (h:XPan P so E S)
 {a:Act} {w:World} (hR:RelSt w0 n S a w) {K':Act->World->Prop} {Q:Exit->Act->World->Prop} (hk:∀ v S' w',E v S'->RelSt w0 n S' a w'->Q (.panic [{ v,recovered:=false }]) a w'):wpOpIn (Fx ro) m P ops Q i K' a w:=by
 unfold xslim1 at hs;split at hs
 . split at hs
   . rename_i hg;simp only [Option.some.injEq] at hs; subst hs;unfold wpOpIn;simp only [hi];rw [if_pos (by simp [Region.wanted,hg])];cases hop:xslimOp P o with
     | none=>rw [hop] at h; exact h.2.elim
     | some sop=>
      rw [hop] at h;exact xpan_wp (so:=⟨o.dst,sop,none⟩) (.inr hop) hop h hR hk
   . split at hs
     . simp only [Option.some.injEq] at hs; subst hs;cases h.1
     . cases hs
 . cases hs

theorem xrun_region {w0:Bs} {ops:Array Oper} {K:ZS->Prop} {E:Value->ZS->Prop} {Q':Exit->Act->World->Prop} (tail:List Nat) (hK:∀ S' a' w',K S'->RelSt w0 n S' a' w'->wpOpsIn (Fx ro) m P ops Q' tail a' w')
 (hE:∀ v S' a' w',E v S'->RelSt w0 n S' a' w'->Q' (.panic [{ v,recovered:=false }]) a' w'):
 ∀ (l:List Oper) (k:Nat) (sl:List XOp) (S:ZS) (a:Act) (w:World),(∀ j,j<l.length->l[j]? =ops[k+j]?)->xslimL P n ops l=some sl->RunX P K E sl S->RelSt w0 n S a w->wpOpsIn (Fx ro) m P ops Q' (List.range' k l.length++tail) a w
 | [],k,sl,S,a,w,_,hs,h,hR=>by
  simp only [xslimL,Option.some.injEq] at hs; subst hs;exact hK _ _ _ h hR
 | o::rest,k,sl,S,a,w,hl,hs,h,hR=>by
  simp only [xslimL] at hs;split at hs
  . rename_i so r ho hr;simp only [Option.some.injEq] at hs; subst hs;simp only [List.length_cons,List.range'_succ,List.cons_append];rw [wpOpsIn_cons];have h0:ops[k]? =some o:=by simpa using (hl 0 (by simp)).symm
    simp only [RunX] at h;rcases h with h | h
    . refine xop_region h0 ho h hR λS' a' w' hS' hR'=>?_;exact xrun_region tail hK hE rest (k+1) r S' a' w' (λj hj=>by have:=hl (j+1) (by simp; omega); simpa [Nat.add_assoc,Nat.add_comm 1 j] using this) hr hS' hR'
    . exact xpan_region h0 ho h hR λv S' w' he hR'=>hE v S' a w' he hR'
  . cases hs

theorem wpIn_scope {F:Fence} {c:Code} {Q:Exit->Act->World->Prop} {a:Act} {w:World} (h:c.wpIn F m P (Exit.noGoto Q) a w):(Code.scope c).wpIn F m P Q a w:=by
 intro b k cs hro hb hr;have h0:(lone (b.atR a (.code (.scope c)::k)) cs w).fenced P F:=fenced_calm hb hr rfl;have s0:step P (lone (b.atR a (.code (.scope c)::k)) cs w)= .next (lone (b.atR a (.code c:: .inScope c::k)) cs w):=step_lone_go (by simp [stepG,stepG.exec,Frame.atR]);have s1:∀ a w,step P (lone (b.atR a (.inScope c::k)) cs w)= .next (lone (b.atR a k) cs w):=λa w=>step_lone_go (by simp [stepG,stepG.exec,Frame.atR]);obtain ⟨e,a₁,w₁,hq,harr⟩:=h b (.inScope c::k) cs hro hb hr;cases e with
 | normal=>exact ⟨.normal,a₁,w₁,hq,.head h0 s0 (StepsIn.trans harr (.one (fenced_calm hb hr rfl) (s1 a₁ w₁)))⟩
 | exit id=>
  have hx:exitTo id (.inScope c::k)=exitTo id k:=by simp [exitTo]
  exact ⟨_,a₁,w₁,hq,λk' hk=>.head h0 s0 (harr.1 k' (by rw [hx]; exact hk)),λhr' hk=>let ⟨k₁,h1,h2⟩:=harr.2 hr' (by rw [hx]; exact hk); ⟨k₁,h1,.head h0 s0 h2⟩⟩
 | goto l=>exact hq.elim
 | ret=>exact ⟨_,a₁,w₁,hq,.of_steps (.one h0 s0) harr⟩
 | panic ch=>exact ⟨_,a₁,w₁,hq,.of_steps (.one h0 s0) harr⟩
 | outgrown=>exact ⟨_,a₁,w₁,hq,.of_steps (.one h0 s0) harr⟩
end

def thenD (next:DZ->ZS->Prop) (Q:Exit->DZ->ZS->Prop):Exit->DZ->ZS->Prop
 | .normal,d,S=>next d S
 | e,d,S=>Q e d S
def blockD (id:Nat) (Q:Exit->DZ->ZS->Prop):Exit->DZ->ZS->Prop
 | .exit i,d,S=>if i=id then Q .normal d S else Q (.exit i) d S
 | e,d,S=>Q e d S
def scopeD (Q:Exit->DZ->ZS->Prop):Exit->DZ->ZS->Prop
 | .goto _,_,_=>False
 | e,d,S=>Q e d S

def WX (P:Program) (ro:Option Nat) (n:Nat) (sc:XC) (Q:Exit->DZ->ZS->Prop) (d:DZ) (S:ZS):Prop:=
 ∀ (m:Nat) c,xslimCode P n c=some sc->∀ (w0:Bs) (a:Act) (w:World),RelE w0 n d S a w->c.wpIn (Fx ro) m P (λe a' w'=>∃ d' S',Q e d' S'/\RelE w0 n d' S' a' w') a w

section
variable {P:Program} {ro:Option Nat} {n:Nat} {Q:Exit->DZ->ZS->Prop} {d:DZ} {S:ZS}

theorem WX.mono {sc:XC} {Q':Exit->DZ->ZS->Prop} (h:WX P ro n sc Q d S) (hq:∀ e d S,Q e d S->Q' e d S):WX P ro n sc Q' d S:=
 λm c hc w0 a w hR=>wpIn_mono (h m c hc w0 a w hR) λ_ _ _ ⟨d',S',q,r⟩=>⟨d',S',hq _ _ _ q,r⟩

theorem WX_skip (h:Q .normal d S):WX P ro n .skip Q d S:=by
 intro m c hc w0 a w hR;cases c<;>simp only [xslimCode,reduceCtorEq,Option.map_eq_some_iff,and_false,exists_false] at hc<;>(try (revert hc; (repeat' split)<;>simp; done))
 . exact wpIn_skip ⟨d,S,h,hR⟩
 . exact wpIn_label ⟨d,S,h,hR⟩

theorem WX_ret (h:Q .ret d S):WX P ro n .ret Q d S:=by
 intro m c hc w0 a w hR;cases c<;>simp only [xslimCode,reduceCtorEq,Option.map_eq_some_iff,and_false,exists_false] at hc<;>(try (revert hc; (repeat' split)<;>simp; done));exact wpIn_ret ⟨d,S,h,hR⟩

theorem WX_exit {id:Nat} (h:Q (.exit id) d S):WX P ro n (.exit id) Q d S:=by
 intro m c hc w0 a w hR;cases c<;>simp only [xslimCode,reduceCtorEq,Option.map_eq_some_iff,and_false,exists_false,Option.some.injEq,XC.exit.injEq] at hc<;>(try (revert hc; (repeat' split)<;>simp; done));subst hc;exact wpIn_exit ⟨d,S,h,hR⟩

theorem WX_seq {x y:XC} (h:WX P ro n x (thenD (WX P ro n y Q) Q) d S):WX P ro n (.seq x y) Q d S:=by
 intro m c hc w0 a w hR;obtain ⟨ca,cb,rfl,ha,hb⟩:=xslim_seq hc;refine wpIn_seq (wpIn_mono (h m ca ha w0 a w hR) ?_);rintro e a' w' ⟨d',S',q,r⟩;cases e with
 | normal=>exact q m cb hb w0 a' w' r
 | _=>exact ⟨d',S',q,r⟩

theorem WX_block {id:Nat} {b:XC} (h:WX P ro n b (blockD id Q) d S):WX P ro n (.block id b) Q d S:=by
 intro m c hc w0 a w hR;cases c<;>simp only [xslimCode,reduceCtorEq,Option.map_eq_some_iff,and_false,exists_false,Option.some.injEq,XC.block.injEq] at hc<;>(try (revert hc; (repeat' split)<;>simp; done));obtain ⟨b',hb,rfl,rfl⟩:=hc;refine wpIn_block (wpIn_mono (h m _ hb w0 a w hR) ?_);rintro e a' w' ⟨d',S',q,r⟩;cases e with
 | exit i=>
  simp only [blockD] at q;simp only [Exit.inBlock];split
  . rename_i he; rw [if_pos he] at q; exact ⟨d',S',q,r⟩
  . rename_i he; rw [if_neg he] at q; exact ⟨d',S',q,r⟩
 | _=>exact ⟨d',S',q,r⟩

theorem WX_scope {b:XC} (h:WX P ro n b (scopeD Q) d S):WX P ro n (.scope b) Q d S:=by
 intro m c hc w0 a w hR;cases c<;>simp only [xslimCode,reduceCtorEq,Option.map_eq_some_iff,and_false,exists_false,Option.some.injEq,XC.scope.injEq] at hc<;>(try (revert hc; (repeat' split)<;>simp; done));obtain ⟨b',hb,rfl⟩:=hc;refine wpIn_scope (wpIn_mono (h m _ hb w0 a w hR) ?_);rintro e a' w' ⟨d',S',q,r⟩;cases e with
 | goto l=>exact q
 | _=>exact ⟨d',S',q,r⟩

/-- A loop: what holds at each round's head, by a number that falls. -/
theorem WX_loopN {b:XC} (I:Nat->DZ->ZS->Prop) {k0:Nat} (h0:I k0 d S) (h:∀ k d' S',I k d' S'->WX P ro n b (thenD (λd'' S''=>∃ k',k'<k/\I k' d'' S'') Q) d' S'):WX P ro n (.loop b) Q d S:=by
 intro m c hc w0 a w hR;cases c<;>simp only [xslimCode,reduceCtorEq,Option.map_eq_some_iff,and_false,exists_false,Option.some.injEq,XC.loop.injEq] at hc<;>(try (revert hc; (repeat' split)<;>simp; done));rename_i cb;obtain ⟨b',hb,rfl⟩:=hc;have key:∀ (k k':Nat) (d:DZ) (S:ZS) (a:Act) (w:World),k'<k->I k' d S->RelE w0 n d S a w->Code.roundsIn (Fx ro) m P cb (λe a' w'=>∃ d' S',Q e d' S'/\RelE w0 n d' S' a' w') k a w:=by
  intro k;induction k with
  | zero=>intro k' d S a w hk; omega
  | succ k ih=>
   intro k' d S a w hk hI hR;refine wpIn_mono (h k' d S hI m cb hb w0 a w hR) ?_;rintro e a' w' ⟨d',S',q,r⟩;cases e with
   | normal=>obtain ⟨k2,hk2,hI2⟩:=q; exact ih k2 d' S' a' w' (by omega) hI2 r
   | _=>exact ⟨d',S',q,r⟩
 exact wpIn_loop_rounds _ (key _ k0 d S a w (Nat.lt_succ_self _) h0 hR)

theorem WX_cond {cx:SX} {x y:XC} {t:Bool} (hev:S.ev cx= .b t) (h1:t=true->WX P ro n x Q d S) (h2:t=false->WX P ro n y Q d S):WX P ro n (.cond cx x y) Q d S:=by
 intro m c hc w0 a w hR;cases c<;>simp only [xslimCode,reduceCtorEq,Option.map_eq_some_iff,and_false,exists_false,Option.some.injEq] at hc<;>(try (revert hc; (repeat' split)<;>simp; done));split at hc
 . rename_i c ca cb cx' x' y' hx ha hb;simp only [Option.some.injEq,XC.cond.injEq] at hc;obtain ⟨rfl,rfl,rfl⟩:=hc;obtain ⟨w1,E,hR1⟩:=hR;obtain ⟨μ,H,rel⟩:=hR1.ex;have hv:=bool_val (by have:=ev_rel hx rel; rwa [hev] at this);cases t with
   | true=>exact wpIn_cond_true hv (h1 rfl m _ ha w0 a w ⟨w1,E,hR1⟩)
   | false=>exact wpIn_cond_false hv (h2 rfl m _ hb w0 a w ⟨w1,E,hR1⟩)
 . cases hc

theorem WX_reg {ops:List XOp} (h:RunX P (Q .normal d) (λv S=>Q (.panic [{ v,recovered:=false }]) d S) ops S):WX P ro n (.reg ops) Q d S:=by
 intro m c hc w0 a w hR;cases c<;>simp only [xslimCode,reduceCtorEq,Option.map_eq_some_iff,and_false,exists_false,Option.some.injEq] at hc<;>(try (revert hc; (repeat' split)<;>simp; done));rename_i id os draw;obtain ⟨w1,E,hR1⟩:=hR;cases hdf:dfrOf P os.toList with
 | some x=>cases draw<;>simp [hdf] at hc
 | none=>
  cases draw with
  | true=>
   simp only [hdf] at hc;split at hc
   . simp only [if_true] at hc;split at hc<;>simp at hc
   . cases hc
  | false=>
   simp only [hdf] at hc;split at hc
   . rename_i l hl;simp only [Bool.false_eq_true,if_false,Option.some.injEq,XC.reg.injEq] at hc; subst hc;refine wpIn_region ?_;rw [List.range_eq_range'];have:=xrun_region (ro:=ro) (m:=m) (w0:=w1) (Q':=λe a' w'=>∃ d' S',Q e d' S'/\RelE w0 n d' S' a' w') [] (λS' a' w' hS hR=>⟨d,S',hS,w1,E,hR⟩) (λv S' a' w' hS hR=>⟨d,S',hS,w1,E,hR⟩) os.toList 0 l S a w (by simp) hl h hR1
     simpa using this
   . cases hc
end
end Go.Zw
namespace Go.Zw
open Go.Vw (Nul V SX SO SRes width)

/-- A call's answer: results; what has become of older objects; new ones, by name from the first free one on. -/
inductive RR where
 | bad
 | ok (zs:List Z) (ups:List (Nat × Option ZO)) (news:List ZO)
 | pan (v:Z) (dt:List Nat)
abbrev Fn3:=FuncId->Mem->List Z->RR
abbrev YT:=Nat->Mem->List Z->RR
/-- What a frame leans on: rounds of the loops about it; functions, by rounds; where a panic leads; what is deferred. -/
inductive CallK where
 | mk (y:YT) (g:YT->Fn3) (p:DZ->SL->Mem->Z->RR) (d:DZ)
noncomputable def callF (c:CallK):Fn3:= @CallK.rec (λ_=>Fn3) (λy g _ _=>g y) c
noncomputable def callY (c:CallK):YT:= @CallK.rec (λ_=>YT) (λy _ _ _=>y) c
noncomputable def callP (c:CallK) (s:SL) (m:Mem) (v:Z):RR:= @CallK.rec (λ_=>RR) (λ_ _ p d=>p d s m v) c
noncomputable def callD (c:CallK):DZ:= @CallK.rec (λ_=>DZ) (λ_ _ _ d=>d) c
noncomputable def callG (c:CallK) (y:YT):Fn3:= @CallK.rec (λ_=>Fn3) (λ_ g _ _=>g y) c
noncomputable def setD (d:DZ) (c:CallK):CallK:= @CallK.rec (λ_=>CallK) (λy g p _=>.mk y g p d) c
noncomputable def noP (c:CallK):CallK:= @CallK.rec (λ_=>CallK) (λy g _ d=>.mk y g (λ_ _ _ _=>.bad) d) c
noncomputable def inC (c:CallK):CallK:= @CallK.rec (λ_=>CallK) (λy g _ _=>.mk y g (λ_ _ _ _=>.bad) .clean) c
abbrev Kont:=SL->Mem->CallK->RR
abbrev Stp:=Kont->SL->Mem->CallK->RR
abbrev Gt:=SL->Z
abbrev Pt:=Z->SL->SL

/-- A number, reckoned out. -/
noncomputable def frc (n:Nat) (f:Nat->RR):RR:= @Nat.rec (λ_=>RR) (f 0) (λk _=>f (Nat.succ k)) n
noncomputable def zInt (z:Z) (f:IntKind->Int->RR):RR:= @Z.rec (λ_=>RR) (λ_=>PUnit) (λ_=>.bad) (λk n=>f k n) (λ_=>.bad) (λ_=>.bad) .bad (λ_ _ _ _=>.bad) (λ_ _=>.bad) (λ_=>.bad) (λ_=>.bad) (λ_=>.bad) (λ_ _ _ _ _=>.bad) (λ_ _ _=>.bad) (λ_ _=>.bad) (λ_ _=>.bad) .bad PUnit.unit (λ_ _ _ _=>PUnit.unit) z
noncomputable def zBool (z:Z) (f:Bool->RR):RR:= @Z.rec (λ_=>RR) (λ_=>PUnit) (f) (λ_ _=>.bad) (λ_=>.bad) (λ_=>.bad) .bad (λ_ _ _ _=>.bad) (λ_ _=>.bad) (λ_=>.bad) (λ_=>.bad) (λ_=>.bad) (λ_ _ _ _ _=>.bad) (λ_ _ _=>.bad) (λ_ _=>.bad) (λ_ _=>.bad) .bad PUnit.unit (λ_ _ _ _=>PUnit.unit) z
noncomputable def zStr (z:Z) (f:ByteArray->RR):RR:= @Z.rec (λ_=>RR) (λ_=>PUnit) (λ_=>.bad) (λ_ _=>.bad) (f) (λ_=>.bad) .bad (λ_ _ _ _=>.bad) (λ_ _=>.bad) (λ_=>.bad) (λ_=>.bad) (λ_=>.bad) (λ_ _ _ _ _=>.bad) (λ_ _ _=>.bad) (λ_ _=>.bad) (λ_ _=>.bad) .bad PUnit.unit (λ_ _ _ _=>PUnit.unit) z
noncomputable def zSl (z:Z) (f:Nat->Nat->Nat->Nat->RR):RR:= @Z.rec (λ_=>RR) (λ_=>PUnit) (λ_=>.bad) (λ_ _=>.bad) (λ_=>.bad) (λ_=>.bad) .bad (f) (λ_ _=>.bad) (λ_=>.bad) (λ_=>.bad) (λ_=>.bad) (λ_ _ _ _ _=>.bad) (λ_ _ _=>.bad) (λ_ _=>.bad) (λ_ _=>.bad) .bad PUnit.unit (λ_ _ _ _=>PUnit.unit) z
noncomputable def zSlN (z:Z) (g:RR) (f:Nat->Nat->Nat->Nat->RR):RR:= @Z.rec (λ_=>RR) (λ_=>PUnit) (λ_=>.bad) (λ_ _=>.bad) (λ_=>.bad) (λ_=>.bad) (g) (f) (λ_ _=>.bad) (λ_=>.bad) (λ_=>.bad) (λ_=>.bad) (λ_ _ _ _ _=>.bad) (λ_ _ _=>.bad) (λ_ _=>.bad) (λ_ _=>.bad) .bad PUnit.unit (λ_ _ _ _=>PUnit.unit) z
noncomputable def zPtr (z:Z) (f:Nat->Nat->RR):RR:= @Z.rec (λ_=>RR) (λ_=>PUnit) (λ_=>.bad) (λ_ _=>.bad) (λ_=>.bad) (λ_=>.bad) .bad (λ_ _ _ _=>.bad) (f) (λ_=>.bad) (λ_=>.bad) (λ_=>.bad) (λ_ _ _ _ _=>.bad) (λ_ _ _=>.bad) (λ_ _=>.bad) (λ_ _=>.bad) .bad PUnit.unit (λ_ _ _ _=>PUnit.unit) z
noncomputable def zMp (z:Z) (f:Nat->RR):RR:= @Z.rec (λ_=>RR) (λ_=>PUnit) (λ_=>.bad) (λ_ _=>.bad) (λ_=>.bad) (λ_=>.bad) .bad (λ_ _ _ _=>.bad) (λ_ _=>.bad) (f) (λ_=>.bad) (λ_=>.bad) (λ_ _ _ _ _=>.bad) (λ_ _ _=>.bad) (λ_ _=>.bad) (λ_ _=>.bad) .bad PUnit.unit (λ_ _ _ _=>PUnit.unit) z
noncomputable def zIt (z:Z) (f:Nat->RR):RR:= @Z.rec (λ_=>RR) (λ_=>PUnit) (λ_=>.bad) (λ_ _=>.bad) (λ_=>.bad) (λ_=>.bad) .bad (λ_ _ _ _=>.bad) (λ_ _=>.bad) (λ_=>.bad) (f) (λ_=>.bad) (λ_ _ _ _ _=>.bad) (λ_ _ _=>.bad) (λ_ _=>.bad) (λ_ _=>.bad) .bad PUnit.unit (λ_ _ _ _=>PUnit.unit) z
noncomputable def zTup (z:Z) (f:List Z->RR):RR:= @Z.rec (λ_=>RR) (λ_=>PUnit) (λ_=>.bad) (λ_ _=>.bad) (λ_=>.bad) (λ_=>.bad) .bad (λ_ _ _ _=>.bad) (λ_ _=>.bad) (λ_=>.bad) (λ_=>.bad) (λ_=>.bad) (λ_ _ _ _ _=>.bad) (λ_ _ _=>.bad) (λ_ _=>.bad) (λcs _=>f cs) .bad PUnit.unit (λ_ _ _ _=>PUnit.unit) z
noncomputable def zAgg (z:Z) (f:List Z->RR):RR:= @Z.rec (λ_=>RR) (λ_=>PUnit) (λ_=>.bad) (λ_ _=>.bad) (λ_=>.bad) (λ_=>.bad) .bad (λ_ _ _ _=>.bad) (λ_ _=>.bad) (λ_=>.bad) (λ_=>.bad) (λ_=>.bad) (λ_ _ _ _ _=>.bad) (λ_ _ _=>.bad) (λcs _=>f cs) (λ_ _=>.bad) .bad PUnit.unit (λ_ _ _ _=>PUnit.unit) z
noncomputable def zClo (z:Z) (f:FuncId->List Z->List Z->RR):RR:= @Z.rec (λ_=>RR) (λ_=>PUnit) (λ_=>.bad) (λ_ _=>.bad) (λ_=>.bad) (λ_=>.bad) .bad (λ_ _ _ _=>.bad) (λ_ _=>.bad) (λ_=>.bad) (λ_=>.bad) (λ_=>.bad) (λid x y _ _=>f id x y) (λ_ _ _=>.bad) (λ_ _=>.bad) (λ_ _=>.bad) .bad PUnit.unit (λ_ _ _ _=>PUnit.unit) z
noncomputable def zCloY (z:Z) (f:FuncId->List Z->List Z->RR) (g:Nat->RR):RR:= @Z.rec (λ_=>RR) (λ_=>PUnit) (λ_=>.bad) (λ_ _=>.bad) (λ_=>.bad) (λ_=>.bad) .bad (λ_ _ _ _=>.bad) (λ_ _=>.bad) (λ_=>.bad) (λ_=>.bad) (g) (λid x y _ _=>f id x y) (λ_ _ _=>.bad) (λ_ _=>.bad) (λ_ _=>.bad) .bad PUnit.unit (λ_ _ _ _=>PUnit.unit) z
noncomputable def zIS (z:Z) (f:IntKind->Int->RR) (g:ByteArray->RR):RR:= @Z.rec (λ_=>RR) (λ_=>PUnit) (λ_=>.bad) (λk n=>f k n) (g) (λ_=>.bad) .bad (λ_ _ _ _=>.bad) (λ_ _=>.bad) (λ_=>.bad) (λ_=>.bad) (λ_=>.bad) (λ_ _ _ _ _=>.bad) (λ_ _ _=>.bad) (λ_ _=>.bad) (λ_ _=>.bad) .bad PUnit.unit (λ_ _ _ _=>PUnit.unit) z
noncomputable def zG (z:Z) (w:Bool) (r q:RR):RR:= @Z.rec (λ_=>RR) (λ_=>PUnit) (λc=> @Bool.rec (λ_=>RR) (@Bool.rec (λ_=>RR) r q w) (@Bool.rec (λ_=>RR) q r w) c) (λ_ _=>q) (λ_=>.bad) (λ_=>.bad) .bad (λ_ _ _ _=>.bad) (λ_ _=>.bad) (λ_=>.bad) (λ_=>.bad) (λ_=>.bad) (λ_ _ _ _ _=>.bad) (λ_ _ _=>.bad) (λ_ _=>.bad) (λ_ _=>q) .bad PUnit.unit (λ_ _ _ _=>PUnit.unit) z
noncomputable def zLenS (z:Z) (g:RR) (f:Nat->RR):RR:= @Z.rec (λ_=>RR) (λ_=>PUnit) (λ_=>.bad) (λ_ _=>.bad) (λ_=>.bad) (λ_=>.bad) (g) (λ_ _ n _=>f n) (λ_ _=>.bad) (λ_=>.bad) (λ_=>.bad) (λ_=>.bad) (λ_ _ _ _ _=>.bad) (λ_ _ _=>.bad) (λ_ _=>.bad) (λ_ _=>.bad) .bad PUnit.unit (λ_ _ _ _=>PUnit.unit) z
noncomputable def zNilC (z:Z) (f:RR) (g:RR):RR:= @Z.rec (λ_=>RR) (λ_=>PUnit) (λ_=>.bad) (λ_ _=>.bad) (λ_=>.bad) (λ_=>.bad) (f) (λ_ _ _ _=>g) (λ_ _=>.bad) (λ_=>.bad) (λ_=>.bad) (λ_=>.bad) (λ_ _ _ _ _=>.bad) (λ_ _ _=>.bad) (λ_ _=>.bad) (λ_ _=>.bad) .bad PUnit.unit (λ_ _ _ _=>PUnit.unit) z
noncomputable def zNul (z:Z) (f:Nul->RR) (p i c:RR):RR:= @Z.rec (λ_=>RR) (λ_=>PUnit) (λ_=>.bad) (λ_ _=>.bad) (λ_=>.bad) (f) .bad (λ_ _ _ _=>.bad) (λ_ _=>p) (λ_=>.bad) (λ_=>.bad) (λ_=>.bad) (λ_ _ _ _ _=>c) (λ_ _ _=>i) (λ_ _=>.bad) (λ_ _=>.bad) .bad PUnit.unit (λ_ _ _ _=>PUnit.unit) z
noncomputable def zChk (z:Z) (f:RR):RR:= @Z.rec (λ_=>RR) (λ_=>PUnit) (λ_=>.bad) (λ_ _=>.bad) (λ_=>.bad) (λ_=>.bad) .bad (λ_ _ _ _=>.bad) (λ_ _=>f) (λ_=>.bad) (λ_=>.bad) (λ_=>.bad) (λ_ _ _ _ _=>f) (λ_ _ _=>.bad) (λ_ _=>.bad) (λ_ _=>.bad) .bad PUnit.unit (λ_ _ _ _=>PUnit.unit) z
noncomputable def zCells (z:Z) (f:List Z->RR):RR:= @Z.rec (λ_=>RR) (λ_=>PUnit) (λ_=>f (.cons z .nil)) (λ_ _=>f (.cons z .nil)) (λ_=>f (.cons z .nil)) (λ_=>f (.cons z .nil)) (f (.cons z .nil)) (λ_ _ _ _=>f (.cons z .nil)) (λ_ _=>f (.cons z .nil)) (λ_=>f (.cons z .nil)) (λ_=>f (.cons z .nil)) (λ_=>f (.cons z .nil)) (λ_ _ _ _ _=>f (.cons z .nil)) (λ_ _ _=>f (.cons z .nil)) (λcs _=>f cs) (λ_ _=>.bad) .bad PUnit.unit (λ_ _ _ _=>PUnit.unit) z
noncomputable def zCell (z:Z) (f:RR):RR:= @Z.rec (λ_=>RR) (λ_=>PUnit) (λ_=>f) (λ_ _=>f) (λ_=>f) (λ_=>f) (f) (λ_ _ _ _=>f) (λ_ _=>f) (λ_=>f) (λ_=>f) (λ_=>f) (λ_ _ _ _ _=>f) (λ_ _ _=>f) (λ_ _=>.bad) (λ_ _=>.bad) .bad PUnit.unit (λ_ _ _ _=>PUnit.unit) z
noncomputable def iNN (a:Int) (f:Nat->RR):RR:= @Int.rec (λ_=>RR) f (λ_=>.bad) a
noncomputable def zNat (z:Z) (f:Nat->RR):RR:=zInt z λ_ a=>iNN a f
noncomputable def oOb (o:Option ZO) (f:TypeId->Bool->List Z->RR):RR:= @Option.rec ZO (λ_=>RR) .bad (λo=> @ZO.rec (λ_=>RR) f (λ_ _=>.bad) (λ_ _ _ _=>.bad) (λ_ _ _=>.bad) o) o
noncomputable def oMp (o:Option ZO) (f:List (Z × Z × Nat)->Nat->RR):RR:= @Option.rec ZO (λ_=>RR) .bad (λo=> @ZO.rec (λ_=>RR) (λ_ _ _=>.bad) f (λ_ _ _ _=>.bad) (λ_ _ _=>.bad) o) o
noncomputable def oIt (o:Option ZO) (f:Option Nat->Nat->List Nat->Nat->RR):RR:= @Option.rec ZO (λ_=>RR) .bad (λo=> @ZO.rec (λ_=>RR) (λ_ _ _=>.bad) (λ_ _=>.bad) f (λ_ _ _=>.bad) o) o
-- lists
noncomputable def nthK (cs:List Z):Nat->(Z->RR)->RR:= @List.rec Z (λ_=>Nat->(Z->RR)->RR) (λ_ _=>.bad) (λz _ ih j f=> @Nat.rec (λ_=>RR) (f z) (λj _=>ih j f) j) cs
noncomputable def takK (cs:List Z):Nat->(List Z->RR)->RR:= @List.rec Z (λ_=>Nat->(List Z->RR)->RR) (λn f=> @Nat.rec (λ_=>RR) (f []) (λ_ _=>.bad) n) (λz _ ih n f=> @Nat.rec (λ_=>RR) (f []) (λn _=>ih n λr=>f (.cons z r)) n) cs
noncomputable def subK (cs:List Z):Nat->Nat->(List Z->RR)->RR:= @List.rec Z (λ_=>Nat->Nat->(List Z->RR)->RR) (λo n f=> @Nat.rec (λ_=>RR) (takK [] n f) (λ_ _=>.bad) o) (λz cs ih o n f=> @Nat.rec (λ_=>RR) (takK (.cons z cs) n f) (λo _=>ih o n f) o) cs
noncomputable def ovlK (cs:List Z):List Z->(List Z->RR)->RR:= @List.rec Z (λ_=>List Z->(List Z->RR)->RR) (λvs f=> @List.rec Z (λ_=>RR) (f []) (λ_ _ _=>.bad) vs) (λz cs ih vs f=> @List.rec Z (λ_=>RR) (f (.cons z cs)) (λv vs _=>ih vs λr=>f (.cons v r)) vs) cs
noncomputable def patK (cs:List Z):Nat->List Z->(List Z->RR)->RR:= @List.rec Z (λ_=>Nat->List Z->(List Z->RR)->RR) (λo vs f=> @Nat.rec (λ_=>RR) (ovlK [] vs f) (λ_ _=>.bad) o) (λz cs ih o vs f=> @Nat.rec (λ_=>RR) (ovlK (.cons z cs) vs f) (λo _=>ih o vs λr=>f (.cons z r)) o) cs
noncomputable def appL (cs ds:List Z):List Z:= @List.rec Z (λ_=>List Z) ds (λz _ ih=>.cons z ih) cs
noncomputable def repL (z:Z) (n:Nat):List Z:= @Nat.rec (λ_=>List Z) [] (λ_ ih=>.cons z ih) n
noncomputable def repsL (zs:List Z) (n:Nat):List Z:= @Nat.rec (λ_=>List Z) [] (λ_ ih=>appL zs ih) n
noncomputable def lenL (cs:List Z):Nat:= @List.rec Z (λ_=>Nat) 0 (λ_ _ ih=>Nat.succ ih) cs
-- numbers
noncomputable def kc (k:IntKind):Nat:= @IntKind.rec (λ_=>Nat) 0 1 2 3 4 5 6 7 k
inductive KI where
 | mk (sg:Bool) (m h:Nat)
noncomputable def kinf (k:IntKind):KI:=.mk k.signed (2^k.bits) (2^(k.bits-1))
noncomputable def md (k:IntKind):Nat:=2^k.bits
/-- A number that is not below 0, in the range of its kind. -/
noncomputable def wrN (k:IntKind) (n:Nat) (f:Z->RR):RR:=
 @KI.rec (λ_=>RR) (λs m h=> @Bool.rec (λ_=>RR) (frc (Nat.mod n m) λn=>f (.i k (.ofNat n))) (frc n λn=> @Bool.rec (λ_=>RR) (f (.i k (.ofNat n))) .bad (Nat.ble h n)) s) (kinf k)
/-- One below 0: -(n + 1). -/
noncomputable def wrS (k:IntKind) (n:Nat) (f:Z->RR):RR:=
 @KI.rec (λ_=>RR) (λs m h=> @Bool.rec (λ_=>RR) (frc (Nat.sub m (Nat.succ (Nat.mod n m))) λn=>f (.i k (.ofNat n))) (frc n λn=> @Bool.rec (λ_=>RR) (f (.i k (.negSucc n))) .bad (Nat.ble h n)) s) (kinf k)
noncomputable def wr (k:IntKind) (n:Int) (f:Z->RR):RR:= @Int.rec (λ_=>RR) (λn=>wrN k n f) (λn=>wrS k n f) n
noncomputable def subN (a b:Nat):Int:= @Bool.rec (λ_=>Int) (.negSucc (Nat.sub (Nat.sub b a) 1)) (.ofNat (Nat.sub a b)) (Nat.ble b a)
noncomputable def addI (a b:Int):Int:= @Int.rec (λ_=>Int) (λm=> @Int.rec (λ_=>Int) (λn=>.ofNat (Nat.add m n)) (λn=>subN m (Nat.succ n)) b) (λm=> @Int.rec (λ_=>Int) (λn=>subN n (Nat.succ m)) (λn=>.negSucc (Nat.succ (Nat.add m n))) b) a
noncomputable def negI (a:Int):Int:= @Int.rec (λ_=>Int) (λm=>subN 0 m) (λm=>.ofNat (Nat.succ m)) a
noncomputable def mulI (a b:Int):Int:= @Int.rec (λ_=>Int) (λm=> @Int.rec (λ_=>Int) (λn=>.ofNat (Nat.mul m n)) (λn=>subN 0 (Nat.mul m (Nat.succ n))) b) (λm=> @Int.rec (λ_=>Int) (λn=>subN 0 (Nat.mul (Nat.succ m) n)) (λn=>.ofNat (Nat.mul (Nat.succ m) (Nat.succ n))) b) a
noncomputable def ltI (a b:Int):Bool:= @Int.rec (λ_=>Bool) (λm=> @Int.rec (λ_=>Bool) (λn=>Nat.ble (Nat.succ m) n) (λ_=>false) b) (λm=> @Int.rec (λ_=>Bool) (λ_=>true) (λn=>Nat.ble (Nat.succ n) m) b) a
noncomputable def leI (a b:Int):Bool:= @Int.rec (λ_=>Bool) (λm=> @Int.rec (λ_=>Bool) (λn=>Nat.ble m n) (λ_=>false) b) (λm=> @Int.rec (λ_=>Bool) (λ_=>true) (λn=>Nat.ble n m) b) a
noncomputable def eqI (a b:Int):Bool:= @Int.rec (λ_=>Bool) (λm=> @Int.rec (λ_=>Bool) (λn=>Nat.beq m n) (λ_=>false) b) (λm=> @Int.rec (λ_=>Bool) (λ_=>false) (λn=>Nat.beq m n) b) a
noncomputable def notB (b:Bool):Bool:= @Bool.rec (λ_=>Bool) true false b
/-- Two numbers that are not below 0, and below a kind's bound. -/
noncomputable def nn (a b:Int) (f:Nat->Nat->RR):RR:=iNN a λa=>iNN b λb=>f a b
noncomputable def nnR (k:IntKind) (a b:Int) (f:Nat->Nat->RR):RR:=iNN a λa=>iNN b λb=> @Bool.rec (λ_=>RR) (@Bool.rec (λ_=>RR) (f a b) .bad (Nat.ble (md k) b)) .bad (Nat.ble (md k) a)
noncomputable def sameK (k k':IntKind) (r:RR):RR:= @Bool.rec (λ_=>RR) .bad r (Nat.beq (kc k) (kc k'))
abbrev Ar:=IntKind->IntKind->Int->Int->(Z->RR)->RR
noncomputable def aAdd:Ar:=λk k' a b f=>sameK k k' (wr k (addI a b) f)
noncomputable def aSub:Ar:=λk k' a b f=>sameK k k' (wr k (addI a (negI b)) f)
noncomputable def aMul:Ar:=λk k' a b f=>sameK k k' (wr k (mulI a b) f)
noncomputable def aQuo:Ar:=λk k' a b f=>sameK k k' (nn a b λa b=> @Bool.rec (λ_=>RR) (wrN k (Nat.div a b) f) .bad (Nat.beq b 0))
noncomputable def aRem:Ar:=λk k' a b f=>sameK k k' (@Int.rec (λ_=>RR) (λb=> @Bool.rec (λ_=>RR) (@Int.rec (λ_=>RR) (λa=>frc (Nat.mod a b) λn=>f (.i k (.ofNat n))) (λa=>frc (Nat.mod (Nat.succ a) b) λn=>f (.i k (subN 0 n))) a) .bad (Nat.beq b 0)) (λ_=>.bad) b)
noncomputable def aAnd:Ar:=λk k' a b f=>sameK k k' (nnR k a b λa b=>wrN k (Nat.land a b) f)
noncomputable def aOr:Ar:=λk k' a b f=>sameK k k' (nnR k a b λa b=>wrN k (Nat.lor a b) f)
noncomputable def aXor:Ar:=λk k' a b f=>sameK k k' (nnR k a b λa b=>wrN k (Nat.xor a b) f)
noncomputable def aAndNot:Ar:=λk k' a b f=>sameK k k' (nnR k a b λa b=>wrN k (Nat.land a (Nat.sub (Nat.sub (md k) 1) b)) f)
noncomputable def aShl:Ar:=λk k' a b f=>nn a b λa b=> @Bool.rec (λ_=>RR) .bad (wrN k (Nat.mul a (Nat.pow 2 b)) f) (Nat.ble b k.bits)
noncomputable def aShr:Ar:=λk k' a b f=>nn a b λa b=> @Bool.rec (λ_=>RR) .bad (frc (Nat.div a (Nat.pow 2 b)) λn=>f (.i k (.ofNat n))) (Nat.ble b k.bits)
noncomputable def aEql:Ar:=λk k' a b f=>sameK k k' (f (.b (eqI a b)))
noncomputable def aNeq:Ar:=λk k' a b f=>sameK k k' (f (.b (notB (eqI a b))))
noncomputable def aLss:Ar:=λk k' a b f=>sameK k k' (f (.b (ltI a b)))
noncomputable def aLeq:Ar:=λk k' a b f=>sameK k k' (f (.b (leI a b)))
noncomputable def aGtr:Ar:=λk k' a b f=>sameK k k' (f (.b (ltI b a)))
noncomputable def aGeq:Ar:=λk k' a b f=>sameK k k' (f (.b (leI b a)))
-- texts
noncomputable def u8n (x:UInt8):Nat:=x.toNat
noncomputable def eqBs (a:List UInt8):List UInt8->Bool:= @List.rec UInt8 (λ_=>List UInt8->Bool) (λb=> @List.rec UInt8 (λ_=>Bool) true (λ_ _ _=>false) b) (λx _ ih b=> @List.rec UInt8 (λ_=>Bool) false (λy ys _=> @Bool.rec (λ_=>Bool) false (ih ys) (Nat.beq (u8n x) (u8n y))) b) a
noncomputable def lenB (a:List UInt8):Nat:= @List.rec UInt8 (λ_=>Nat) 0 (λ_ _ ih=>Nat.succ ih) a
noncomputable def appB (cs ds:List UInt8):List UInt8:= @List.rec UInt8 (λ_=>List UInt8) ds (λz _ ih=>.cons z ih) cs
noncomputable def mkS (l:List UInt8):ByteArray:=⟨⟨l⟩⟩
abbrev Sr:=ByteArray->ByteArray->(Z->RR)->RR
noncomputable def sBad:Sr:=λ_ _ _=>.bad
noncomputable def sAdd:Sr:=λa b f=> @Bool.rec (λ_=>RR) .bad (f (.s (mkS (appB a.data.toList b.data.toList)))) (Nat.ble (Nat.add (lenB a.data.toList) (lenB b.data.toList)) 1000000)
noncomputable def sEql:Sr:=λa b f=>f (.b (eqBs a.data.toList b.data.toList))
noncomputable def sNeq:Sr:=λa b f=>f (.b (notB (eqBs a.data.toList b.data.toList)))
inductive AS where
 | mk (a:Ar) (s:Sr)
noncomputable def arS (op:BinOp):AS:= @BinOp.rec (λ_=>AS) (.mk aAdd sAdd) (.mk aSub sBad) (.mk aMul sBad) (.mk aQuo sBad) (.mk aRem sBad) (.mk aAnd sBad) (.mk aOr sBad) (.mk aXor sBad) (.mk aShl sBad) (.mk aShr sBad) (.mk aAndNot sBad) (.mk aEql sEql) (.mk aNeq sNeq) (.mk aLss sBad) (.mk aLeq sBad) (.mk aGtr sBad) (.mk aGeq sBad) op
-- operands
inductive GX where
 | mk (g:Gt)
inductive GP where
 | bad
 | mk (p:Pt)
noncomputable def gx (x:SX):GX:= @SX.rec (λ_=>GX) (λn=> @Bool.rec (λ_=>GX) (.mk λ_=>.tup []) (@Slo.rec (λ_=>GX) (λg _=>.mk g) (slot n)) (Nat.ble n 511)) (λv=>.mk (λ_=>vz v)) (λid=>.mk (λ_=>.clo id [] [])) x
noncomputable def gp (d:Option Nat):GP:= @Option.rec Nat (λ_=>GP) (.mk λ_ s=>s) (λn=> @Bool.rec (λ_=>GP) .bad (@Slo.rec (λ_=>GP) (λ_ p=>.mk p) (slot n)) (Nat.ble n 511)) d
/-- Operands, in a row. -/
inductive GL where
 | nil
 | cons (g:Gt) (t:GL)
noncomputable def gxs (xs:List SX):GL:= @List.rec SX (λ_=>GL) .nil (λx _ ih=> @GX.rec (λ_=>GL) (λg=>.cons g ih) (gx x)) xs
noncomputable def evs (xs:GL) (s:SL):List Z:= @GL.rec (λ_=>List Z) [] (λg _ ih=>.cons (g s) ih) xs
-- operations
noncomputable def mnew (o:ZO) (m:Mem) (k:Nat->Mem->RR):RR:= @Mem.rec (λ_=>RR) (λh nx nb dt=> @Bool.rec (λ_=>RR) .bad (k nx (.mk (hput nx (.some o) h) (Nat.succ nx) nb dt)) (Nat.ble nx 4095)) m
noncomputable def xBad:Stp:=λ_ _ _ _=>.bad
noncomputable def xMv (x:Gt) (p:Pt):Stp:=λk s m c=>k (p (x s) s) m c
noncomputable def xPick (t x y:Gt) (p:Pt):Stp:=λk s m c=>zBool (t s) λt=> @Bool.rec (λ_=>RR) (k (p (y s) s) m c) (k (p (x s) s) m c) t
noncomputable def xBin (a:Ar) (b:Sr) (x y:Gt) (p:Pt):Stp:=λk s m c=>zIS (x s) (λk1 i=>zInt (y s) λk2 j=>a k1 k2 i j λz=>k (p z s) m c) λu=>zStr (y s) λv=>b u v λz=>k (p z s) m c
noncomputable def xEqb (neg:Bool) (x y:Gt) (p:Pt):Stp:=λk s m c=>zBool (x s) λa=>zBool (y s) λb=>k (p (.b (@Bool.rec (λ_=>Bool) (@Bool.rec (λ_=>Bool) (notB b) b a) (@Bool.rec (λ_=>Bool) b (notB b) a) neg)) s) m c
noncomputable def xNot (x:Gt) (p:Pt):Stp:=λk s m c=>zBool (x s) λa=>k (p (.b (notB a)) s) m c
noncomputable def xNeg (x:Gt) (p:Pt):Stp:=λk s m c=>zInt (x s) λk1 i=>wr k1 (negI i) λz=>k (p z s) m c
noncomputable def xConv (k2:IntKind) (x:Gt) (p:Pt):Stp:=λk s m c=>zInt (x s) λ_ i=>wr k2 i λz=>k (p z s) m c
noncomputable def xLoad1 (x:Gt) (p:Pt):Stp:=λk s m c=>zPtr (x s) λr j=>oOb (mget r m) λ_ _ cs=>nthK cs j λz=>k (p z s) m c
noncomputable def xLoad (n:Nat) (x:Gt) (p:Pt):Stp:=λk s m c=>zPtr (x s) λr j=>oOb (mget r m) λ_ _ cs=>subK cs j n λl=>k (p (.agg l) s) m c
noncomputable def xStore1 (x v:Gt) (p:Pt):Stp:=λk s m c=>zPtr (x s) λr j=>oOb (mget r m) λT fx cs=>zCell (v s) (patK cs j (.cons (v s) .nil) λl=>k (p (.tup []) s) (mset r (.some (.ob T fx l)) m) c)
noncomputable def xStore (n:Nat) (x v:Gt) (p:Pt):Stp:=λk s m c=>zPtr (x s) λr j=>oOb (mget r m) λT fx cs=>zAgg (v s) λvs=> @Bool.rec (λ_=>RR) .bad (patK cs j vs λl=>k (p (.tup []) s) (mset r (.some (.ob T fx l)) m) c) (Nat.beq (lenL vs) n)
noncomputable def xIdx (w0:Nat) (x i:Gt) (p:Pt):Stp:=λk s m c=>zSl (x s) λr o n w=>zNat (i s) λj=> @Bool.rec (λ_=>RR) .bad (@Bool.rec (λ_=>RR) .bad (frc (Nat.add o (Nat.mul j w)) λq=>k (p (.ptr r q) s) m c) (Nat.beq w0 w)) (Nat.ble (Nat.succ j) n)
noncomputable def xLen (x:Gt) (p:Pt):Stp:=λk s m c=>zLenS (x s) (k (p (.i .i64 (.ofNat 0)) s) m c) λn=>k (p (.i .i64 (.ofNat n)) s) m c
noncomputable def xLenS (x:Gt) (p:Pt):Stp:=λk s m c=>zStr (x s) λt=>frc (lenB t.data.toList) λn=>k (p (.i .i64 (.ofNat n)) s) m c
noncomputable def xIndex (x i:Gt) (p:Pt):Stp:=λk s m c=>zStr (x s) λt=>zNat (i s) λj=>(@List.rec UInt8 (λ_=>Nat->RR) (λ_=>.bad) (λx _ ih j=> @Nat.rec (λ_=>RR) (frc (u8n x) λn=>k (p (.i .u8 (.ofNat n)) s) m c) (λj _=>ih j) j) t.data.toList) j
noncomputable def xExt (x:Gt) (j:Nat) (p:Pt):Stp:=λk s m c=>zTup (x s) λcs=>nthK cs j λz=>k (p z s) m c
noncomputable def xFAddr (off:Nat) (x:Gt) (p:Pt):Stp:=λk s m c=>zPtr (x s) λr j=>frc (Nat.add j off) λq=>k (p (.ptr r q) s) m c
noncomputable def xField1 (off:Nat) (x:Gt) (p:Pt):Stp:=λk s m c=>zAgg (x s) λcs=>nthK cs off λz=>k (p z s) m c
noncomputable def xField (off n:Nat) (x:Gt) (p:Pt):Stp:=λk s m c=>zAgg (x s) λcs=>subK cs off n λl=>k (p (.agg l) s) m c
noncomputable def xMake (T:TypeId) (w:Nat) (zs:List Z) (bytes:Nat) (l:Gt) (p:Pt):Stp:=λk s m c=>zNat (l s) λn=> @Bool.rec (λ_=>RR) .bad (@Bool.rec (λ_=>RR) .bad (mnew (.ob T true (repsL zs n)) m λq m=>k (p (.sl q 0 n w) s) m c) (Nat.ble (Nat.mul n bytes) 140737488355328)) (Nat.ble n 140737488355328)
noncomputable def xMkFn (f:FuncId) (cs:GL) (p:Pt):Stp:=λk s m c=>k (p (.clo f [] (evs cs s)) s) m c
noncomputable def xMkB (f:FuncId) (x:Gt) (p:Pt):Stp:=λk s m c=>zPtr (x s) λr j=>k (p (.clo f (.cons (.ptr r j) .nil) []) s) m c
noncomputable def xK (z:Z) (p:Pt):Stp:=λk s m c=>k (p z s) m c
noncomputable def xBox (T:TypeId) (x:Gt) (p:Pt):Stp:=λk s m c=>zCells (x s) λcs=>mnew (.ob T true cs) m λq m=>k (p (.ptr q 0) s) m c
noncomputable def xAlloc (T:TypeId) (zs:List Z) (p:Pt):Stp:=λk s m c=>mnew (.ob T true zs) m λq m=>k (p (.ptr q 0) s) m c
/-- The cells of values of a form, in a row. -/
noncomputable def cellsK (w:Option Nat) (xs:GL) (s:SL):(List Z->RR)->RR:= @GL.rec (λ_=>(List Z->RR)->RR) (λf=>f [])
 (λg _ ih f=> @Option.rec Nat (λ_=>RR) (zCell (g s) (ih λl=>f (.cons (g s) l))) (λn=>zAgg (g s) λvs=> @Bool.rec (λ_=>RR) .bad (ih λl=>f (appL vs l)) (Nat.beq (lenL vs) n)) w) xs
noncomputable def lenG (xs:GL):Nat:= @GL.rec (λ_=>Nat) 0 (λ_ _ ih=>Nat.succ ih) xs
noncomputable def widthK (sz:Option Nat):Nat:= @Option.rec Nat (λ_=>Nat) 1 (λn=>n) sz
noncomputable def xMkSl (T:TypeId) (sz:Option Nat) (xs:GL) (n:Nat) (p:Pt):Stp:=λk s m c=>cellsK sz xs s λl=>mnew (.ob T true l) m λq m=>k (p (.sl q 0 n (widthK sz)) s) m c
/-- Parts of a value: where, how many cells, what. -/
inductive PL where
 | nil
 | cons (off n:Nat) (g:Gt) (t:PL)
noncomputable def gps (xs:List (Nat × Nat × SX)):PL:= @List.rec (Nat × Nat × SX) (λ_=>PL) .nil (λx _ ih=> @Prod.rec Nat (Nat × SX) (λ_=>PL) (λoff y=> @Prod.rec Nat SX (λ_=>PL) (λn x=> @GX.rec (λ_=>PL) (λg=>.cons off n g ih) (gx x)) y) x) xs
noncomputable def fillK (ps:PL) (s:SL):List Z->(List Z->RR)->RR:= @PL.rec (λ_=>List Z->(List Z->RR)->RR) (λzs f=>f zs) (λoff n g _ ih zs f=>zCells (g s) λcs=> @Bool.rec (λ_=>RR) .bad (patK zs off cs λzs=>ih zs f) (Nat.beq (lenL cs) n)) ps
noncomputable def xBuild (zs:List Z) (ps:PL) (p:Pt):Stp:=λk s m c=>fillK ps s zs λl=>k (p (.agg l) s) m c
noncomputable def xMm (mx:Bool) (x y:Gt) (p:Pt):Stp:=λk s m c=>zInt (x s) λk1 a=>zInt (y s) λk2 b=> @Bool.rec (λ_=>RR) (k (p (.i k1 a) s) m c) (k (p (.i k1 b) s) m c) (@Bool.rec (λ_=>Bool) (ltI b a) (ltI a b) mx)
abbrev Bd:=SL->Nat->(Nat->RR)->RR
noncomputable def bdN (x:Gt):Bd:=λs _ f=>zNat (x s) f
noncomputable def bdL (x:Option SX):Bd:= @Option.rec SX (λ_=>Bd) (λ_ _ f=>f 0) (λx=> @GX.rec (λ_=>Bd) bdN (gx x)) x
noncomputable def bdH (x:Option SX):Bd:= @Option.rec SX (λ_=>Bd) (λ_ n f=>f n) (λx=> @GX.rec (λ_=>Bd) bdN (gx x)) x
/-- Up to h of n, or as far as cells are known. -/
noncomputable def roomK (r o h w n:Nat) (m:Mem) (x:RR):RR:= @Bool.rec (λ_=>RR) (oOb (mget r m) λ_ _ cs=> @Bool.rec (λ_=>RR) .bad (@Bool.rec (λ_=>RR) x .bad (Nat.beq w 0)) (Nat.ble (Nat.add o (Nat.mul h w)) (lenL cs))) x (Nat.ble h n)
noncomputable def xSlice (w0:Nat) (x:Gt) (lo hi:Bd) (p:Pt):Stp:=λk s m c=>zSlN (x s) (lo s 0 λl=>hi s 0 λh=> @Bool.rec (λ_=>RR) .bad (@Bool.rec (λ_=>RR) .bad (k (p .nil s) m c) (Nat.beq h 0)) (Nat.beq l 0)) λr o n w=>
 lo s n λl=>hi s n λh=> @Bool.rec (λ_=>RR) .bad (roomK r o h w n m (@Bool.rec (λ_=>RR) .bad (frc (Nat.add o (Nat.mul l w)) λo=>frc (Nat.sub h l) λn=>k (p (.sl r o n w) s) m c) (Nat.beq w0 w))) (Nat.ble l h)
noncomputable def subB (cs:List UInt8):Nat->Nat->List UInt8:= @List.rec UInt8 (λ_=>Nat->Nat->List UInt8) (λ_ _=>[]) (λz _ ih o n=> @Nat.rec (λ_=>List UInt8) (@Nat.rec (λ_=>List UInt8) [] (λn _=>.cons z (ih 0 n)) n) (λo _=>ih o n) o) cs
noncomputable def xSliceS (x:Gt) (lo hi:Bd) (p:Pt):Stp:=λk s m c=>zStr (x s) λt=>frc (lenB t.data.toList) λn=>
 lo s n λl=>hi s n λh=> @Bool.rec (λ_=>RR) .bad (@Bool.rec (λ_=>RR) .bad (k (p (.s (mkS (subB t.data.toList l (Nat.sub h l)))) s) m c) (Nat.ble h n)) (Nat.ble l h)
noncomputable def elemsK (w0:Nat) (z:Z) (m:Mem) (f:List Z->Nat->RR):RR:=zSlN z (f [] 0) λr o n w=>oOb (mget r m) λ_ _ cs=> @Bool.rec (λ_=>RR) .bad (subK cs o (Nat.mul n w) λl=>f l n) (Nat.beq w w0)
noncomputable def fits47 (n bytes:Nat) (r:RR):RR:= @Bool.rec (λ_=>RR) .bad (@Bool.rec (λ_=>RR) .bad r (Nat.ble n 140737488355328)) (Nat.ble (Nat.mul n bytes) 140737488355328)
noncomputable def xAppend (T:TypeId) (w0 bytes:Nat) (x y:Gt) (p:Pt):Stp:=λk s m c=>elemsK w0 (y s) m λnews q=>zSlN (x s) (@Bool.rec (λ_=>RR) (fits47 q bytes (mnew (.ob T false news) m λr m=>k (p (.sl r 0 q w0) s) m c)) (k (p .nil s) m c) (Nat.beq q 0))
 λr o n w=>oOb (mget r m) λT' fx cs=> @Bool.rec (λ_=>RR) (@Bool.rec (λ_=>RR) .bad (@Bool.rec (λ_=>RR) .bad (frc (Nat.add n q) λnq=>fits47 nq bytes (@Bool.rec (λ_=>RR)
  (@Bool.rec (λ_=>RR) (@Bool.rec (λ_=>RR) .bad (takK cs (Nat.mul n w) λpre=>mnew (.ob T false (appL pre news)) (mset r .none m) λr m=>k (p (.sl r 0 nq w) s) m c) (Nat.beq o 0))
   (subK cs o (Nat.mul n w) λpre=>mnew (.ob T false (appL pre news)) m λr m=>k (p (.sl r 0 nq w) s) m c) fx)
  (patK cs (Nat.add o (Nat.mul n w)) news λl=>k (p (.sl r o nq w) s) (mset r (.some (.ob T fx l)) m) c) (Nat.ble (Nat.add o (Nat.mul nq w)) (lenL cs)))) (Nat.beq T' T)) (Nat.beq w w0))
  (k (p (.sl r o n w) s) m c) (Nat.beq q 0)
noncomputable def minN (a b:Nat):Nat:= @Bool.rec (λ_=>Nat) b a (Nat.ble a b)
noncomputable def xCopy (w0:Nat) (x y:Gt) (p:Pt):Stp:=λk s m c=>elemsK w0 (y s) m λnews q=>zSl (x s) λr o n w=>oOb (mget r m) λT fx cs=> @Bool.rec (λ_=>RR) .bad
 (subK cs o (Nat.mul n w) λ_=>frc (minN q n) λmn=>takK news (Nat.mul mn w) λl=>patK cs o l λl=>k (p (.i .i64 (.ofNat mn)) s) (mset r (.some (.ob T fx l)) m) c) (Nat.beq w w0)
noncomputable def packK (zs:List Z):Z:= @List.rec Z (λ_=>Z) (.tup []) (λz t _=> @List.rec Z (λ_=>Z) z (λ_ _ _=>.tup zs) t) zs
noncomputable def msetK (r:Nat) (o:Option ZO) (m:Mem) (f:Mem->RR):RR:= @Bool.rec (λ_=>RR) .bad (f (mset r o m)) (Nat.ble (Nat.succ r) m.nx)
noncomputable def upsK (ups:List (Nat × Option ZO)):Mem->(Mem->RR)->RR:= @List.rec (Nat × Option ZO) (λ_=>Mem->(Mem->RR)->RR) (λm f=>f m) (λu _ ih m f=> @Prod.rec Nat (Option ZO) (λ_=>RR) (λr o=>msetK r o m λm=>ih m f) u) ups
noncomputable def newsK (l:List ZO):Mem->(Mem->RR)->RR:= @List.rec ZO (λ_=>Mem->(Mem->RR)->RR) (λm f=>f m) (λo _ ih m f=>mnew o m λ_ m=>ih m f) l
noncomputable def dropK (dt:List Nat):Mem->(Mem->RR)->RR:= @List.rec Nat (λ_=>Mem->(Mem->RR)->RR) (λm f=>f m) (λr _ ih m f=>msetK r none m λm=>ih m f) dt
noncomputable def ansK (p:Pt) (k:Kont) (s:SL) (m:Mem) (c:CallK) (r:RR):RR:= @RR.rec (λ_=>RR) .bad (λzs ups news=>upsK ups m λm=>newsK news m λm=>k (p (packK zs) s) m c) (λv dt=>dropK dt m λm=>callP c s m v) r
noncomputable def ansY (p:Pt) (k:Kont) (s:SL) (m:Mem) (c:CallK) (r:RR):RR:= @RR.rec (λ_=>RR) .bad (λzs ups news=>upsK ups m λm=>newsK news m λm=>k (p (packK zs) s) m c) (λ_ _=>.bad) r
noncomputable def xCall (f:Gt) (as:GL) (p:Pt):Stp:=λk s m c=>zCloY (f s) (λid a b=>ansK p k s m c (callF c id m (appL a (appL (evs as s) b)))) λq=>ansY p k s m c (callY c q m (evs as s))
noncomputable def xIsNil (neg:Bool) (x:Gt) (p:Pt):Stp:=λk s m c=>zNilC (x s) (k (p (.b (notB neg)) s) m c) (k (p (.b neg) s) m c)
noncomputable def nc (k:Nul):Nat:= @Nul.rec (λ_=>Nat) 0 1 2 3 k
noncomputable def xIsNul (q:Nul) (neg:Bool) (x:Gt) (p:Pt):Stp:=λk s m c=>zNul (x s) (λq'=> @Bool.rec (λ_=>RR) .bad (k (p (.b (notB neg)) s) m c) (Nat.beq (nc q') (nc q))) (@Bool.rec (λ_=>RR) .bad (k (p (.b neg) s) m c) (Nat.beq (nc .ptr) (nc q)))
 (@Bool.rec (λ_=>RR) .bad (k (p (.b neg) s) m c) (Nat.beq (nc .iface) (nc q))) (@Bool.rec (λ_=>RR) .bad (k (p (.b neg) s) m c) (Nat.beq (nc .func) (nc q)))
noncomputable def xChk (x:Gt) (p:Pt):Stp:=λk s m c=>zChk (x s) (k (p (x s) s) m c)
noncomputable def xMkI (T:TypeId) (x:Gt) (p:Pt):Stp:=λk s m c=>k (p (.ifc T (x s)) s) m c
noncomputable def xIdxA (n:Nat) (x i:Gt) (p:Pt):Stp:=λk s m c=>zPtr (x s) λr j=>zNat (i s) λq=> @Bool.rec (λ_=>RR) .bad (frc (Nat.add j q) λq=>k (p (.ptr r q) s) m c) (Nat.ble (Nat.succ q) n)
noncomputable def xIdxV (n:Nat) (x i:Gt) (p:Pt):Stp:=λk s m c=>zAgg (x s) λcs=>zNat (i s) λq=> @Bool.rec (λ_=>RR) .bad (@Bool.rec (λ_=>RR) .bad (nthK cs q λz=>k (p z s) m c) (Nat.ble (Nat.succ q) n)) (Nat.beq (lenL cs) n)
noncomputable def xSliceA (n:Nat) (x:Gt) (lo hi:Bd) (p:Pt):Stp:=λk s m c=>zPtr (x s) λr j=>lo s n λl=>hi s n λh=>oOb (mget r m) λ_ fx cs=> @Bool.rec (λ_=>RR) .bad (@Bool.rec (λ_=>RR) .bad (@Bool.rec (λ_=>RR) .bad (@Bool.rec (λ_=>RR) .bad (@Bool.rec (λ_=>RR) .bad
 (frc (Nat.sub h l) λq=>k (p (.sl r l q 1) s) m c) (Nat.ble h n)) (Nat.ble l h)) (Nat.beq (lenL cs) n)) (Nat.beq j 0)) fx
end Go.Zw
namespace Go.Zw
open Go.Vw (Nul V SX SO SRes width)

noncomputable def andB (a b:Bool):Bool:= @Bool.rec (λ_=>Bool) false b a
noncomputable def eqB (a b:Bool):Bool:= @Bool.rec (λ_=>Bool) (notB b) b a
/-- Are values the same? -/
noncomputable def eqZ (a:Z):Z->Bool:= @Z.rec (λ_=>Z->Bool) (λ_=>List Z->Bool) (λx z=> @Z.rec (λ_=>Bool) (λ_=>PUnit) (λy=>eqB x y) (λ_ _=>false) (λ_=>false) (λ_=>false) false (λ_ _ _ _=>false) (λ_ _=>false) (λ_=>false) (λ_=>false) (λ_=>false) (λ_ _ _ _ _=>false) (λ_ _ _=>false) (λ_ _=>false) (λ_ _=>false) false PUnit.unit (λ_ _ _ _=>PUnit.unit) z)
 (λk n z=> @Z.rec (λ_=>Bool) (λ_=>PUnit) (λ_=>false) (λk2 n2=>andB (Nat.beq (kc k) (kc k2)) (eqI n n2)) (λ_=>false) (λ_=>false) false (λ_ _ _ _=>false) (λ_ _=>false) (λ_=>false) (λ_=>false) (λ_=>false) (λ_ _ _ _ _=>false) (λ_ _ _=>false) (λ_ _=>false) (λ_ _=>false) false PUnit.unit (λ_ _ _ _=>PUnit.unit) z)
 (λx z=> @Z.rec (λ_=>Bool) (λ_=>PUnit) (λ_=>false) (λ_ _=>false) (λy=>eqBs x.data.toList y.data.toList) (λ_=>false) false (λ_ _ _ _=>false) (λ_ _=>false) (λ_=>false) (λ_=>false) (λ_=>false) (λ_ _ _ _ _=>false) (λ_ _ _=>false) (λ_ _=>false) (λ_ _=>false) false PUnit.unit (λ_ _ _ _=>PUnit.unit) z)
 (λx z=> @Z.rec (λ_=>Bool) (λ_=>PUnit) (λ_=>false) (λ_ _=>false) (λ_=>false) (λy=>Nat.beq (nc x) (nc y)) false (λ_ _ _ _=>false) (λ_ _=>false) (λ_=>false) (λ_=>false) (λ_=>false) (λ_ _ _ _ _=>false) (λ_ _ _=>false) (λ_ _=>false) (λ_ _=>false) false PUnit.unit (λ_ _ _ _=>PUnit.unit) z)
 (λz=> @Z.rec (λ_=>Bool) (λ_=>PUnit) (λ_=>false) (λ_ _=>false) (λ_=>false) (λ_=>false) true (λ_ _ _ _=>false) (λ_ _=>false) (λ_=>false) (λ_=>false) (λ_=>false) (λ_ _ _ _ _=>false) (λ_ _ _=>false) (λ_ _=>false) (λ_ _=>false) false PUnit.unit (λ_ _ _ _=>PUnit.unit) z)
 (λr o n w z=> @Z.rec (λ_=>Bool) (λ_=>PUnit) (λ_=>false) (λ_ _=>false) (λ_=>false) (λ_=>false) false (λr2 o2 n2 w2=>andB (Nat.beq r r2) (andB (Nat.beq o o2) (andB (Nat.beq n n2) (Nat.beq w w2)))) (λ_ _=>false) (λ_=>false) (λ_=>false) (λ_=>false) (λ_ _ _ _ _=>false) (λ_ _ _=>false) (λ_ _=>false) (λ_ _=>false) false PUnit.unit (λ_ _ _ _=>PUnit.unit) z)
 (λr j z=> @Z.rec (λ_=>Bool) (λ_=>PUnit) (λ_=>false) (λ_ _=>false) (λ_=>false) (λ_=>false) false (λ_ _ _ _=>false) (λr2 j2=>andB (Nat.beq r r2) (Nat.beq j j2)) (λ_=>false) (λ_=>false) (λ_=>false) (λ_ _ _ _ _=>false) (λ_ _ _=>false) (λ_ _=>false) (λ_ _=>false) false PUnit.unit (λ_ _ _ _=>PUnit.unit) z)
 (λr z=> @Z.rec (λ_=>Bool) (λ_=>PUnit) (λ_=>false) (λ_ _=>false) (λ_=>false) (λ_=>false) false (λ_ _ _ _=>false) (λ_ _=>false) (λr2=>Nat.beq r r2) (λ_=>false) (λ_=>false) (λ_ _ _ _ _=>false) (λ_ _ _=>false) (λ_ _=>false) (λ_ _=>false) false PUnit.unit (λ_ _ _ _=>PUnit.unit) z)
 (λr z=> @Z.rec (λ_=>Bool) (λ_=>PUnit) (λ_=>false) (λ_ _=>false) (λ_=>false) (λ_=>false) false (λ_ _ _ _=>false) (λ_ _=>false) (λ_=>false) (λr2=>Nat.beq r r2) (λ_=>false) (λ_ _ _ _ _=>false) (λ_ _ _=>false) (λ_ _=>false) (λ_ _=>false) false PUnit.unit (λ_ _ _ _=>PUnit.unit) z)
 (λr z=> @Z.rec (λ_=>Bool) (λ_=>PUnit) (λ_=>false) (λ_ _=>false) (λ_=>false) (λ_=>false) false (λ_ _ _ _=>false) (λ_ _=>false) (λ_=>false) (λ_=>false) (λr2=>Nat.beq r r2) (λ_ _ _ _ _=>false) (λ_ _ _=>false) (λ_ _=>false) (λ_ _=>false) false PUnit.unit (λ_ _ _ _=>PUnit.unit) z)
 (λf _ _ ia ib z=> @Z.rec (λ_=>Bool) (λ_=>PUnit) (λ_=>false) (λ_ _=>false) (λ_=>false) (λ_=>false) false (λ_ _ _ _=>false) (λ_ _=>false) (λ_=>false) (λ_=>false) (λ_=>false) (λf2 a2 b2 _ _=>andB (Nat.beq f f2) (andB (ia a2) (ib b2))) (λ_ _ _=>false) (λ_ _=>false) (λ_ _=>false) false PUnit.unit (λ_ _ _ _=>PUnit.unit) z)
 (λT _ ih z=> @Z.rec (λ_=>Bool) (λ_=>PUnit) (λ_=>false) (λ_ _=>false) (λ_=>false) (λ_=>false) false (λ_ _ _ _=>false) (λ_ _=>false) (λ_=>false) (λ_=>false) (λ_=>false) (λ_ _ _ _ _=>false) (λT2 x2 _=>andB (Nat.beq T T2) (ih x2)) (λ_ _=>false) (λ_ _=>false) false PUnit.unit (λ_ _ _ _=>PUnit.unit) z)
 (λ_ ih z=> @Z.rec (λ_=>Bool) (λ_=>PUnit) (λ_=>false) (λ_ _=>false) (λ_=>false) (λ_=>false) false (λ_ _ _ _=>false) (λ_ _=>false) (λ_=>false) (λ_=>false) (λ_=>false) (λ_ _ _ _ _=>false) (λ_ _ _=>false) (λcs _=>ih cs) (λ_ _=>false) false PUnit.unit (λ_ _ _ _=>PUnit.unit) z)
 (λ_ ih z=> @Z.rec (λ_=>Bool) (λ_=>PUnit) (λ_=>false) (λ_ _=>false) (λ_=>false) (λ_=>false) false (λ_ _ _ _=>false) (λ_ _=>false) (λ_=>false) (λ_=>false) (λ_=>false) (λ_ _ _ _ _=>false) (λ_ _ _=>false) (λ_ _=>false) (λcs _=>ih cs) false PUnit.unit (λ_ _ _ _=>PUnit.unit) z)
 (λz=> @Z.rec (λ_=>Bool) (λ_=>PUnit) (λ_=>false) (λ_ _=>false) (λ_=>false) (λ_=>false) false (λ_ _ _ _=>false) (λ_ _=>false) (λ_=>false) (λ_=>false) (λ_=>false) (λ_ _ _ _ _=>false) (λ_ _ _=>false) (λ_ _=>false) (λ_ _=>false) true PUnit.unit (λ_ _ _ _=>PUnit.unit) z)
 (λl=> @List.rec Z (λ_=>Bool) true (λ_ _ _=>false) l)
 (λ_ _ ix il l=> @List.rec Z (λ_=>Bool) false (λy ys _=>andB (ix y) (il ys)) l) a
noncomputable def eqZs (a:List Z):List Z->Bool:= @Z.rec_1 (λ_=>Z->Bool) (λ_=>List Z->Bool) (λx z=> @Z.rec (λ_=>Bool) (λ_=>PUnit) (λy=>eqB x y) (λ_ _=>false) (λ_=>false) (λ_=>false) false (λ_ _ _ _=>false) (λ_ _=>false) (λ_=>false) (λ_=>false) (λ_=>false) (λ_ _ _ _ _=>false) (λ_ _ _=>false) (λ_ _=>false) (λ_ _=>false) false PUnit.unit (λ_ _ _ _=>PUnit.unit) z)
 (λk n z=> @Z.rec (λ_=>Bool) (λ_=>PUnit) (λ_=>false) (λk2 n2=>andB (Nat.beq (kc k) (kc k2)) (eqI n n2)) (λ_=>false) (λ_=>false) false (λ_ _ _ _=>false) (λ_ _=>false) (λ_=>false) (λ_=>false) (λ_=>false) (λ_ _ _ _ _=>false) (λ_ _ _=>false) (λ_ _=>false) (λ_ _=>false) false PUnit.unit (λ_ _ _ _=>PUnit.unit) z)
 (λx z=> @Z.rec (λ_=>Bool) (λ_=>PUnit) (λ_=>false) (λ_ _=>false) (λy=>eqBs x.data.toList y.data.toList) (λ_=>false) false (λ_ _ _ _=>false) (λ_ _=>false) (λ_=>false) (λ_=>false) (λ_=>false) (λ_ _ _ _ _=>false) (λ_ _ _=>false) (λ_ _=>false) (λ_ _=>false) false PUnit.unit (λ_ _ _ _=>PUnit.unit) z)
 (λx z=> @Z.rec (λ_=>Bool) (λ_=>PUnit) (λ_=>false) (λ_ _=>false) (λ_=>false) (λy=>Nat.beq (nc x) (nc y)) false (λ_ _ _ _=>false) (λ_ _=>false) (λ_=>false) (λ_=>false) (λ_=>false) (λ_ _ _ _ _=>false) (λ_ _ _=>false) (λ_ _=>false) (λ_ _=>false) false PUnit.unit (λ_ _ _ _=>PUnit.unit) z)
 (λz=> @Z.rec (λ_=>Bool) (λ_=>PUnit) (λ_=>false) (λ_ _=>false) (λ_=>false) (λ_=>false) true (λ_ _ _ _=>false) (λ_ _=>false) (λ_=>false) (λ_=>false) (λ_=>false) (λ_ _ _ _ _=>false) (λ_ _ _=>false) (λ_ _=>false) (λ_ _=>false) false PUnit.unit (λ_ _ _ _=>PUnit.unit) z)
 (λr o n w z=> @Z.rec (λ_=>Bool) (λ_=>PUnit) (λ_=>false) (λ_ _=>false) (λ_=>false) (λ_=>false) false (λr2 o2 n2 w2=>andB (Nat.beq r r2) (andB (Nat.beq o o2) (andB (Nat.beq n n2) (Nat.beq w w2)))) (λ_ _=>false) (λ_=>false) (λ_=>false) (λ_=>false) (λ_ _ _ _ _=>false) (λ_ _ _=>false) (λ_ _=>false) (λ_ _=>false) false PUnit.unit (λ_ _ _ _=>PUnit.unit) z)
 (λr j z=> @Z.rec (λ_=>Bool) (λ_=>PUnit) (λ_=>false) (λ_ _=>false) (λ_=>false) (λ_=>false) false (λ_ _ _ _=>false) (λr2 j2=>andB (Nat.beq r r2) (Nat.beq j j2)) (λ_=>false) (λ_=>false) (λ_=>false) (λ_ _ _ _ _=>false) (λ_ _ _=>false) (λ_ _=>false) (λ_ _=>false) false PUnit.unit (λ_ _ _ _=>PUnit.unit) z)
 (λr z=> @Z.rec (λ_=>Bool) (λ_=>PUnit) (λ_=>false) (λ_ _=>false) (λ_=>false) (λ_=>false) false (λ_ _ _ _=>false) (λ_ _=>false) (λr2=>Nat.beq r r2) (λ_=>false) (λ_=>false) (λ_ _ _ _ _=>false) (λ_ _ _=>false) (λ_ _=>false) (λ_ _=>false) false PUnit.unit (λ_ _ _ _=>PUnit.unit) z)
 (λr z=> @Z.rec (λ_=>Bool) (λ_=>PUnit) (λ_=>false) (λ_ _=>false) (λ_=>false) (λ_=>false) false (λ_ _ _ _=>false) (λ_ _=>false) (λ_=>false) (λr2=>Nat.beq r r2) (λ_=>false) (λ_ _ _ _ _=>false) (λ_ _ _=>false) (λ_ _=>false) (λ_ _=>false) false PUnit.unit (λ_ _ _ _=>PUnit.unit) z)
 (λr z=> @Z.rec (λ_=>Bool) (λ_=>PUnit) (λ_=>false) (λ_ _=>false) (λ_=>false) (λ_=>false) false (λ_ _ _ _=>false) (λ_ _=>false) (λ_=>false) (λ_=>false) (λr2=>Nat.beq r r2) (λ_ _ _ _ _=>false) (λ_ _ _=>false) (λ_ _=>false) (λ_ _=>false) false PUnit.unit (λ_ _ _ _=>PUnit.unit) z)
 (λf _ _ ia ib z=> @Z.rec (λ_=>Bool) (λ_=>PUnit) (λ_=>false) (λ_ _=>false) (λ_=>false) (λ_=>false) false (λ_ _ _ _=>false) (λ_ _=>false) (λ_=>false) (λ_=>false) (λ_=>false) (λf2 a2 b2 _ _=>andB (Nat.beq f f2) (andB (ia a2) (ib b2))) (λ_ _ _=>false) (λ_ _=>false) (λ_ _=>false) false PUnit.unit (λ_ _ _ _=>PUnit.unit) z)
 (λT _ ih z=> @Z.rec (λ_=>Bool) (λ_=>PUnit) (λ_=>false) (λ_ _=>false) (λ_=>false) (λ_=>false) false (λ_ _ _ _=>false) (λ_ _=>false) (λ_=>false) (λ_=>false) (λ_=>false) (λ_ _ _ _ _=>false) (λT2 x2 _=>andB (Nat.beq T T2) (ih x2)) (λ_ _=>false) (λ_ _=>false) false PUnit.unit (λ_ _ _ _=>PUnit.unit) z)
 (λ_ ih z=> @Z.rec (λ_=>Bool) (λ_=>PUnit) (λ_=>false) (λ_ _=>false) (λ_=>false) (λ_=>false) false (λ_ _ _ _=>false) (λ_ _=>false) (λ_=>false) (λ_=>false) (λ_=>false) (λ_ _ _ _ _=>false) (λ_ _ _=>false) (λcs _=>ih cs) (λ_ _=>false) false PUnit.unit (λ_ _ _ _=>PUnit.unit) z)
 (λ_ ih z=> @Z.rec (λ_=>Bool) (λ_=>PUnit) (λ_=>false) (λ_ _=>false) (λ_=>false) (λ_=>false) false (λ_ _ _ _=>false) (λ_ _=>false) (λ_=>false) (λ_=>false) (λ_=>false) (λ_ _ _ _ _=>false) (λ_ _ _=>false) (λ_ _=>false) (λcs _=>ih cs) false PUnit.unit (λ_ _ _ _=>PUnit.unit) z)
 (λz=> @Z.rec (λ_=>Bool) (λ_=>PUnit) (λ_=>false) (λ_ _=>false) (λ_=>false) (λ_=>false) false (λ_ _ _ _=>false) (λ_ _=>false) (λ_=>false) (λ_=>false) (λ_=>false) (λ_ _ _ _ _=>false) (λ_ _ _=>false) (λ_ _=>false) (λ_ _=>false) true PUnit.unit (λ_ _ _ _=>PUnit.unit) z)
 (λl=> @List.rec Z (λ_=>Bool) true (λ_ _ _=>false) l)
 (λ_ _ ix il l=> @List.rec Z (λ_=>Bool) false (λy ys _=>andB (ix y) (il ys)) l) a
noncomputable def renK (ρ:Nat->(Nat->RR)->RR) (z:Z):(Z->RR)->RR:= @Z.rec (λ_=>(Z->RR)->RR) (λ_=>(List Z->RR)->RR) (λx f=>f (.b x))
 (λk n f=>f (.i k n))
 (λx f=>f (.s x))
 (λx f=>f (.nul x))
 (λf=>f .nil)
 (λr o n w f=>ρ r λr=>f (.sl r o n w))
 (λr j f=>ρ r λr=>f (.ptr r j))
 (λr f=>ρ r λr=>f (.mp r))
 (λr f=>ρ r λr=>f (.it r))
 (λr f=>ρ r λr=>f (.yl r))
 (λi _ _ ix iy f=>ix λx=>iy λy=>f (.clo i x y))
 (λT _ ih f=>ih λx=>f (.ifc T x))
 (λ_ ih f=>ih λx=>f (.agg x))
 (λ_ ih f=>ih λx=>f (.tup x))
 (λf=>f .any)
 (λf=>f [])
 (λ_ _ ix il f=>ix λx=>il λl=>f (.cons x l)) z
noncomputable def renKs (ρ:Nat->(Nat->RR)->RR) (z:List Z):(List Z->RR)->RR:= @Z.rec_1 (λ_=>(Z->RR)->RR) (λ_=>(List Z->RR)->RR) (λx f=>f (.b x))
 (λk n f=>f (.i k n))
 (λx f=>f (.s x))
 (λx f=>f (.nul x))
 (λf=>f .nil)
 (λr o n w f=>ρ r λr=>f (.sl r o n w))
 (λr j f=>ρ r λr=>f (.ptr r j))
 (λr f=>ρ r λr=>f (.mp r))
 (λr f=>ρ r λr=>f (.it r))
 (λr f=>ρ r λr=>f (.yl r))
 (λi _ _ ix iy f=>ix λx=>iy λy=>f (.clo i x y))
 (λT _ ih f=>ih λx=>f (.ifc T x))
 (λ_ ih f=>ih λx=>f (.agg x))
 (λ_ ih f=>ih λx=>f (.tup x))
 (λf=>f .any)
 (λf=>f [])
 (λ_ _ ix il f=>ix λx=>il λl=>f (.cons x l)) z
/-- All that a value names, by v. -/
noncomputable def refZ (v:Nat->List Nat->List Nat) (z:Z):List Nat->List Nat:= @Z.rec (λ_=>List Nat->List Nat) (λ_=>List Nat->List Nat) (λ_=>λl=>l)
 (λ_ _=>λl=>l)
 (λ_=>λl=>l)
 (λ_=>λl=>l)
 (λl=>l)
 (λr _ _ _ l=>v r l)
 (λr _ l=>v r l)
 (λr l=>v r l)
 (λr l=>v r l)
 (λr l=>v r l)
 (λ_ _ _ ix iy l=>iy (ix l))
 (λ_ _ ih l=>ih l)
 (λ_ ih l=>ih l)
 (λ_ ih l=>ih l)
 (λl=>l)
 (λl=>l)
 (λ_ _ ix il l=>il (ix l)) z

-- one operation, made ready
inductive FO where
 | mk (f:Stp)
noncomputable def g1 (x:SX) (f:Gt->FO):FO:= @GX.rec (λ_=>FO) f (gx x)
noncomputable def gd (d:Option Nat) (f:Pt->FO):FO:= @GP.rec (λ_=>FO) (.mk xBad) f (gp d)
noncomputable def gar (op:BinOp) (f:Ar->Sr->FO):FO:= @AS.rec (λ_=>FO) f (arS op)
abbrev SO1:=Option Nat->FO
noncomputable def fBad:SO1:=λ_=>.mk xBad
noncomputable def kMv (x:SX):SO1:=λd=>g1 x λx=>gd d λp=>.mk (xMv x p)
noncomputable def kPick (c x y:SX):SO1:=λd=>g1 c λc=>g1 x λx=>g1 y λy=>gd d λp=>.mk (xPick c x y p)
noncomputable def kBox (T:TypeId) (x:SX):SO1:=λd=>g1 x λx=>gd d λp=>.mk (xBox T x p)
noncomputable def kAlloc (T:TypeId) (zs:List V):SO1:=λd=>gd d λp=>.mk (xAlloc T (zs.map vz1) p)
noncomputable def kBuild (zs:List V) (ps:List (Nat × Nat × SX)):SO1:=λd=>gd d λp=>.mk (xBuild (zs.map vz1) (gps ps) p)
noncomputable def kMkSl (T:TypeId) (sz:Option Nat) (xs:List SX):SO1:=λd=>gd d λp=>.mk (xMkSl T sz (gxs xs) (lenG (gxs xs)) p)
noncomputable def kLoad (sz:Option Nat) (x:SX):SO1:=λd=>g1 x λx=>gd d λp=> @Option.rec Nat (λ_=>FO) (.mk (xLoad1 x p)) (λn=>.mk (xLoad n x p)) sz
noncomputable def kStore (sz:Option Nat) (x y:SX):SO1:=λd=>g1 x λx=>g1 y λy=>gd d λp=> @Option.rec Nat (λ_=>FO) (.mk (xStore1 x y p)) (λn=>.mk (xStore n x y p)) sz
noncomputable def kBin (op:BinOp) (x y:SX):SO1:=λd=>g1 x λx=>g1 y λy=>gd d λp=>gar op λa b=>.mk (xBin a b x y p)
noncomputable def kEqb (neg:Bool) (x y:SX):SO1:=λd=>g1 x λx=>g1 y λy=>gd d λp=>.mk (xEqb neg x y p)
noncomputable def kUn (op:UnOp) (x:SX):SO1:=λd=>g1 x λx=>gd d λp=> @UnOp.rec (λ_=>FO) (.mk (xNeg x p)) (.mk xBad) (.mk (xNot x p)) (.mk xBad) op
noncomputable def kConv (k:IntKind) (x:SX):SO1:=λd=>g1 x λx=>gd d λp=>.mk (xConv k x p)
noncomputable def kMkFn (f:FuncId) (cs:List SX):SO1:=λd=>gd d λp=>.mk (xMkFn f (gxs cs) p)
noncomputable def kMkB (f:FuncId) (x:SX):SO1:=λd=>g1 x λx=>gd d λp=>.mk (xMkB f x p)
noncomputable def kMake (T:TypeId) (sz:Option Nat) (z:V) (bytes:Nat) (l:SX):SO1:=λd=>g1 l λl=>gd d λp=>.mk (xMake T (widthK sz) (Z.cells (vz z)) bytes l p)
noncomputable def kSlice (sz:Option (Option Nat)) (x:SX) (lo hi:Option SX):SO1:=λd=>g1 x λx=>gd d λp=> @Option.rec (Option Nat) (λ_=>FO) (.mk (xSliceS x (bdL lo) (bdH hi) p)) (λsz=>.mk (xSlice (widthK sz) x (bdL lo) (bdH hi) p)) sz
noncomputable def kFAddr (off:Nat) (_:Option Nat) (x:SX):SO1:=λd=>g1 x λx=>gd d λp=>.mk (xFAddr off x p)
noncomputable def kField (off:Nat) (sz:Option Nat) (x:SX):SO1:=λd=>g1 x λx=>gd d λp=> @Option.rec Nat (λ_=>FO) (.mk (xField1 off x p)) (λn=>.mk (xField off n x p)) sz
noncomputable def kIdx (sz:Option Nat) (x i:SX):SO1:=λd=>g1 x λx=>g1 i λi=>gd d λp=>.mk (xIdx (widthK sz) x i p)
noncomputable def kIndex (x i:SX):SO1:=λd=>g1 x λx=>g1 i λi=>gd d λp=>.mk (xIndex x i p)
noncomputable def kExt (x:SX) (j:Nat):SO1:=λd=>g1 x λx=>gd d λp=>.mk (xExt x j p)
noncomputable def kChk (x:SX):SO1:=λd=>g1 x λx=>gd d λp=>.mk (xChk x p)
noncomputable def kCall (f:SX) (as:List SX):SO1:=λd=>g1 f λf=>gd d λp=>.mk (xCall f (gxs as) p)
noncomputable def kLen (str:Bool) (x:SX):SO1:=λd=>g1 x λx=>gd d λp=> @Bool.rec (λ_=>FO) (.mk (xLen x p)) (.mk (xLenS x p)) str
noncomputable def kAppend (T:TypeId) (sz:Option Nat) (bytes:Nat) (x y:SX):SO1:=λd=>g1 x λx=>g1 y λy=>gd d λp=>.mk (xAppend T (widthK sz) bytes x y p)
noncomputable def kCopy (sz:Option Nat) (x y:SX):SO1:=λd=>g1 x λx=>g1 y λy=>gd d λp=>.mk (xCopy (widthK sz) x y p)
noncomputable def kMm (mx:Bool) (x y:SX):SO1:=λd=>g1 x λx=>g1 y λy=>gd d λp=>.mk (xMm mx x y p)
noncomputable def kZ (z:Z):SO1:=λd=>gd d λp=>.mk (xK z p)
noncomputable def kIsNil (neg:Bool) (x:SX):SO1:=λd=>g1 x λx=>gd d λp=>.mk (xIsNil neg x p)
noncomputable def kIsNul (q:Nul) (neg:Bool) (x:SX):SO1:=λd=>g1 x λx=>gd d λp=>.mk (xIsNul q neg x p)
noncomputable def kMkI (T:TypeId) (x:SX):SO1:=λd=>g1 x λx=>gd d λp=>.mk (xMkI T x p)
noncomputable def kIdxA (n:Nat) (x i:SX):SO1:=λd=>g1 x λx=>g1 i λi=>gd d λp=>.mk (xIdxA n x i p)
noncomputable def kSliceA (n:Nat) (x:SX) (lo hi:Option SX):SO1:=λd=>g1 x λx=>gd d λp=>.mk (xSliceA n x (bdL lo) (bdH hi) p)
noncomputable def kLoadA (n:Nat) (x:SX):SO1:=λd=>g1 x λx=>gd d λp=>.mk (xLoad n x p)
noncomputable def kStoreA (n:Nat) (x y:SX):SO1:=λd=>g1 x λx=>g1 y λy=>gd d λp=>.mk (xStore n x y p)
noncomputable def kIdxV (n:Nat) (x i:SX):SO1:=λd=>g1 x λx=>g1 i λi=>gd d λp=>.mk (xIdxV n x i p)
noncomputable def kso (o:SO):SO1:=
 @SO.rec (λ_=>SO1) kMv kPick kBox kAlloc kBuild kMkSl kLoad kStore kBin kEqb kUn kConv (λ_=>fBad) (λ_=>fBad) kMkFn kMkB kMake kSlice kFAddr kField kIdx kIndex kExt kChk kCall kLen kAppend (λ_ _ _ _ _ _=>fBad) kCopy kMm
  (λ_ _=>kZ .nil) kIsNil kIsNul kMkI kBuild kAlloc (λT _ x=>kBox T x) kIdxA kSliceA kLoadA kStoreA kIdxV (kZ (.nul .func)) fBad o
-- what is rare: reckoned by the operation's own definition, and forced
noncomputable def frcI (n:Int) (f:Int->RR):RR:= @Int.rec (λ_=>RR) (λn=>frc n λn=>f (.ofNat n)) (λn=>frc n λn=>f (.negSucc n)) n
noncomputable def frcB (b:Bool) (f:Bool->RR):RR:= @Bool.rec (λ_=>RR) (f false) (f true) b
noncomputable def frcS (l:List UInt8):(List UInt8->RR)->RR:= @List.rec UInt8 (λ_=>(List UInt8->RR)->RR) (λf=>f []) (λb _ ih f=>frc (u8n b) λn=>ih λl=>f (.cons (UInt8.ofNat n) l)) l
noncomputable def frcZ (z:Z):(Z->RR)->RR:= @Z.rec (λ_=>(Z->RR)->RR) (λ_=>(List Z->RR)->RR) (λx f=>frcB x λx=>f (.b x)) (λk n f=>frcI n λn=>f (.i k n)) (λx f=>frcS x.data.toList λl=>f (.s (mkS l)))
 (λx f=>f (.nul x)) (λf=>f .nil) (λr o n w f=>frc r λr=>frc o λo=>frc n λn=>frc w λw=>f (.sl r o n w)) (λr j f=>frc r λr=>frc j λj=>f (.ptr r j)) (λr f=>frc r λr=>f (.mp r)) (λr f=>frc r λr=>f (.it r)) (λr f=>frc r λr=>f (.yl r))
 (λi _ _ ix iy f=>ix λx=>iy λy=>f (.clo i x y)) (λT _ ih f=>ih λx=>f (.ifc T x)) (λ_ ih f=>ih λx=>f (.agg x)) (λ_ ih f=>ih λx=>f (.tup x)) (λf=>f .any) (λf=>f []) (λ_ _ ix il f=>ix λx=>il λl=>f (.cons x l)) z
noncomputable def frcZs (l:List Z):(List Z->RR)->RR:= @List.rec Z (λ_=>(List Z->RR)->RR) (λf=>f []) (λz _ ih f=>frcZ z λz=>ih λl=>f (.cons z l)) l
noncomputable def frcEs (l:List (Z × Z × Nat)):(List (Z × Z × Nat)->RR)->RR:= @List.rec (Z × Z × Nat) (λ_=>(List (Z × Z × Nat)->RR)->RR) (λf=>f []) (λe _ ih f=>frcZ e.1 λk=>frcZ e.2.1 λv=>frc e.2.2 λb=>ih λl=>f (.cons (k,v,b) l)) l
noncomputable def frcNs (l:List Nat):(List Nat->RR)->RR:= @List.rec Nat (λ_=>(List Nat->RR)->RR) (λf=>f []) (λn _ ih f=>frc n λn=>ih λl=>f (.cons n l)) l
noncomputable def frcO (o:ZO) (f:ZO->RR):RR:= @ZO.rec (λ_=>RR) (λT fx cs=>frcB fx λfx=>frcZs cs λcs=>f (.ob T fx cs)) (λes c=>frcEs es λes=>frc c λc=>f (.mp es c))
 (λm a b c=> @Option.rec Nat (λ_=>RR) (frc a λa=>frcNs b λb=>frc c λc=>f (.it none a b c)) (λr=>frc r λr=>frc a λa=>frcNs b λb=>frc c λc=>f (.it (some r) a b c)) m) (λc σ st=>frcZs σ λσ=>f (.lp c σ st)) o
noncomputable def appD (δ:ZD) (m:Mem) (f:Mem->RR):RR:= @ZD.rec (λ_=>RR) (f m) (λo=>frcO o λo=>mnew o m λ_ m=>f m) (λr o=>frc r λr=>frcO o λo=>msetK r (some o) m f)
 (λr o=>frc r λr=>frcO o λo=>msetK r none m λm=>mnew o m λ_ m=>f m) (λr=>frc r λr=>msetK r none m f) δ
noncomputable def eqEs (a:List (Z × Z × Nat)):List (Z × Z × Nat)->Bool:= @List.rec (Z × Z × Nat) (λ_=>List (Z × Z × Nat)->Bool) (λb=> @List.rec (Z × Z × Nat) (λ_=>Bool) true (λ_ _ _=>false) b) (λx _ ih b=> @List.rec (Z × Z × Nat) (λ_=>Bool) false (λy t _=>andB (eqZ x.1 y.1) (andB (eqZ x.2.1 y.2.1) (andB (Nat.beq x.2.2 y.2.2) (ih t)))) b) a
noncomputable def eqO (a b:ZO):Bool:= @ZO.rec (λ_=>Bool) (λT fx cs=> @ZO.rec (λ_=>Bool) (λT2 fx2 cs2=>andB (Nat.beq T T2) (andB (eqB fx fx2) (eqZs cs cs2))) (λ_ _=>false) (λ_ _ _ _=>false) (λ_ _ _=>false) b)
 (λes c=> @ZO.rec (λ_=>Bool) (λ_ _ _=>false) (λes2 c2=>andB (eqEs es es2) (Nat.beq c c2)) (λ_ _ _ _=>false) (λ_ _ _=>false) b) (λ_ _ _ _=>false) (λ_ _ _=>false) a
noncomputable def eqOo (a b:Option ZO):Bool:= @Option.rec ZO (λ_=>Bool) (@Option.rec ZO (λ_=>Bool) true (λ_=>false) b) (λx=> @Option.rec ZO (λ_=>Bool) false (λy=>eqO x y) b) a
noncomputable def eqUps (a:List (Nat × Option ZO)):List (Nat × Option ZO)->Bool:= @List.rec (Nat × Option ZO) (λ_=>List (Nat × Option ZO)->Bool) (λb=> @List.rec (Nat × Option ZO) (λ_=>Bool) true (λ_ _ _=>false) b) (λx _ ih b=> @List.rec (Nat × Option ZO) (λ_=>Bool) false (λy t _=>andB (Nat.beq x.1 y.1) (andB (eqOo x.2 y.2) (ih t))) b) a
noncomputable def eqOs (a:List ZO):List ZO->Bool:= @List.rec ZO (λ_=>List ZO->Bool) (λb=> @List.rec ZO (λ_=>Bool) true (λ_ _ _=>false) b) (λx _ ih b=> @List.rec ZO (λ_=>Bool) false (λy t _=>andB (eqO x y) (ih t)) b) a
noncomputable def eqRR (a b:RR):Bool:= @RR.rec (λ_=>Bool) false (λz u n=> @RR.rec (λ_=>Bool) false (λz2 u2 n2=>andB (eqZs z z2) (andB (eqUps u u2) (eqOs n n2))) (λ_ _=>false) b) (λ_ _=>false) a
noncomputable def allK (y:RR) (f:Z->ZD->RR) (l:List (Z × ZD)):RR:= @List.rec (Z × ZD) (λ_=>RR) y (λr _ ih=> @Bool.rec (λ_=>RR) .bad ih (eqRR (f r.1 r.2) y)) l
noncomputable def altK (l:Option (List (Z × ZD))) (f:Z->ZD->RR):RR:= @Option.rec (List (Z × ZD)) (λ_=>RR) .bad (λl=> @List.rec (Z × ZD) (λ_=>RR) .bad (λr t _=>allK (f r.1 r.2) f t) l) l
noncomputable def evK (s:SL) (x:SX):Z:= @GX.rec (λ_=>Z) (λg=>g s) (gx x)
noncomputable def xNew (x:XN) (p:Pt):Stp:=λk s m c=>altK (xalt (evK s) (mabs m) m.nx x) λz δ=>frcZ z λz=>appD δ m λm=>k (p z s) m c
noncomputable def kNew (x:XN):SO1:=λd=>gd d λp=>.mk (xNew x p)
noncomputable def panK (z:Z) (f:Z->RR):RR:= @Option.rec Value (λ_=>RR) .bad (λ_=>frcZ z f) (zcv z)
noncomputable def xPan (x:Gt):Stp:=λk s m c=>panK (x s) λv=>callP c s m v
noncomputable def kPan (x:SX):SO1:=λ_=>g1 x λx=>.mk (xPan x)
noncomputable def kxo (o:XO):SO1:= @XO.rec (λ_=>SO1) kso kNew kPan fBad o
noncomputable def xGuard (g:Gt) (w:Bool) (f:Stp) (p:Pt):Stp:=λk s m c=>zG (g s) w (f (λs m _=>k s m c) s m (noP c)) (k (p (.tup []) s) m c)
noncomputable def kop (o:XOp):FO:=
 @XOp.rec (λ_=>FO) (λd o g=> @Option.rec (Nat × Bool) (λ_=>FO) (kxo o d) (λg=> @Prod.rec Nat Bool (λ_=>FO) (λg w=> @FO.rec (λ_=>FO) (λf=>g1 (.t g) λg=>gd d λp=>.mk (xGuard g w f p)) (kxo o d)) g) g) o
-- a region in its text's order
inductive FL where
 | nil
 | cons (f:Stp) (t:FL)
noncomputable def kops (ops:List XOp):FL:= @List.rec XOp (λ_=>FL) .nil (λo _ ih=> @FO.rec (λ_=>FL) (λf=>.cons f ih) (kop o)) ops
noncomputable def run (k:Kont) (l:FL):Kont:= @FL.rec (λ_=>Kont) k (λf _ ih=>f ih) l
-- a region that is drawn: what reads is held against the heaps at which it may stand
/-- 0: neither reads memory nor turns it; 1: reads; 2: turns; 3: not here. -/
noncomputable def soKind (o:SO):Nat:=
 @SO.rec (λ_=>Nat) (λ_=>0) (λ_ _ _=>0) (λ_ _=>2) (λ_ _=>2) (λ_ _=>0) (λ_ _ _=>2) (λ_ _=>1) (λ_ _ _=>2) (λ_ _ _=>0) (λ_ _ _=>0) (λ_ _=>0) (λ_ _=>0) (λ_=>3) (λ_=>3) (λ_ _=>0) (λ_ _=>0) (λ_ _ _ _ _=>2) (λ_ _ _ _=>1)
  (λ_ _ _=>0) (λ_ _ _=>0) (λ_ _ _=>0) (λ_ _=>0) (λ_ _=>0) (λ_=>0) (λ_ _=>2) (λ_ _=>0) (λ_ _ _ _ _=>2) (λ_ _ _ _ _ _=>3) (λ_ _ _=>2) (λ_ _ _=>0) (λ_ _=>0) (λ_ _=>0) (λ_ _ _=>0) (λ_ _=>0) (λ_ _=>0) (λ_ _=>2) (λ_ _ _=>2) (λ_ _ _=>0)
  (λ_ _ _ _=>1) (λ_ _=>1) (λ_ _ _=>2) (λ_ _ _=>0) 0 3 o
noncomputable def xKind (o:XO):Nat:= @XO.rec (λ_=>Nat) soKind XN.kind (λ_=>3) 3 o
/-- An operation that makes a new object out of slots alone. -/
def isCreO:XO->Bool
 | .o (.box _ _) | .o (.boxA _ _ _) | .o (.alloc _ _) | .o (.allocA _ _) | .o (.mkSl _ _ _) | .o (.make _ _ _ _ _)=>true
 | .n .mkMap=>true
 | _=>false
def isCre (o:XOp):Bool:=o.guard.isNone && o.dst.isSome && isCreO o.op
/-- Its name's value and the object, under the name q. -/
def creZ (ev:SX->Z) (q:Nat):XO->Option (Z × ZD)
 | .o so=>zop ev (λ_=>none) q so
 | .n x=>nop1 ev (λ_=>none) q x
 | .pan _=>none
 | .bad=>none
def isCallG (o:XOp):Bool:=o.guard.isSome && (match o.op with | .o (.call _ _)=>true | _=>false)
inductive DL where
 | nil
 | pure (f:Stp) (t:DL)
 | rd (f:Stp) (g:Gt) (hid:List Nat) (mask:List Bool) (t:DL)
 | ch (f:Stp) (hid:List Nat) (mask:List Bool) (t:DL)
 | cre (x:XO) (p:Pt) (i:Nat) (t:DL)
 | bad
noncomputable def unordB (a:Nat) (i:Nat):Bool:=notB (Nat.testBit a i)
noncomputable def allB (l:List Bool):Bool:= @List.rec Bool (λ_=>Bool) true (λb _ ih=>andB b ih) l
noncomputable def headD (l:List Nat):Nat:= @List.rec Nat (λ_=>Nat) 0 (λa _ _=>a) l
noncomputable def tailD (l:List Nat):List Nat:= @List.rec Nat (λ_=>List Nat) [] (λ_ t _=>t) l
noncomputable def natK {α:Type} (n:Nat) (a b c d:α):α:= @Nat.rec (λ_=>α) a (λn _=> @Nat.rec (λ_=>α) b (λn _=> @Nat.rec (λ_=>α) c (λ_ _=>d) n) n) n
/-- Those of l that no edge ties. -/
noncomputable def unordL (a:Nat) (l:List Nat):List Nat:= @List.rec Nat (λ_=>List Nat) [] (λi _ ih=> @Bool.rec (λ_=>List Nat) (.cons i ih) ih (Nat.testBit a i)) l
noncomputable def creL (ops:List XOp):Nat->List Nat:= @List.rec XOp (λ_=>Nat->List Nat) (λ_=>[]) (λo _ ih i=> @Bool.rec (λ_=>List Nat) (ih (Nat.succ i)) (.cons i (ih (Nat.succ i))) (isCre o)) ops
/-- i: the place; rs, cs: the places of what has read, what has turned, the last first; all: of what makes an object under a name that is kept for it. -/
noncomputable def kopsD (lz:Bool) (all:List Nat) (ops:List XOp):List Nat->Nat->List Nat->List Nat->DL:=
 @List.rec XOp (λ_=>List Nat->Nat->List Nat->List Nat->DL) (λ_ _ _ _=>.nil) (λo _ ih anc i rs cs=> @Bool.rec (λ_=>DL) (@FO.rec (λ_=>DL) (λf=>
  natK (xKind o.op) (.pure f (ih (tailD anc) (Nat.succ i) rs cs))
   (@Option.rec Nat (λ_=>DL) .bad (λd=> @GX.rec (λ_=>DL) (λg=>.rd f g (unordL (headD anc) all) (cs.map λc=>unordB (headD anc) c) (ih (tailD anc) (Nat.succ i) (.cons i rs) cs)) (gx (.t d))) o.dst)
   (@Bool.rec (λ_=>DL) .bad (.ch f (unordL (headD anc) all) (rs.map λr=>unordB (headD anc) r) (ih (tailD anc) (Nat.succ i) rs (.cons i cs))) (andB (allB (cs.map λc=>Nat.testBit (headD anc) c)) (notB (andB lz (isCallG o)))))
   .bad) (kop o)) (@GP.rec (λ_=>DL) .bad (λp=>.cre o.op p i (ih (tailD anc) (Nat.succ i) rs cs)) (gp o.dst)) (andB lz (isCre o))) ops
noncomputable def badD (l:DL):Bool:= @DL.rec (λ_=>Bool) false (λ_ _ ih=>ih) (λ_ _ _ _ _ ih=>ih) (λ_ _ _ _ ih=>ih) (λ_ _ _ _ ih=>ih) true l
inductive QL where
 | nil
 | cons (f:Mem->RR->RR) (t:QL)
noncomputable def chkQ (mask:List Bool):QL->Mem->RR->RR:= @List.rec Bool (λ_=>QL->Mem->RR->RR) (λ_ _ r=>r) (λb _ ih q m r=> @QL.rec (λ_=>RR) .bad (λf t _=> @Bool.rec (λ_=>RR) (ih t m r) (f m (ih t m r)) b) q) mask
noncomputable def chkM (mask:List Bool) (f:Mem->RR->RR):List Mem->RR->RR:= @List.rec Bool (λ_=>List Mem->RR->RR) (λ_ r=>r) (λb _ ih l r=> @List.rec Mem (λ_=>RR) .bad (λm t _=> @Bool.rec (λ_=>RR) (ih t r) (f m (ih t r)) b) l) mask
/-- Objects hidden, and shown again. -/
noncomputable def mraw (r:Nat) (o:Option ZO) (m:Mem):Mem:= @Mem.rec (λ_=>Mem) (λh nx nb dt=>.mk (hput r o h) nx nb dt) m
noncomputable def hideM (n0:Nat) (l:List Nat):Mem->Mem:= @List.rec Nat (λ_=>Mem->Mem) (λm=>m) (λi _ ih m=>mraw (Nat.add n0 i) none (ih m)) l
noncomputable def showM (n0:Nat) (l:List Nat) (m0:Mem):Mem->Mem:= @List.rec Nat (λ_=>Mem->Mem) (λm=>m) (λi _ ih m=>mraw (Nat.add n0 i) (mget (Nat.add n0 i) m0) (ih m)) l
noncomputable def okZb (p:Nat->Bool) (z:Z):Bool:= @Z.rec (λ_=>Bool) (λ_=>Bool) (λ_=>true)
 (λ_ _=>true)
 (λ_=>true)
 (λ_=>true)
 (true)
 (λr _ _ _=>p r)
 (λr _=>p r)
 (λr=>p r)
 (λr=>p r)
 (λr=>p r)
 (λ_ _ _ ix iy=>andB ix iy)
 (λ_ _ ih=>ih)
 (λ_ ih=>ih)
 (λ_ ih=>ih)
 (true)
 true
 (λ_ _ ix il=>andB ix il) z
noncomputable def okZsb (p:Nat->Bool) (z:List Z):Bool:= @Z.rec_1 (λ_=>Bool) (λ_=>Bool) (λ_=>true)
 (λ_ _=>true)
 (λ_=>true)
 (λ_=>true)
 (true)
 (λr _ _ _=>p r)
 (λr _=>p r)
 (λr=>p r)
 (λr=>p r)
 (λr=>p r)
 (λ_ _ _ ix iy=>andB ix iy)
 (λ_ _ ih=>ih)
 (λ_ ih=>ih)
 (λ_ ih=>ih)
 (true)
 true
 (λ_ _ ix il=>andB ix il) z
noncomputable def okEsb (p:Nat->Bool) (l:List (Z × Z × Nat)):Bool:= @List.rec (Z × Z × Nat) (λ_=>Bool) true (λe _ ih=>andB (okZb p e.1) (andB (okZb p e.2.1) ih)) l
noncomputable def okOb (p:Nat->Bool) (o:ZO):Bool:= @ZO.rec (λ_=>Bool) (λ_ _ cs=>okZsb p cs) (λes _=>okEsb p es) (λm _ _ _=> @Option.rec Nat (λ_=>Bool) true p m) (λ_ σ _=>okZsb p σ) o
noncomputable def okUps (p:Nat->Bool) (l:List (Nat × Option ZO)):Bool:= @List.rec (Nat × Option ZO) (λ_=>Bool) true (λe _ ih=>andB (@Option.rec ZO (λ_=>Bool) true (okOb p) e.2) ih) l
noncomputable def okOs (p:Nat->Bool) (l:List ZO):Bool:= @List.rec ZO (λ_=>Bool) true (λe _ ih=>andB (okOb p e) ih) l
noncomputable def notIn (n0:Nat) (l:List Nat) (r:Nat):Bool:= @List.rec Nat (λ_=>Bool) true (λi _ ih=> @Bool.rec (λ_=>Bool) ih false (Nat.beq (Nat.add n0 i) r)) l
noncomputable def guardR (n0:Nat) (l:List Nat) (r:RR):RR:= @RR.rec (λ_=>RR) .bad (λzs ups news=> @Bool.rec (λ_=>RR) .bad (.ok zs ups news) (andB (okZsb (notIn n0 l) zs) (andB (okUps (notIn n0 l) ups) (okOs (notIn n0 l) news)))) (λ_ _=>.bad) r
/-- Calls whose answers name nothing of n0 + l. -/
noncomputable def guardK (n0:Nat) (l:List Nat) (c:CallK):CallK:= @List.rec Nat (λ_=>CallK) (noP c) (λ_ _ _=> @CallK.rec (λ_=>CallK) (λy g _ d=>.mk (λq m as=>guardR n0 l (y q m as)) (λy' id m as=>guardR n0 l (g y' id m as)) (λ_ _ _ _=>.bad) d) c) l
noncomputable def creK (l:Option (Z × ZD)) (f:Z->ZO->RR):RR:= @Option.rec (Z × ZD) (λ_=>RR) .bad (λr=> @Prod.rec Z ZD (λ_=>RR) (λz δ=> @ZD.rec (λ_=>RR) .bad (λo=>frcZ z λz=>frcO o λo=>f z o) (λ_ _=>.bad) (λ_ _=>.bad) (λ_=>.bad) δ) r) l
noncomputable def again (n0:Nat) (hid:List Nat) (f:Stp) (g:Gt) (z:Z) (s:SL) (c:CallK):Mem->RR->RR:=λm r=>f (λs' _ _=> @Bool.rec (λ_=>RR) .bad r (eqZ (g s') z)) s (hideM n0 hid m) (noP c)
noncomputable def runD (n0:Nat) (k:Kont) (l:DL):QL->List Mem->Kont:= @DL.rec (λ_=>QL->List Mem->Kont) (λ_ _=>k)
 (λf _ ih q M s m c=>f (λs1 m1 _=>ih q M s1 m1 c) s m (noP c))
 (λf g hid mask _ ih q M s m c=>f (λs1 _ _=>chkM mask (again n0 hid f g (g s1) s c) M (ih (.cons (again n0 hid f g (g s1) s c) q) M s1 m c)) s (hideM n0 hid m) (noP c))
 (λf hid mask _ ih q M s m c=>f (λs1 m1 _=>chkQ mask q (showM n0 hid m m1) (ih q (.cons m M) s1 (showM n0 hid m m1) c)) s (hideM n0 hid m) (guardK n0 hid c))
 (λx p i _ ih q M s m c=>creK (creZ (evK s) (Nat.add n0 i) x) λz o=>ih q M (p z s) (mraw (Nat.add n0 i) (.some o) m) c)
 (λ_ _ _ _ _=>.bad) l
/-- Names kept for what n operations may make. -/
noncomputable def keepM (n:Nat) (m:Mem) (k:Nat->Mem->RR):RR:= @Mem.rec (λ_=>RR) (λh nx nb dt=>frc nx λnx=>frc (Nat.add nx n) λnx'=> @Bool.rec (λ_=>RR) .bad (k nx (.mk h nx' nb dt)) (Nat.ble nx' 4096)) m
noncomputable def lenX (l:List XOp):Nat:= @List.rec XOp (λ_=>Nat) 0 (λ_ _ ih=>Nat.succ ih) l
-- code
inductive Ex where
 | nil (kr:Kont)
 | cons (id:Nat) (k:Kont) (e:Ex)
 | top (kr:Kont) (kx:Nat->Kont)
noncomputable def exk (e:Ex) (id:Nat):Kont:= @Ex.rec (λ_=>Kont) (λ_ _ _ _=>.bad) (λi k _ ih s m c=> @Bool.rec (λ_=>RR) (ih s m c) (k s m c) (Nat.beq i id)) (λ_ kx=>kx id) e
noncomputable def exr (e:Ex):Kont:= @Ex.rec (λ_=>Kont) (λk=>k) (λ_ _ _ ih=>ih) (λk _=>k) e
abbrev CK:=Ex->Kont->Kont
inductive FC where
 | mk (f:CK)
noncomputable def kSkip:CK:=λ_ k=>k
noncomputable def kSeq (a b:CK):CK:=λe k=>a e (b e k)
noncomputable def kReg (l:FL):CK:=λ_ k=>run k l
noncomputable def kRegD (l:DL):CK:=λ_ k=>runD 0 k l .nil []
noncomputable def kRegZ (n:Nat) (l:DL):CK:=λ_ k s m c=>keepM n m λn0 m=>runD n0 k l .nil [] s m c
noncomputable def kDrawn (anc:List Nat) (ops:List XOp):CK:= @Bool.rec (λ_=>CK) (kRegD (kopsD false [] ops anc 0 [] [])) (kRegZ (lenX ops) (kopsD true (creL ops 0) ops anc 0 [] [])) (badD (kopsD false [] ops anc 0 [] []))
noncomputable def kCond (t:Gt) (a b:CK):CK:=λe k s m c=>zBool (t s) λt=> @Bool.rec (λ_=>RR) (b e k s m c) (a e k s m c) t
noncomputable def kBlock (id:Nat) (b:CK):CK:=λe k=>b (.cons id k e) k
noncomputable def kLoop (fuel:Nat) (b:CK):CK:=λe _=> @Nat.rec (λ_=>Kont) (λ_ _ _=>.bad) (λ_ ih=>b e ih) fuel
noncomputable def kExit (id:Nat):CK:=λe _ s m c=>exk e id s m c
noncomputable def kRet:CK:=λe _ s m c=>exr e s m c
-- a call's end
noncomputable def retsK (rs:List SRes) (s:SL) (m:Mem):(List Z->RR)->RR:= @List.rec SRes (λ_=>(List Z->RR)->RR) (λf=>f [])
 (λr _ ih f=> @SRes.rec (λ_=>RR) (λt=> @GX.rec (λ_=>RR) (λg=>ih λl=>f (.cons (g s) l)) (gx (.t t)))
  (λt sz=> @GX.rec (λ_ => RR) (λg => zPtr (g s) λr j => oOb (mget r m) λ_ _ cs => @Option.rec Nat (λ_=>RR) (nthK cs j λz=>ih λl=>f (.cons z l)) (λn=>subK cs j n λz=>ih λl=>f (.cons (.agg z) l)) sz) (gx (.t t))) r) rs
/-- Where r stands in l, from i on. -/
noncomputable def posK (l:List Nat) (r:Nat) (f:Nat->RR):Nat->RR:= @List.rec Nat (λ_=>Nat->RR) (λ_=>.bad) (λx _ ih i=> @Bool.rec (λ_=>RR) (ih (Nat.succ i)) (frc i f) (Nat.beq x r)) l
noncomputable def newK (nb:Nat) (l:List Nat):Nat->(Nat->RR)->RR:=λr f=> @Bool.rec (λ_=>RR) (f r) (posK l r f nb) (Nat.ble nb r)
noncomputable def rensK (ρ:Nat->(Nat->RR)->RR) (l:List Z):(List Z->RR)->RR:= @List.rec Z (λ_=>(List Z->RR)->RR) (λf=>f []) (λz _ ih f=>renK ρ z λz=>ih λl=>f (.cons z l)) l
noncomputable def renEs (ρ:Nat->(Nat->RR)->RR) (l:List (Z × Z × Nat)):(List (Z × Z × Nat)->RR)->RR:= @List.rec (Z × Z × Nat) (λ_=>(List (Z × Z × Nat)->RR)->RR) (λf=>f [])
 (λe _ ih f=> @Prod.rec Z (Z × Nat) (λ_=>RR) (λk y=> @Prod.rec Z Nat (λ_=>RR) (λv b=>renK ρ k λk=>renK ρ v λv=>ih λl=>f (.cons (k,v,b) l)) y) e) l
noncomputable def renO (ρ:Nat->(Nat->RR)->RR) (o:ZO) (f:ZO->RR):RR:= @ZO.rec (λ_=>RR) (λT fx cs=>rensK ρ cs λcs=>f (.ob T fx cs)) (λes c=>renEs ρ es λes=>f (.mp es c))
 (λm a b c=> @Option.rec Nat (λ_=>RR) (f (.it none a b c)) (λr=>ρ r λr=>f (.it (some r) a b c)) m) (λc σ st=>rensK ρ σ λσ=>f (.lp c σ st)) o
noncomputable def upsR (ρ:Nat->(Nat->RR)->RR) (m:Mem) (dt:List Nat):(List (Nat × Option ZO)->RR)->RR:= @List.rec Nat (λ_=>(List (Nat × Option ZO)->RR)->RR) (λf=>f [])
 (λr _ ih f=> @Option.rec ZO (λ_=>RR) (ih λl=>f (.cons (r,none) l)) (λo=>renO ρ o λo=>ih λl=>f (.cons (r,some o) l)) (mget r m)) dt
noncomputable def newsR (ρ:Nat->(Nat->RR)->RR) (nb:Nat) (m:Mem) (l:List Nat):Nat->(List ZO->RR)->RR:= @List.rec Nat (λ_=>Nat->(List ZO->RR)->RR) (λ_ f=>f [])
 (λr _ ih i f=> @Bool.rec (λ_=>RR) .bad (ρ r λj=> @Bool.rec (λ_=>RR) .bad (@Option.rec ZO (λ_=>RR) .bad (λo=>renO ρ o λo=>ih (Nat.succ i) λl=>f (.cons o l)) (mget r m)) (Nat.beq j i)) (Nat.ble nb r)) l
/-- What is named from objects on: their names, as found. -/
noncomputable def snoc (l:List Nat) (r:Nat):List Nat:= @List.rec Nat (λ_=>List Nat) (.cons r .nil) (λx _ ih=>.cons x ih) l
noncomputable def refsO (v:Nat->List Nat->List Nat) (o:ZO) (l:List Nat):List Nat:= @ZO.rec (λ_=>List Nat) (λ_ _ cs=> @List.rec Z (λ_=>List Nat->List Nat) (λl=>l) (λz _ ih l=>ih (refZ v z l)) cs l)
 (λes _=> @List.rec (Z × Z × Nat) (λ_=>List Nat->List Nat) (λl=>l) (λe _ ih l=>ih (refZ v e.2.1 l)) es l) (λm _ _ _=> @Option.rec Nat (λ_=>List Nat) l (λr=>v r l) m) (λ_ σ _=> @List.rec Z (λ_=>List Nat->List Nat) (λl=>l) (λz _ ih l=>ih (refZ v z l)) σ l) o
noncomputable def visit (nb:Nat) (m:Mem) (fuel:Nat):Nat->List Nat->List Nat:= @Nat.rec (λ_=>Nat->List Nat->List Nat) (λ_ l=>l)
 (λ_ ih r l=> @Bool.rec (λ_=>List Nat) l (@Bool.rec (λ_=>List Nat) (@Option.rec ZO (λ_=>List Nat) l (λo=>refsO ih o (snoc l r)) (mget r m)) l (memN r l)) (Nat.ble nb r)) fuel
noncomputable def seen (nb:Nat) (m:Mem) (zs:List Z) (dt:List Nat):List Nat:=
 @List.rec Nat (λ_=>List Nat->List Nat) (λl=>l) (λr _ ih l=>ih (@Option.rec ZO (λ_=>List Nat) l (λo=>refsO (visit nb m 1000) o l) (mget r m))) dt (@List.rec Z (λ_=>List Nat->List Nat) (λl=>l) (λz _ ih l=>ih (refZ (visit nb m 1000) z l)) zs [])
/-- The names, reckoned out. -/
noncomputable def frcL (l:List Nat) (f:List Nat->RR):RR:= @List.rec Nat (λ_=>(List Nat->RR)->RR) (λf=>f []) (λr _ ih f=>ih λl=>f (.cons r l)) l f
noncomputable def fin0 (nb:Nat) (rs:List SRes) (s:SL) (m:Mem):RR:=retsK rs s m λzs=> @Mem.rec (λ_=>RR) (λ_ _ _ dt=>frcL (seen nb m zs dt) λl=>rensK (newK nb l) zs λzs=>upsR (newK nb l) m dt λups=>newsR (newK nb l) nb m l nb λnews=>.ok zs ups news) m
noncomputable def fillS (zs:List Z):Nat->SL->SL:= @List.rec Z (λ_=>Nat->SL->SL) (λ_ s=>s) (λz _ ih n s=>ih (Nat.succ n) (sput n z s)) zs
-- rounds of a range over a function
noncomputable def lpK (o:Option ZO) (f:LC->List Z->LS->RR):RR:= @Option.rec ZO (λ_=>RR) .bad (λo=> @ZO.rec (λ_=>RR) (λ_ _ _=>.bad) (λ_ _=>.bad) (λ_ _ _ _=>.bad) f o) o
noncomputable def cleanK (c:CallK) (r:RR):RR:= @DZ.rec (λ_=>RR) r .bad (λ_=>.bad) (callD c)
noncomputable def appU (a b:List (Nat × Option ZO)):List (Nat × Option ZO):= @List.rec (Nat × Option ZO) (λ_=>List (Nat × Option ZO)) b (λz _ ih=>.cons z ih) a
noncomputable def finY (q nb:Nat) (b:Bool) (ups0:List (Nat × Option ZO)):Kont:=λ_ m c=>cleanK c (@Mem.rec (λ_=>RR) (λ_ _ _ dt=> @Bool.rec (λ_=>RR) (frcL (seen nb m [] dt) λl=>upsR (newK nb l) m dt λups=>newsR (newK nb l) nb m l nb λnews=>.ok (.cons (.b b) .nil) (appU ups0 ups) news) .bad (memN q dt)) m)
noncomputable def setPs (ps:List Nat):List Z->SL->SL:= @List.rec Nat (λ_=>List Z->SL->SL) (λ_ s=>s) (λp _ ih as s=> @List.rec Z (λ_=>SL) s (λa as _=>ih as (sput p a s)) as) ps
noncomputable def lenN (l:List Nat):Nat:= @List.rec Nat (λ_=>Nat) 0 (λ_ _ ih=>Nat.succ ih) l
noncomputable def jmpO (lc:LC) (σ:List Z) (q j id:Nat):List (Nat × Option ZO):=.cons (q,some (.lp lc σ (.done j id))) .nil
noncomputable def allLt (n:Nat) (l:List Nat):Bool:= @List.rec Nat (λ_=>Bool) true (λx _ ih=> @Bool.rec (λ_=>Bool) false ih (Nat.ble (Nat.succ x) n)) l
noncomputable def listS (n:Nat) (s:SL):Nat->List Z:= @Nat.rec (λ_=>Nat->List Z) (λ_=>[]) (λ_ ih i=>.cons (sget i s) (ih (Nat.succ i))) n
noncomputable def marksK (c:CallK) (f:CallK->RR):RR:= @DZ.rec (λ_=>RR) (f (setD .marks c)) (f c) (λ_=>.bad) (callD c)
noncomputable def kRf (ent:FuncId->Bool) (n:Nat) (g:Gt) (lc:LC):CK:=λe k s m c=>zClo (g s) λid a b=> @Bool.rec (λ_=>RR) .bad (mnew (.lp lc (listS n s 0) .ready) m λq m1=> @RR.rec (λ_=>RR) .bad
 (λ_ ups news=>upsK ups m1 λm=>newsK news m λm=>lpK (mget q m) λ_ _ st=>marksK c λc=> @LS.rec (λ_=>RR) (k s (mset q none m) c) (λj id=>natK j (exr e s (mset q none m) c) (exk e id s (mset q none m) c) .bad .bad) st) (λ_ _=>.bad)
 (callF c id m1 (appL a (.cons (.yl q) b)))) (ent id)
noncomputable def kDfr (l:FL) (x:Gt):CK:=λ_ k s m c=>cleanK c (run (λs m c=>zClo (x s) λid a b=> @Bool.rec (λ_=>RR) .bad (k s m (setD (.clo (.clo id [] b)) c)) (Nat.beq (lenL a) 0)) l s m c)
noncomputable def kBad:CK:=λ_ _ _ _ _=>.bad
noncomputable def fc (c:FC) (f:CK->FC):FC:= @FC.rec (λ_=>FC) f c
/-- rd: in a round. -/
noncomputable def kcode (ent:FuncId->Bool) (rd:Bool) (n fuel:Nat) (c:XC):FC:=
 @XC.rec (λ_=>FC) (.mk kSkip) (λ_ _ a b=>fc a λa=>fc b λb=>.mk (kSeq a b)) (λops=>.mk (kReg (kops ops)))
  (λops x=> @Bool.rec (λ_=>FC) (@GX.rec (λ_=>FC) (λg=>.mk (kDfr (kops ops) g)) (gx x)) (.mk kBad) rd)
  (λg lc _ _ a b=> @Bool.rec (λ_=>FC) (@GX.rec (λ_=>FC) (λg=>.mk (kRf ent n g lc)) (gx g)) (.mk kBad) rd)
  (λanc ops=>.mk (kDrawn anc ops)) (λt _ _ a b=> @GX.rec (λ_=>FC) (λt=>fc a λa=>fc b λb=>.mk (kCond t a b)) (gx t))
  (λid _ b=>fc b λb=>.mk (kBlock id b)) (λ_ b=>fc b λb=>.mk (kLoop fuel b)) (λ_ b=>b) (λid=>.mk (kExit id)) (.mk kRet) (.mk kBad) c
noncomputable def roundB (q n:Nat) (σ:List Z) (lc:LC) (ka kb:CK) (c:CallK) (m:Mem) (args:List Z):RR:=
 @Mem.rec (λ_=>RR) (λh nx _ _=> @Bool.rec (λ_=>RR) .bad (@Bool.rec (λ_=>RR) .bad (@Bool.rec (λ_=>RR) .bad (ka (.nil λ_ _ _=>.bad) (λs m c=>cleanK c (kb (.top (finY q nx false (jmpO lc σ q 0 0)) λid=>finY q nx false (jmpO lc σ q 1 id)) (finY q nx true []) s m c))
  (setPs lc.ps.toList args (fillS σ 0 s0)) (.mk (hput q none h) nx nx []) c) (allLt n lc.ps.toList)) (Nat.beq (lenL args) (lenN lc.ps.toList))) (Nat.ble n 512)) m
/-- A round of whatever loop: its code is slimmed when it is run. -/
noncomputable def roundU (slm:Nat->Code->Option XC) (ent:FuncId->Bool) (fuel:Nat) (c:CallK):YT:=λq m args=>lpK (mget q m) λlc σ st=> @LS.rec (λ_=>RR)
 (frc (lenL σ) λn=> @Option.rec XC (λ_=>RR) .bad (λxa=> @Option.rec XC (λ_=>RR) .bad (λxb=> @FC.rec (λ_=>RR) (λka=> @FC.rec (λ_=>RR) (λkb=>roundB q n σ lc ka kb (inC c) m args) (kcode ent true n fuel xb)) (kcode ent true n fuel xa)) (slm n lc.body)) (slm n lc.asg)) (λ_ _=>.bad) st
abbrev T3:=Nat × XC × List SRes
/-- A function whose call is deferred: how many slots, where what is recovered goes, the rest. -/
abbrev TD:=Nat × Nat × List XC
noncomputable def kseqs (l:List XC):XC:= @List.rec XC (λ_=>XC) .skip (λx _ ih=>.seq x ih) l
noncomputable def onlyOk (r:RR):RR:= @RR.rec (λ_=>RR) .bad (λzs ups news=>.ok zs ups news) (λ_ _=>.bad) r
noncomputable def defK (ent:FuncId->Bool) (dtab:FuncId->Option TD) (fuel:Nat) (y:YT) (g:YT->Fn3) (z v:Z) (m:Mem) (f:Mem->RR):RR:=zClo z λid a caps=> @Bool.rec (λ_=>RR) .bad (@Option.rec TD (λ_=>RR) .bad (λt=> @Prod.rec Nat (Nat × List XC) (λ_=>RR) (λn t=> @Prod.rec Nat (List XC) (λ_=>RR) (λdr sc=>
 @Bool.rec (λ_=>RR) .bad (@Bool.rec (λ_=>RR) .bad (@Bool.rec (λ_=>RR) .bad (@FC.rec (λ_=>RR) (λF=>F (.nil λ_ m c=>cleanK c (f m)) (λ_ m c=>cleanK c (f m)) (sput dr v (fillS caps 0 s0)) m (.mk y g (λ_ _ _ _=>.bad) .clean)) (kcode ent false n fuel (kseqs sc))) (Nat.ble (Nat.succ dr) n)) (Nat.ble (lenL caps) n)) (Nat.ble n 512)) t) t) (dtab id)) (Nat.beq (lenL a) 0)
noncomputable def finD (ent:FuncId->Bool) (dtab:FuncId->Option TD) (fuel:Nat) (y:YT) (g:YT->Fn3) (nb:Nat) (rs:List SRes):Kont:=λs m c=>onlyOk (@DZ.rec (λ_=>RR) (fin0 nb rs s m) (fin0 nb rs s m) (λz=>defK ent dtab fuel y g z (.nul .iface) m λm=>fin0 nb rs s m) (callD c))
noncomputable def panD (ent:FuncId->Bool) (dtab:FuncId->Option TD) (fuel:Nat) (y:YT) (g:YT->Fn3) (nb:Nat) (rs:List SRes):DZ->SL->Mem->Z->RR:=λd s m v=> @DZ.rec (λ_=>RR) (.pan v m.dt) .bad (λz=>onlyOk (defK ent dtab fuel y g z v m λm=>fin0 nb rs s m)) d
noncomputable def entT (tab:FuncId->Option T3) (id:FuncId):Bool:= @Option.rec T3 (λ_=>Bool) false (λ_=>true) (tab id)
noncomputable def chkP (r:RR):RR:= @RR.rec (λ_=>RR) .bad (λzs ups news=>.ok zs ups news) (λv dt=> @Option.rec Value (λ_=>RR) .bad (λ_=>.pan v dt) (zcv v)) r
/-- Functions, by a table of slim forms, calls to the depth d; con: contracts that are given. -/
noncomputable def kfun (con:(YT->Fn3)->YT->Fn3) (tab:FuncId->Option T3) (dtab:FuncId->Option TD) (fuel:Nat) (d:Nat):YT->Fn3:=
 @Nat.rec (λ_=>YT->Fn3) (λ_ _ _ _=>.bad) (λ_ ih=>con λy id m args=>chkP (@Option.rec T3 (λ_=>RR) .bad (λt=> @Prod.rec Nat (XC × List SRes) (λ_=>RR) (λn t=> @Prod.rec XC (List SRes) (λ_=>RR) (λsc rs=>
  @Mem.rec (λ_=>RR) (λh nx _ _=> @Bool.rec (λ_=>RR) .bad (@Bool.rec (λ_=>RR) .bad (@FC.rec (λ_=>RR) (λf=>f (.nil (finD (entT tab) dtab fuel y ih nx rs)) (finD (entT tab) dtab fuel y ih nx rs) (fillS args 0 s0) (.mk h nx nx []) (.mk y ih (panD (entT tab) dtab fuel y ih nx rs) .clean)) (kcode (entT tab) false n fuel sc)) (Nat.ble (lenL args) n)) (Nat.ble n 512)) m) t) t) (tab id))) d
end Go.Zw
namespace Go.Zw
open Go.Vw (Nul V SX SO SRes width abin aun)

theorem zInt_inv {z:Z} {f:IntKind->Int->RR} {r:RR} (h:zInt z f=r) (hb:r≠.bad):∃ k n,z= .i k n/\f k n=r:=by
 cases z<;>first | exact ⟨_,_,rfl,h⟩ | exact absurd h.symm hb
theorem zBool_inv {z:Z} {f:Bool->RR} {r:RR} (h:zBool z f=r) (hb:r≠.bad):∃ b,z= .b b/\f b=r:=by
 cases z<;>first | exact ⟨_,rfl,h⟩ | exact absurd h.symm hb
theorem zStr_inv {z:Z} {f:ByteArray->RR} {r:RR} (h:zStr z f=r) (hb:r≠.bad):∃ b,z= .s b/\f b=r:=by
 cases z<;>first | exact ⟨_,rfl,h⟩ | exact absurd h.symm hb
theorem zSl_inv {z:Z} {f:Nat->Nat->Nat->Nat->RR} {r:RR} (h:zSl z f=r) (hb:r≠.bad):∃ a b c d,z= .sl a b c d/\f a b c d=r:=by
 cases z<;>first | exact ⟨_,_,_,_,rfl,h⟩ | exact absurd h.symm hb
theorem zSlN_inv {z:Z} {g:RR} {f:Nat->Nat->Nat->Nat->RR} {r:RR} (h:zSlN z g f=r) (hb:r≠.bad):(z= .nil/\g=r)\/∃ a b c d,z= .sl a b c d/\f a b c d=r:=by
 cases z<;>first | exact .inr ⟨_,_,_,_,rfl,h⟩ | exact .inl ⟨rfl,h⟩ | exact absurd h.symm hb
theorem zPtr_inv {z:Z} {f:Nat->Nat->RR} {r:RR} (h:zPtr z f=r) (hb:r≠.bad):∃ a b,z= .ptr a b/\f a b=r:=by
 cases z<;>first | exact ⟨_,_,rfl,h⟩ | exact absurd h.symm hb
theorem zMp_inv {z:Z} {f:Nat->RR} {r:RR} (h:zMp z f=r) (hb:r≠.bad):∃ a,z= .mp a/\f a=r:=by
 cases z<;>first | exact ⟨_,rfl,h⟩ | exact absurd h.symm hb
theorem zIt_inv {z:Z} {f:Nat->RR} {r:RR} (h:zIt z f=r) (hb:r≠.bad):∃ a,z= .it a/\f a=r:=by
 cases z<;>first | exact ⟨_,rfl,h⟩ | exact absurd h.symm hb
theorem zTup_inv {z:Z} {f:List Z->RR} {r:RR} (h:zTup z f=r) (hb:r≠.bad):∃ a,z= .tup a/\f a=r:=by
 cases z<;>first | exact ⟨_,rfl,h⟩ | exact absurd h.symm hb
theorem zAgg_inv {z:Z} {f:List Z->RR} {r:RR} (h:zAgg z f=r) (hb:r≠.bad):∃ a,z= .agg a/\f a=r:=by
 cases z<;>first | exact ⟨_,rfl,h⟩ | exact absurd h.symm hb
theorem zClo_inv {z:Z} {f:FuncId->List Z->List Z->RR} {r:RR} (h:zClo z f=r) (hb:r≠.bad):∃ a b c,z= .clo a b c/\f a b c=r:=by
 cases z<;>first | exact ⟨_,_,_,rfl,h⟩ | exact absurd h.symm hb
theorem zCloY_inv {z:Z} {f:FuncId->List Z->List Z->RR} {g:Nat->RR} {r:RR} (h:zCloY z f g=r) (hb:r≠.bad):(∃ a b c,z= .clo a b c/\f a b c=r)\/∃ q,z= .yl q/\g q=r:=by
 cases z<;>first | exact .inl ⟨_,_,_,rfl,h⟩ | exact .inr ⟨_,rfl,h⟩ | exact absurd h.symm hb
theorem zIS_inv {z:Z} {f:IntKind->Int->RR} {g:ByteArray->RR} {r:RR} (h:zIS z f g=r) (hb:r≠.bad):(∃ k n,z= .i k n/\f k n=r)\/∃ b,z= .s b/\g b=r:=by
 cases z<;>first | exact .inl ⟨_,_,rfl,h⟩ | exact .inr ⟨_,rfl,h⟩ | exact absurd h.symm hb
theorem zLenS_inv {z:Z} {g:RR} {f:Nat->RR} {r:RR} (h:zLenS z g f=r) (hb:r≠.bad):(z= .nil/\g=r)\/∃ a b c d,z= .sl a b c d/\f c=r:=by
 cases z<;>first | exact .inr ⟨_,_,_,_,rfl,h⟩ | exact .inl ⟨rfl,h⟩ | exact absurd h.symm hb
theorem zNilC_inv {z:Z} {g f:RR} {r:RR} (h:zNilC z f g=r) (hb:r≠.bad):(z= .nil/\f=r)\/∃ a b c d,z= .sl a b c d/\g=r:=by
 cases z<;>first | exact .inr ⟨_,_,_,_,rfl,h⟩ | exact .inl ⟨rfl,h⟩ | exact absurd h.symm hb
theorem zNul_inv {z:Z} {f:Nul->RR} {p i c r:RR} (h:zNul z f p i c=r) (hb:r≠.bad):(∃ k,z= .nul k/\f k=r)\/(∃ a b,z= .ptr a b/\p=r)\/(∃ a b,z= .ifc a b/\i=r)\/∃ a b d,z= .clo a b d/\c=r:=by
 cases z<;>first | exact .inl ⟨_,rfl,h⟩ | exact .inr (.inl ⟨_,_,rfl,h⟩) | exact .inr (.inr (.inl ⟨_,_,rfl,h⟩)) | exact .inr (.inr (.inr ⟨_,_,_,rfl,h⟩)) | exact absurd h.symm hb
theorem zChk_inv {z:Z} {f r:RR} (h:zChk z f=r) (hb:r≠.bad):((∃ a b,z= .ptr a b)\/∃ a b c,z= .clo a b c)/\f=r:=by
 cases z<;>first | exact ⟨.inl ⟨_,_,rfl⟩,h⟩ | exact ⟨.inr ⟨_,_,_,rfl⟩,h⟩ | exact absurd h.symm hb
theorem zCells_inv {z:Z} {f:List Z->RR} {r:RR} (h:zCells z f=r) (hb:r≠.bad):z.lay=some z.cells/\f z.cells=r:=by
 cases z<;>first | exact ⟨rfl,h⟩ | exact absurd h.symm hb
theorem zCell_inv {z:Z} {f r:RR} (h:zCell z f=r) (hb:r≠.bad):z.cell=true/\z.cells=[z]/\f=r:=by
 cases z<;>first | exact ⟨rfl,rfl,h⟩ | exact absurd h.symm hb
theorem zG_inv {z:Z} {w:Bool} {x y r:RR} (h:zG z w x y=r) (hb:r≠.bad):(∃ c,z= .b c/\(c=w->x=r)/\(c= !w->y=r))\/(∃ k n,z= .i k n/\y=r)\/∃ l,z= .tup l/\y=r:=by
 cases z
 case b c=>refine .inl ⟨c,rfl,?_⟩; cases c<;>cases w<;>simp [zG] at h ⊢<;>exact h
 all_goals first | exact .inr (.inl ⟨_,_,rfl,h⟩) | exact .inr (.inr ⟨_,rfl,h⟩) | exact absurd h.symm hb
theorem iNN_inv {a:Int} {f:Nat->RR} {r:RR} (h:iNN a f=r) (hb:r≠.bad):∃ n:Nat,a=n/\f n=r:=by
 cases a with
 | ofNat n=>exact ⟨n,rfl,h⟩
 | negSucc n=>exact absurd h.symm hb
theorem zNat_inv {z:Z} {f:Nat->RR} {r:RR} (h:zNat z f=r) (hb:r≠.bad):∃ k,∃ n:Nat,z= .i k n/\f n=r:=by
 obtain ⟨k,a,rfl,h⟩:=zInt_inv h hb;obtain ⟨n,rfl,h⟩:=iNN_inv h hb;exact ⟨k,n,rfl,h⟩
theorem oOb_inv {o:Option ZO} {f:TypeId->Bool->List Z->RR} {r:RR} (h:oOb o f=r) (hb:r≠.bad):∃ T fx cs,o=some (.ob T fx cs)/\f T fx cs=r:=by
 cases o with
 | none=>exact absurd h.symm hb
 | some o=>cases o<;>first | exact ⟨_,_,_,rfl,h⟩ | exact absurd h.symm hb
theorem frc_eq (n:Nat) (f:Nat->RR):frc n f=f n:=by cases n<;>rfl
theorem bad_inv {x r:RR} {t:Bool} (h: @Bool.rec (λ_=>RR) .bad x t=r) (hb:r≠.bad):t=true/\x=r:=by
 cases t with
 | true=>exact ⟨rfl,h⟩
 | false=>exact absurd h.symm hb
theorem bad_inv' {x r:RR} {t:Bool} (h: @Bool.rec (λ_=>RR) x .bad t=r) (hb:r≠.bad):t=false/\x=r:=by
 cases t with
 | false=>exact ⟨rfl,h⟩
 | true=>exact absurd h.symm hb
theorem beq_inv {a b:Nat} (h:Nat.beq a b=true):a=b:=Nat.eq_of_beq_eq_true h
theorem bne_inv {a b:Nat} (h:Nat.beq a b=false):a≠b:=λe=>by rw [e,Nat.beq_refl] at h; cases h
theorem ble_inv {a b:Nat} (h:Nat.ble a b=true):a<=b:=Nat.le_of_ble_eq_true h

-- lists
theorem nthK_inv:∀ {cs:List Z} {j:Nat} {f:Z->RR} {r:RR},nthK cs j f=r->r≠.bad->∃ z,cs[j]? =some z/\f z=r
 | [],j,f,r,h,hb=>absurd h.symm hb
 | z::cs,0,f,r,h,hb=>⟨z,rfl,h⟩
 | z::cs,j+1,f,r,h,hb=>by
  obtain ⟨x,h1,h2⟩:=nthK_inv (cs:=cs) (j:=j) h hb;exact ⟨x,by simpa using h1,h2⟩
theorem takK_inv:∀ {cs:List Z} {n:Nat} {f:List Z->RR} {r:RR},takK cs n f=r->r≠.bad->n<=cs.length/\f (cs.take n)=r
 | [],0,f,r,h,hb=>⟨Nat.le_refl _,h⟩
 | [],n+1,f,r,h,hb=>absurd h.symm hb
 | z::cs,0,f,r,h,hb=>⟨Nat.zero_le _,h⟩
 | z::cs,n+1,f,r,h,hb=>by
  obtain ⟨h1,h2⟩:=takK_inv (cs:=cs) (n:=n) h hb;exact ⟨by simpa using h1,by simpa using h2⟩
theorem subK_inv:∀ {cs:List Z} {o n:Nat} {f:List Z->RR} {r:RR},subK cs o n f=r->r≠.bad->o+n<=cs.length/\f ((cs.drop o).take n)=r
 | [],0,n,f,r,h,hb=>by
  obtain ⟨h1,h2⟩:=takK_inv (cs:=[]) (n:=n) h hb;exact ⟨by simpa using h1,by simpa using h2⟩
 | [],o+1,n,f,r,h,hb=>absurd h.symm hb
 | z::cs,0,n,f,r,h,hb=>by
  obtain ⟨h1,h2⟩:=takK_inv (cs:=z::cs) (n:=n) h hb;exact ⟨by simpa using h1,by simpa using h2⟩
 | z::cs,o+1,n,f,r,h,hb=>by
  obtain ⟨h1,h2⟩:=subK_inv (cs:=cs) (o:=o) (n:=n) h hb;exact ⟨by simp; omega,by simpa using h2⟩
theorem ovlK_inv:∀ {cs vs:List Z} {f:List Z->RR} {r:RR},ovlK cs vs f=r->r≠.bad->vs.length<=cs.length/\f (vs++cs.drop vs.length)=r
 | [],[],f,r,h,hb=>⟨Nat.le_refl _,h⟩
 | [],v::vs,f,r,h,hb=>absurd h.symm hb
 | z::cs,[],f,r,h,hb=>⟨Nat.zero_le _,h⟩
 | z::cs,v::vs,f,r,h,hb=>by
  obtain ⟨h1,h2⟩:=ovlK_inv (cs:=cs) (vs:=vs) h hb;exact ⟨by simpa using h1,by simpa using h2⟩
theorem patK_inv:∀ {cs:List Z} {o:Nat} {vs:List Z} {f:List Z->RR} {r:RR},patK cs o vs f=r->r≠.bad->o+vs.length<=cs.length/\f (cs.take o++vs++cs.drop (o+vs.length))=r
 | [],0,vs,f,r,h,hb=>by
  obtain ⟨h1,h2⟩:=ovlK_inv (cs:=[]) (vs:=vs) h hb;exact ⟨by simpa using h1,by simpa using h2⟩
 | [],o+1,vs,f,r,h,hb=>absurd h.symm hb
 | z::cs,0,vs,f,r,h,hb=>by
  obtain ⟨h1,h2⟩:=ovlK_inv (cs:=z::cs) (vs:=vs) h hb;exact ⟨by simpa using h1,by simpa using h2⟩
 | z::cs,o+1,vs,f,r,h,hb=>by
  obtain ⟨h1,h2⟩:=patK_inv (cs:=cs) (o:=o) (vs:=vs) h hb;refine ⟨by simp; omega,?_⟩;have e:o+1+vs.length=(o+vs.length)+1:=by omega
  rw [e]
  simpa using h2
theorem appL_eq:∀ cs ds:List Z,appL cs ds=cs++ds
 | [],ds=>rfl
 | z::cs,ds=>by show z::appL cs ds=_; rw [appL_eq cs ds]; rfl
theorem repsL_eq (zs:List Z):∀ n:Nat,repsL zs n=(List.replicate n zs).flatten
 | 0=>rfl
 | n+1=>by show appL zs (repsL zs n)=_; rw [appL_eq,repsL_eq zs n]; rfl
theorem lenL_eq:∀ cs:List Z,lenL cs=cs.length
 | []=>rfl
 | z::cs=>by show (lenL cs).succ=_; rw [lenL_eq cs]; rfl
theorem lenB_eq:∀ cs:List UInt8,lenB cs=cs.length
 | []=>rfl
 | z::cs=>by show (lenB cs).succ=_; rw [lenB_eq cs]; rfl
theorem appB_eq:∀ cs ds:List UInt8,appB cs ds=cs++ds
 | [],ds=>rfl
 | z::cs,ds=>by show z::appB cs ds=_; rw [appB_eq cs ds]; rfl
theorem notB_eq (b:Bool):notB b= !b:=by cases b<;>rfl
theorem eqBs_iff:∀ a b:List UInt8,eqBs a b=decide (a=b)
 | [],[]=>rfl
 | [],y::b=>by simp [eqBs]
 | x::a,[]=>by simp [eqBs]
 | x::a,y::b=>by
  show @Bool.rec (λ_=>Bool) false (eqBs a b) (Nat.beq (u8n x) (u8n y))=_;rw [eqBs_iff a b];cases e:Nat.beq (u8n x) (u8n y) with
  | true=>
   have:x=y:=UInt8.toNat_inj.1 (beq_inv e);simp [this]
  | false=>
   have:x≠y:=λh=>bne_inv e (by rw [h]);simp [this]

-- numbers
theorem kc_inj {k k':IntKind} (h:kc k=kc k'):k=k':=by cases k<;>cases k'<;>first | rfl | (exfalso; revert h; decide)
theorem sameK_inv {k k':IntKind} {x r:RR} (h:sameK k k' x=r) (hb:r≠.bad):k=k'/\x=r:=by
 obtain ⟨h1,h2⟩:=bad_inv h hb;exact ⟨kc_inj (beq_inv h1),h2⟩
theorem subN_eq (a b:Nat):subN a b=(a:Int)-b:=by
 unfold subN;cases e:Nat.ble b a with
 | true=>have:=ble_inv e; show ((a-b:Nat):Int)=_; omega
 | false=>have:=of_ble_false e; show Int.negSucc (b-a-1)=_; omega
theorem addI_eq (a b:Int):addI a b=a+b:=by
 cases a with
 | ofNat m=>cases b with
  | ofNat n=>show ((m+n:Nat):Int)=_; simp
  | negSucc n=>show subN m (n+1)=_; rw [subN_eq]; simp; omega
 | negSucc m=>cases b with
  | ofNat n=>show subN n (m+1)=_; rw [subN_eq]; simp; omega
  | negSucc n=>show Int.negSucc (m+n+1)=_; omega
theorem negI_eq (a:Int):negI a= -a:=by
 cases a with
 | ofNat m=>show subN 0 m=_; rw [subN_eq]; simp
 | negSucc m=>show ((m+1:Nat):Int)=_; omega
theorem mulI_eq (a b:Int):mulI a b=a*b:=by
 cases a with
 | ofNat m=>cases b with
  | ofNat n=>show ((m*n:Nat):Int)=_; simp
  | negSucc n=>show subN 0 (m*(n+1))=_; rw [subN_eq]; simp [Int.negSucc_eq,Int.mul_neg]
 | negSucc m=>cases b with
  | ofNat n=>show subN 0 ((m+1)*n)=_; rw [subN_eq]; simp [Int.negSucc_eq,Int.neg_mul]
  | negSucc n=>show (((m+1)*(n+1):Nat):Int)=_; simp [Int.negSucc_eq]; grind
theorem ltI_eq (a b:Int):ltI a b=decide (a<b):=by
 cases a with
 | ofNat m=>cases b with
  | ofNat n=>
   show Nat.ble (m+1) n=_;cases e:Nat.ble (m+1) n with
   | true=>have:=ble_inv e; symm; simp; omega
   | false=>have:=of_ble_false e; symm; simp; omega
  | negSucc n=>show false=_; symm; simp; omega
 | negSucc m=>cases b with
  | ofNat n=>show true=_; symm; simp; omega
  | negSucc n=>
   show Nat.ble (n+1) m=_;cases e:Nat.ble (n+1) m with
   | true=>have:=ble_inv e; symm; simp; omega
   | false=>have:=of_ble_false e; symm; simp; omega
theorem leI_eq (a b:Int):leI a b=decide (a<=b):=by
 cases a with
 | ofNat m=>cases b with
  | ofNat n=>
   show Nat.ble m n=_;cases e:Nat.ble m n with
   | true=>have:=ble_inv e; symm; simp; omega
   | false=>have:=of_ble_false e; symm; simp; omega
  | negSucc n=>show false=_; symm; simp; omega
 | negSucc m=>cases b with
  | ofNat n=>show true=_; symm; simp; omega
  | negSucc n=>
   show Nat.ble n m=_;cases e:Nat.ble n m with
   | true=>have:=ble_inv e; symm; simp; omega
   | false=>have:=of_ble_false e; symm; simp; omega
theorem eqI_eq (a b:Int):eqI a b=decide (a=b):=by
 cases a with
 | ofNat m=>cases b with
  | ofNat n=>
   show Nat.beq m n=_;cases e:Nat.beq m n with
   | true=>have:=beq_inv e; symm; simp; omega
   | false=>have:=bne_inv e; symm; simp; omega
  | negSucc n=>show false=_; symm; simp
 | negSucc m=>cases b with
  | ofNat n=>show false=_; symm; simp
  | negSucc n=>
   show Nat.beq m n=_;cases e:Nat.beq m n with
   | true=>have:=beq_inv e; symm; simp; omega
   | false=>have:=bne_inv e; symm; simp; omega

theorem bits_pos (k:IntKind):0<k.bits:=by cases k<;>decide
theorem pow_bits (k:IntKind):2^k.bits=2*2^(k.bits-1):=by cases k<;>decide
theorem wrap_ofNat (k:IntKind) (n:Nat) (h:k.signed=true->n<2^(k.bits-1)):k.wrap (n:Int)=((n%2^k.bits:Nat):Int):=by
 have hp:((2^k.bits:Nat):Int)=(2^k.bits:Int):=by simp
 have hq:((2^(k.bits-1):Nat):Int)=(2^(k.bits-1):Int):=by simp
 unfold IntKind.wrap;rw [<- hp,<-Int.natCast_emod];cases hs:k.signed with
 | false=>simp
 | true=>
  have hlt:=h hs;have h2:=pow_bits k;have:n%2^k.bits=n:=Nat.mod_eq_of_lt (by omega);rw [this,<-hq];simp only [Bool.true_and];rw [if_neg];simp only [ge_iff_le,decide_eq_true_eq,Int.not_le];omega
theorem wrN_inv {k:IntKind} {n:Nat} {f:Z->RR} {r:RR} (h:wrN k n f=r) (hb:r≠.bad):f (.i k (k.wrap n))=r:=by
 have e:wrN k n f= @Bool.rec (λ_=>RR) (frc (Nat.mod n (2^k.bits)) λn=>f (.i k (.ofNat n))) (frc n λn=> @Bool.rec (λ_=>RR) (f (.i k (.ofNat n))) .bad (Nat.ble (2^(k.bits-1)) n)) k.signed:=rfl;rw [e,frc_eq,frc_eq] at h;cases hs:k.signed with
 | false=>
  rw [hs] at h;rw [wrap_ofNat k n (by rw [hs]; intro h; cases h)];exact h
 | true=>
  rw [hs] at h;obtain ⟨h1,h2⟩:=bad_inv' h hb;have hlt:=of_ble_false h1;rw [wrap_ofNat k n (λ_=>hlt),Nat.mod_eq_of_lt (by have:=pow_bits k; omega)];exact h2
theorem wrS_inv {k:IntKind} {n:Nat} {f:Z->RR} {r:RR} (h:wrS k n f=r) (hb:r≠.bad):f (.i k (k.wrap (Int.negSucc n)))=r:=by
 have e:wrS k n f= @Bool.rec (λ_=>RR) (frc (Nat.sub (2^k.bits) (Nat.succ (Nat.mod n (2^k.bits)))) λn=>f (.i k (.ofNat n))) (frc n λn=> @Bool.rec (λ_=>RR) (f (.i k (.negSucc n))) .bad (Nat.ble (2^(k.bits-1)) n)) k.signed:=rfl;rw [e,frc_eq,frc_eq] at h;have hp:((2^k.bits:Nat):Int)=(2^k.bits:Int):=by simp
 have hq:((2^(k.bits-1):Nat):Int)=(2^(k.bits-1):Int):=by simp
 have hpos:0<2^k.bits:=Nat.pow_pos (by decide);have hm:(Int.negSucc n)%((2^k.bits:Nat):Int)=((2^k.bits-(n%2^k.bits+1):Nat):Int):=by
  have hlt:=Nat.mod_lt n hpos;rw [Int.negSucc_emod _ (by omega)];have:((n:Int)%((2^k.bits:Nat):Int))=((n%2^k.bits:Nat):Int):=by simp
  rw [this];omega
 cases hs:k.signed with
 | false=>
  rw [hs] at h;unfold IntKind.wrap;rw [<- hp,hm,hs];have h:f (.i k (.ofNat (2^k.bits-(n%2^k.bits+1))))=r:=h
  simpa using h
 | true=>
  rw [hs] at h;obtain ⟨h1,h2⟩:=bad_inv' h hb;have hlt:=of_ble_false h1;have hpb:=pow_bits k;have hmod:n%2^k.bits=n:=Nat.mod_eq_of_lt (by omega);unfold IntKind.wrap;rw [<- hp,hm,hs,hmod,<-hq];simp only [Bool.true_and];rw [if_pos (by simp only [ge_iff_le,decide_eq_true_eq]; omega)];have:((2^k.bits-(n+1):Nat):Int)-((2^k.bits:Nat):Int)=Int.negSucc n:=by omega
  rw [this];exact h2
theorem wr_inv {k:IntKind} {n:Int} {f:Z->RR} {r:RR} (h:wr k n f=r) (hb:r≠.bad):f (.i k (k.wrap n))=r:=by
 cases n with
 | ofNat n=>exact wrN_inv h hb
 | negSucc n=>exact wrS_inv h hb
end Go.Zw
namespace Go.Zw
open Go.Vw (Nul V SX SO SRes width abin aun)

def ArOK (op:BinOp) (a:Ar):Prop:=
 ∀ k1 k2 i j f r,a k1 k2 i j f=r->r≠.bad->∃ c v,abin op (.i k1 i) (.i k2 j)=some (c,v)/\binOk op (.i k1 i) (.i k2 j)=true/\f (vz v)=r
def SrOK (op:BinOp) (b:Sr):Prop:=
 ∀ u v f r,b u v f=r->r≠.bad->∃ c x,abin op (.s u) (.s v)=some (c,x)/\binOk op (.s u) (.s v)=true/\f (vz x)=r

theorem eqK_refl (k:IntKind):eqK k k=true:=by simp [eqK]

theorem aAdd_ok:ArOK .add aAdd:=by
 intro k1 k2 i j f r h hb;have q:=sameK_inv h hb; clear h; obtain ⟨rfl,h⟩:=q;have:=wr_inv h hb;rw [addI_eq] at this;exact ⟨_,_,rfl,by simp [binOk,eqK_refl],this⟩
theorem aSub_ok:ArOK .sub aSub:=by
 intro k1 k2 i j f r h hb;have q:=sameK_inv h hb; clear h; obtain ⟨rfl,h⟩:=q;have:=wr_inv h hb;rw [addI_eq,negI_eq] at this;exact ⟨_,_,rfl,by simp [binOk,eqK_refl],by rw [Int.sub_eq_add_neg]; exact this⟩
theorem aMul_ok:ArOK .mul aMul:=by
 intro k1 k2 i j f r h hb;have q:=sameK_inv h hb; clear h; obtain ⟨rfl,h⟩:=q;have:=wr_inv h hb;rw [mulI_eq] at this;exact ⟨_,_,rfl,by simp [binOk,eqK_refl],this⟩
theorem nn_inv {a b:Int} {f:Nat->Nat->RR} {r:RR} (h:nn a b f=r) (hb:r≠.bad):∃ m n:Nat,a=m/\b=n/\f m n=r:=by
 have q:=iNN_inv h hb; clear h; obtain ⟨m,rfl,h⟩:=q;have q:=iNN_inv h hb; clear h; obtain ⟨n,rfl,h⟩:=q;exact ⟨m,n,rfl,rfl,h⟩
theorem nnR_inv {k:IntKind} {a b:Int} {f:Nat->Nat->RR} {r:RR} (h:nnR k a b f=r) (hb:r≠.bad):∃ m n:Nat,a=m/\b=n/\m<2^k.bits/\n<2^k.bits/\f m n=r:=by
 have q:=iNN_inv h hb; clear h; obtain ⟨m,rfl,h⟩:=q;have q:=iNN_inv h hb; clear h; obtain ⟨n,rfl,h⟩:=q;obtain ⟨h1,h⟩:=bad_inv' h hb;obtain ⟨h2,h⟩:=bad_inv' h hb;exact ⟨m,n,rfl,rfl,of_ble_false h1,of_ble_false h2,h⟩
theorem aQuo_ok:ArOK .quo aQuo:=by
 intro k1 k2 i j f r h hb;have q:=sameK_inv h hb; clear h; obtain ⟨rfl,h⟩:=q;have q:=nn_inv h hb; clear h; obtain ⟨m,n,rfl,rfl,h⟩:=q;obtain ⟨h1,h⟩:=bad_inv' h hb;have hn:n≠0:=bne_inv h1;have:=wrN_inv h hb;refine ⟨_,_,rfl,by simp [binOk,eqK_refl,hn],?_⟩;rw [show ((m:Int).tdiv (n:Int))=((m / n:Nat):Int) from rfl];exact this
theorem aRem_ok:ArOK .rem aRem:=by
 intro k1 k2 i j f r h hb;have q:=sameK_inv h hb; clear h; obtain ⟨rfl,h⟩:=q;cases j with
 | negSucc j=>exact absurd h.symm hb
 | ofNat n=>
  obtain ⟨h1,h⟩:=bad_inv' h hb;have hn:n≠0:=bne_inv h1;refine ⟨_,_,rfl,by simp [binOk,eqK_refl,hn],?_⟩;cases i with
  | ofNat m=>rw [<- h]; simp only [frc_eq]; rfl
  | negSucc m=>
   rw [<- h]; simp only [frc_eq,subN_eq];have:(Int.negSucc m).tmod (Int.ofNat n)=((0:Nat):Int)-((m+1)%n:Nat):=by
    rw [Int.negSucc_eq];show (-((m:Int)+1)).tmod (n:Int)=_;rw [Int.neg_tmod];have:((m:Int)+1).tmod (n:Int)=(((m+1)%n:Nat):Int):=rfl;rw [this]; simp
   show f (vz (.i k1 ((Int.negSucc m).tmod (Int.ofNat n))))=f (.i k1 (((0:Nat):Int)-((m+1)%n:Nat)));rw [this]; rfl
theorem ofInt_nat (w n:Nat):BitVec.ofInt w (n:Int)=BitVec.ofNat w n:=by
 apply BitVec.eq_of_toNat_eq;simp [BitVec.toNat_ofInt]
theorem toNat_small {w n:Nat} (h:n<2^w):(BitVec.ofNat w n).toNat=n:=by simp [Nat.mod_eq_of_lt h]
theorem aAnd_ok:ArOK .and aAnd:=by
 intro k1 k2 i j f r h hb;have q:=sameK_inv h hb; clear h; obtain ⟨rfl,h⟩:=q;have q:=nnR_inv h hb; clear h; obtain ⟨m,n,rfl,rfl,hm,hn,h⟩:=q;have:=wrN_inv h hb;refine ⟨_,_,rfl,by simp [binOk,eqK_refl],?_⟩;rw [ofInt_nat,ofInt_nat,BitVec.toNat_and,toNat_small hm,toNat_small hn];exact this
theorem aOr_ok:ArOK .or aOr:=by
 intro k1 k2 i j f r h hb;have q:=sameK_inv h hb; clear h; obtain ⟨rfl,h⟩:=q;have q:=nnR_inv h hb; clear h; obtain ⟨m,n,rfl,rfl,hm,hn,h⟩:=q;have:=wrN_inv h hb;refine ⟨_,_,rfl,by simp [binOk,eqK_refl],?_⟩;rw [ofInt_nat,ofInt_nat,BitVec.toNat_or,toNat_small hm,toNat_small hn];exact this
theorem aXor_ok:ArOK .xor aXor:=by
 intro k1 k2 i j f r h hb;have q:=sameK_inv h hb; clear h; obtain ⟨rfl,h⟩:=q;have q:=nnR_inv h hb; clear h; obtain ⟨m,n,rfl,rfl,hm,hn,h⟩:=q;have:=wrN_inv h hb;refine ⟨_,_,rfl,by simp [binOk,eqK_refl],?_⟩;rw [ofInt_nat,ofInt_nat,BitVec.toNat_xor,toNat_small hm,toNat_small hn];exact this
theorem aAndNot_ok:ArOK .andNot aAndNot:=by
 intro k1 k2 i j f r h hb;have q:=sameK_inv h hb; clear h; obtain ⟨rfl,h⟩:=q;have q:=nnR_inv h hb; clear h; obtain ⟨m,n,rfl,rfl,hm,hn,h⟩:=q;have:=wrN_inv h hb;refine ⟨_,_,rfl,by simp [binOk,eqK_refl],?_⟩;rw [ofInt_nat,ofInt_nat,BitVec.toNat_and,BitVec.toNat_not,toNat_small hm,toNat_small hn];exact this
theorem aShl_ok:ArOK .shl aShl:=by
 intro k1 k2 i j f r h hb;have q:=nn_inv h hb; clear h; obtain ⟨m,n,rfl,rfl,h⟩:=q;obtain ⟨h1,h⟩:=bad_inv h hb;have:=wrN_inv h hb;refine ⟨_,_,rfl,by simp [binOk],?_⟩;rw [Int.toNat_natCast,Nat.min_eq_left (ble_inv h1),show ((m:Int)*2^n)=((m*2^n:Nat):Int) by simp];exact this
theorem aShr_ok:ArOK .shr aShr:=by
 intro k1 k2 i j f r h hb;have q:=nn_inv h hb; clear h; obtain ⟨m,n,rfl,rfl,h⟩:=q;obtain ⟨h1,h⟩:=bad_inv h hb;rw [frc_eq] at h;refine ⟨_,_,rfl,by simp [binOk],?_⟩;rw [Int.toNat_natCast,Nat.min_eq_left (ble_inv h1),show ((m:Int).fdiv (2^n))=((m / 2^n:Nat):Int) by
  rw [show ((2:Int)^n)=((2^n:Nat):Int) by simp,Int.fdiv_eq_ediv_of_nonneg _ (Int.natCast_nonneg _)];simp]
 exact h
theorem aEql_ok:ArOK .eql aEql:=by
 intro k1 k2 i j f r h hb;have q:=sameK_inv h hb; clear h; obtain ⟨rfl,h⟩:=q;rw [eqI_eq] at h;exact ⟨_,_,rfl,by simp [binOk,eqK_refl],h⟩
theorem aNeq_ok:ArOK .neq aNeq:=by
 intro k1 k2 i j f r h hb;have q:=sameK_inv h hb; clear h; obtain ⟨rfl,h⟩:=q;rw [eqI_eq,notB_eq] at h;exact ⟨_,_,rfl,by simp [binOk,eqK_refl],h⟩
theorem aLss_ok:ArOK .lss aLss:=by
 intro k1 k2 i j f r h hb;have q:=sameK_inv h hb; clear h; obtain ⟨rfl,h⟩:=q;rw [ltI_eq] at h;exact ⟨_,_,rfl,by simp [binOk,eqK_refl],h⟩
theorem aLeq_ok:ArOK .leq aLeq:=by
 intro k1 k2 i j f r h hb;have q:=sameK_inv h hb; clear h; obtain ⟨rfl,h⟩:=q;rw [leI_eq] at h;exact ⟨_,_,rfl,by simp [binOk,eqK_refl],h⟩
theorem aGtr_ok:ArOK .gtr aGtr:=by
 intro k1 k2 i j f r h hb;have q:=sameK_inv h hb; clear h; obtain ⟨rfl,h⟩:=q;rw [ltI_eq] at h;exact ⟨_,_,rfl,by simp [binOk,eqK_refl],h⟩
theorem aGeq_ok:ArOK .geq aGeq:=by
 intro k1 k2 i j f r h hb;have q:=sameK_inv h hb; clear h; obtain ⟨rfl,h⟩:=q;rw [leI_eq] at h;exact ⟨_,_,rfl,by simp [binOk,eqK_refl],h⟩
theorem sBad_ok (op:BinOp):SrOK op sBad:=λu v f r h hb=>absurd h.symm hb

theorem ba_ext {a b:ByteArray} (h:a.data.toList=b.data.toList):a=b:=by
 cases a with | mk a=>cases b with | mk b=>cases a; cases b; simp at h; subst h; rfl
theorem ba_size (a:ByteArray):a.size=a.data.toList.length:=rfl
theorem sAdd_ok:SrOK .add sAdd:=by
 intro u v f r h hb;obtain ⟨h1,h⟩:=bad_inv h hb;have h1:=ble_inv h1;rw [lenB_eq,lenB_eq,<-ba_size,<-ba_size] at h1;refine ⟨_,_,rfl,?_,?_⟩
 . have h1:u.size+v.size<=1000000:=h1;have hm:(1000000:Int)<=IntKind.i64.max:=by decide
   have:((u.size+v.size:Nat):Int)<=IntKind.i64.max:=by omega
   show decide (((u.size+v.size:Nat):Int)<=IntKind.i64.max)=true;exact decide_eq_true this
 . rw [appB_eq] at h;have:mkS (u.data.toList++v.data.toList)=u++v:=ba_ext (by
    show u.data.toList++v.data.toList=(u++v).data.toList;rw [ByteArray.data_append,Array.toList_append])
   rw [this] at h;exact h
theorem toList_beq (a b:ByteArray):(a.toList == b.toList)=decide (a.data.toList=b.data.toList):=by
 rw [Go.ByteArray.toList_eq,Go.ByteArray.toList_eq];cases e:(a.data.toList == b.data.toList) with
 | true=>symm; rw [decide_eq_true_iff]; exact eq_of_beq e
 | false=>symm; rw [decide_eq_false_iff_not]; intro h; rw [h] at e; simp at e
theorem sEql_ok:SrOK .eql sEql:=by
 intro u v f r h hb;have h:f (.b (eqBs u.data.toList v.data.toList))=r:=h;rw [eqBs_iff] at h;refine ⟨_,_,rfl,rfl,?_⟩;rw [toList_beq];exact h
theorem sNeq_ok:SrOK .neq sNeq:=by
 intro u v f r h hb;have h:f (.b (notB (eqBs u.data.toList v.data.toList)))=r:=h;rw [eqBs_iff,notB_eq] at h;refine ⟨_,_,rfl,rfl,?_⟩;rw [toList_beq];exact h

theorem gar_inv {op:BinOp} {f:Ar->Sr->FO} {F:FO} (h:gar op f=F):∃ a b,ArOK op a/\SrOK op b/\f a b=F:=by
 cases op
 . exact ⟨_,_,aAdd_ok,sAdd_ok,h⟩
 . exact ⟨_,_,aSub_ok,sBad_ok _,h⟩
 . exact ⟨_,_,aMul_ok,sBad_ok _,h⟩
 . exact ⟨_,_,aQuo_ok,sBad_ok _,h⟩
 . exact ⟨_,_,aRem_ok,sBad_ok _,h⟩
 . exact ⟨_,_,aAnd_ok,sBad_ok _,h⟩
 . exact ⟨_,_,aOr_ok,sBad_ok _,h⟩
 . exact ⟨_,_,aXor_ok,sBad_ok _,h⟩
 . exact ⟨_,_,aShl_ok,sBad_ok _,h⟩
 . exact ⟨_,_,aShr_ok,sBad_ok _,h⟩
 . exact ⟨_,_,aAndNot_ok,sBad_ok _,h⟩
 . exact ⟨_,_,aEql_ok,sEql_ok,h⟩
 . exact ⟨_,_,aNeq_ok,sNeq_ok,h⟩
 . exact ⟨_,_,aLss_ok,sBad_ok _,h⟩
 . exact ⟨_,_,aLeq_ok,sBad_ok _,h⟩
 . exact ⟨_,_,aGtr_ok,sBad_ok _,h⟩
 . exact ⟨_,_,aGeq_ok,sBad_ok _,h⟩
end Go.Zw
namespace Go.Zw
open Go.Vw (Nul V SX SO SRes width abin aun)

noncomputable def absS (s:SL) (m:Mem):ZS:=⟨sabs s,mabs m,m.nx⟩
def PutOK (d:Option Nat) (p:Pt):Prop:=∀ z s,sabs (p z s)=(match d with | some d=>upd (sabs s) d z | none=>sabs s)
def GetOK (x:SX) (g:Gt):Prop:=∀ s m,g s=(absS s m).ev x

theorem gx_ok (x:SX):∃ g,gx x= .mk g/\GetOK x g:=by
 cases x with
 | t n=>
  show ∃ g,@Bool.rec (λ_=>GX) (GX.mk λ_=>.tup []) (@Slo.rec (λ_=>GX) (λg _=>.mk g) (slot n)) (Nat.ble n 511)=GX.mk g/\_;cases e:Nat.ble n 511 with
  | true=>
   have hlt:=ble_inv e;refine ⟨sget n,?_,λs m=>?_⟩
   . show @Slo.rec (λ_=>GX) (λg _=>GX.mk g) (slot n)=_;unfold sget;cases slot n; rfl
   . show sget n s=sabs s n;unfold sabs; rw [if_pos (by omega)]
  | false=>
   have hlt:=of_ble_false e;refine ⟨_,rfl,λs m=>?_⟩;show _=sabs s n;unfold sabs; rw [if_neg (by omega)]
 | c v=>exact ⟨_,rfl,λs m=>rfl⟩
 | f id=>exact ⟨_,rfl,λs m=>rfl⟩

theorem g1_inv {x:SX} {f:Gt->FO} {F:FO} (h:g1 x f=F):∃ g,GetOK x g/\f g=F:=by
 obtain ⟨g,h1,h2⟩:=gx_ok x;unfold g1 at h;rw [h1] at h;exact ⟨g,h2,h⟩

theorem gp_ok (d:Option Nat):gp d= .bad\/∃ p,gp d= .mk p/\PutOK d p:=by
 cases d with
 | none=>exact .inr ⟨_,rfl,λz s=>rfl⟩
 | some n=>
  show @Bool.rec (λ_=>GP) GP.bad (@Slo.rec (λ_=>GP) (λ_ p=>.mk p) (slot n)) (Nat.ble n 511)= .bad\/∃ p,@Bool.rec (λ_=>GP) GP.bad (@Slo.rec (λ_=>GP) (λ_ p=>.mk p) (slot n)) (Nat.ble n 511)= .mk p/\_;cases e:Nat.ble n 511 with
  | true=>
   have hlt:=ble_inv e;refine .inr ⟨sput n,?_,λz s=>sabs_put (by omega) z s⟩;show @Slo.rec (λ_=>GP) (λ_ p=>GP.mk p) (slot n)=_;unfold sput;cases slot n; rfl
  | false=>exact .inl rfl

theorem gd_inv {d:Option Nat} {f:Pt->FO} {F:Stp} (h:gd d f= .mk F) {k:Kont} {s:SL} {m:Mem} {c:CallK} {r:RR} (hr:F k s m c=r) (hb:r≠.bad):∃ p,PutOK d p/\f p= .mk F:=by
 unfold gd at h;rcases gp_ok d with e | ⟨p,e,hp⟩
 . rw [e] at h;simp only [FO.mk.injEq] at h;subst h;exact absurd hr.symm hb
 . rw [e] at h;exact ⟨p,hp,h⟩

/-- What holds behind a step: the rest is reckoned to r. -/
def Post (h0:Nat->Option ZO) (nb:Nat) (k:Kont) (c:CallK) (r:RR):ZS->Prop:=λS=>∃ s m,absS s m=S/\MOK h0 nb m/\k s m c=r

theorem absS_put {d:Option Nat} {p:Pt} (hp:PutOK d p) (x:Z) (s:SL) (m:Mem):absS (p x s) m=(absS s m).put d x:=by
 cases d with
 | none=>simp [absS,ZS.put,hp x s]
 | some d=>simp [absS,ZS.put,hp x s]

theorem mset_nx (r:Nat) (o:Option ZO) (m:Mem):(mset r o m).nx=m.nx:=by cases m; rfl
theorem mput_nx (o:ZO) (m:Mem):(mput o m).nx=m.nx+1:=by cases m; rfl

section
variable {h0:Nat->Option ZO} {nb:Nat} {k:Kont} {c:CallK} {r:RR} {d:Option Nat} {p:Pt} {s:SL} {m:Mem}

theorem post_no (hp:PutOK d p) (M:MOK h0 nb m) {x:Z} (h:k (p x s) m c=r):Post h0 nb k c r (((absS s m).app .no).put d x):=
 ⟨p x s,m,absS_put hp x s m,M,h⟩
theorem mnew_inv {o:ZO} {f:Nat->Mem->RR} (h:mnew o m f=r) (hb:r≠.bad):m.nx<4096/\f m.nx (mput o m)=r:=by
 cases m with
 | mk hp nx nb dt=>
  obtain ⟨h1,h2⟩:=bad_inv h hb;exact ⟨by have:=ble_inv h1; show nx<4096; omega,h2⟩
theorem post_new (hp:PutOK d p) (M:MOK h0 nb m) {x:Z} {o:ZO} (hlt:m.nx<4096) (h:k (p x s) (mput o m) c=r):Post h0 nb k c r (((absS s m).app (.new o)).put d x):=by
 refine ⟨p x s,mput o m,?_,M.put hlt o,h⟩;rw [absS_put hp];simp only [absS,ZS.app,mabs_put hlt,mput_nx]
theorem post_turn (hp:PutOK d p) (M:MOK h0 nb m) {x:Z} {o:ZO} {q:Nat} (hq:q<m.nx) (h:k (p x s) (mset q (some o) m) c=r):Post h0 nb k c r (((absS s m).app (.turn q o)).put d x):=by
 refine ⟨p x s,mset q (some o) m,?_,M.set hq _,h⟩;rw [absS_put hp];simp only [absS,ZS.app,mabs_set (Nat.lt_of_lt_of_le hq M.top),mset_nx]
theorem post_pass (hp:PutOK d p) (M:MOK h0 nb m) {x:Z} {o:ZO} {q:Nat} (hq:q<m.nx) (hlt:m.nx<4096) (h:k (p x s) (mput o (mset q none m)) c=r):Post h0 nb k c r (((absS s m).app (.pass q o)).put d x):=by
 have hlt':(mset q none m).nx<4096:=by rw [mset_nx]; exact hlt
 refine ⟨p x s,mput o (mset q none m),?_,(M.set hq _).put hlt' o,h⟩;rw [absS_put hp];simp only [absS,ZS.app,mabs_put hlt',mput_nx,mabs_set (Nat.lt_of_lt_of_le hq M.top),mset_nx]
end

def upsF (h:Nat->Option ZO):List (Nat × Option ZO)->(Nat->Option ZO)
 | []=>h
 | u::us=>upsF (upd h u.1 u.2) us
def newsF (h:Nat->Option ZO) (nx:Nat):List ZO->(Nat->Option ZO)
 | []=>h
 | o::os=>newsF (upd h nx (some o)) (nx+1) os

/-- An answer holds. -/
def AnsOK (P:Program) (f:FuncId) (h:Nat->Option ZO) (nx:Nat) (args zs:List Z) (ups:List (Nat × Option ZO)) (news:List ZO):Prop:=
 SpecZ P f h nx args λh' nx' zs'=>zs'=zs/\nx'=nx+news.length/\h'=newsF (upsF h ups) nx news

/-- An answer of a round holds. -/
def AnsY (P:Program) (q:Nat) (h:Nat->Option ZO) (nx:Nat) (args zs:List Z) (ups:List (Nat × Option ZO)) (news:List ZO):Prop:=
 SpecY P q h nx args λh' nx' zs'=>zs'=zs/\nx'=nx+news.length/\h'=newsF (upsF h ups) nx news
/-- Objects let go. -/
def dropF (h:Nat->Option ZO) (dt:List Nat):Nat->Option ZO:=λr=>if r∈dt then none else h r

def YOK (P:Program) (y:YT):Prop:=
 ∀ q m args zs ups news,m.nx<=4096->(∀ r,m.nx<=r->mabs m r=none)->y q m args= .ok zs ups news->AnsY P q (mabs m) m.nx args zs ups news
def FOK (P:Program) (f:Fn3):Prop:=
 ∀ id m args,m.nx<=4096->(∀ r,m.nx<=r->mabs m r=none)->(∀ zs ups news,f id m args= .ok zs ups news->AnsOK P id (mabs m) m.nx args zs ups news)/\
  ∀ v dt,f id m args= .pan v dt->∃ val,zcv v=some val/\SpecP P id (mabs m) m.nx args val (dropF (mabs m) dt)
def GOK (P:Program) (g:YT->Fn3):Prop:=∀ y,YOK P y->FOK P (g y)
def CallsOK (P:Program) (c:CallK):Prop:=YOK P (callY c)/\GOK P (callG c)
theorem callF_eq (c:CallK):callF c=callG c (callY c):=by cases c; rfl
theorem CallsOK.f {P:Program} {c:CallK} (h:CallsOK P c):FOK P (callF c):=by rw [callF_eq]; exact h.2 _ h.1
def NoP (c:CallK):Prop:=∀ s m v,callP c s m v= .bad
theorem noP_no (c:CallK):NoP (noP c):=by cases c; exact λ_ _ _=>rfl
theorem noP_calls {P:Program} {c:CallK} (h:CallsOK P c):CallsOK P (noP c):=by cases c; exact h
theorem noP_d (c:CallK):callD (noP c)=callD c:=by cases c; rfl
theorem setD_calls {P:Program} {c:CallK} {d:DZ} (h:CallsOK P c):CallsOK P (setD d c):=by cases c; exact h
theorem setD_d (c:CallK) (d:DZ):callD (setD d c)=d:=by cases c; rfl
theorem inC_calls {P:Program} {c:CallK} (h:CallsOK P c):CallsOK P (inC c):=by cases c; exact h
theorem inC_no (c:CallK):NoP (inC c):=by cases c; exact λ_ _ _=>rfl
theorem inC_d (c:CallK):callD (inC c)= .clean:=by cases c; rfl

theorem upsK_inv {h0:Nat->Option ZO} {nb:Nat}:∀ {ups:List (Nat × Option ZO)} {m:Mem} {f:Mem->RR} {r:RR},upsK ups m f=r->r≠.bad->MOK h0 nb m->∃ m',mabs m'=upsF (mabs m) ups/\m'.nx=m.nx/\MOK h0 nb m'/\f m'=r
 | [],m,f,r,h,hb,M=>⟨m,rfl,rfl,M,h⟩
 | (q,o)::us,m,f,r,h,hb,M=>by
  obtain ⟨hq,h⟩:=bad_inv (show @Bool.rec (λ_=>RR) .bad (upsK us (mset q o m) f) (Nat.ble (Nat.succ q) m.nx)=r from h) hb;have hq:q<m.nx:=ble_inv hq;obtain ⟨m',h1,h2,h3,h4⟩:=upsK_inv h hb (M.set hq o);refine ⟨m',?_,by rw [h2,mset_nx],h3,h4⟩;rw [h1,mabs_set (Nat.lt_of_lt_of_le hq M.top)]; rfl

theorem newsK_inv {h0:Nat->Option ZO} {nb:Nat}:∀ {l:List ZO} {m:Mem} {f:Mem->RR} {r:RR},newsK l m f=r->r≠.bad->MOK h0 nb m->∃ m',mabs m'=newsF (mabs m) m.nx l/\m'.nx=m.nx+l.length/\MOK h0 nb m'/\f m'=r
 | [],m,f,r,h,hb,M=>⟨m,rfl,rfl,M,h⟩
 | o::l,m,f,r,h,hb,M=>by
  obtain ⟨hlt,h⟩:=mnew_inv (show mnew o m (λ_ m=>newsK l m f)=r from h) hb;obtain ⟨m',h1,h2,h3,h4⟩:=newsK_inv h hb (M.put hlt o);refine ⟨m',?_,by rw [h2,mput_nx,List.length_cons]; omega,h3,h4⟩;rw [h1,mabs_put hlt,mput_nx]; rfl

theorem dropK_inv {h0:Nat->Option ZO} {nb:Nat}:∀ {l:List Nat} {m:Mem} {f:Mem->RR} {r:RR},dropK l m f=r->r≠.bad->MOK h0 nb m->∃ m',mabs m'=dropF (mabs m) l/\m'.nx=m.nx/\MOK h0 nb m'/\f m'=r
 | [],m,f,r,h,hb,M=>⟨m,by funext q; simp [dropF],rfl,M,h⟩
 | q::l,m,f,r,h,hb,M=>by
  obtain ⟨hq,h⟩:=bad_inv (show @Bool.rec (λ_=>RR) .bad (dropK l (mset q none m) f) (Nat.ble (Nat.succ q) m.nx)=r from h) hb;have hq:q<m.nx:=ble_inv hq;obtain ⟨m',h1,h2,h3,h4⟩:=dropK_inv h hb (M.set hq none);refine ⟨m',?_,by rw [h2,mset_nx],h3,h4⟩;rw [h1,mabs_set (Nat.lt_of_lt_of_le hq M.top)];funext r;simp only [dropF,upd_apply,List.mem_cons];by_cases e:r=q
  . simp [e]
  . simp [e]

theorem packK_eq:∀ zs:List Z,packK zs=packZ zs
 | []=>rfl
 | [z]=>rfl
 | _::_::_=>rfl

section
variable {s:SL} {m:Mem}

theorem gxs_ok:∀ xs:List SX,(∀ s m,evs (gxs xs) s=xs.map (absS s m).ev)/\lenG (gxs xs)=xs.length
 | []=>⟨λs m=>rfl,rfl⟩
 | x::xs=>by
  obtain ⟨h1,h2⟩:=gxs_ok xs;obtain ⟨g,e,hg⟩:=gx_ok x;have hx:gxs (x::xs)= .cons g (gxs xs):=by
   show @GX.rec (λ_=>GL) (λg=>GL.cons g (gxs xs)) (gx x)=_;rw [e]
  rw [hx];refine ⟨λs m=>?_,by show (lenG (gxs xs)).succ=_; rw [h2]; rfl⟩;show g s::evs (gxs xs) s=_;rw [h1 s m,hg s m]; rfl

theorem width_eq (sz:Option Nat):widthK sz=width sz:=by cases sz<;>rfl

theorem cellsK_inv:∀ {sz:Option Nat} {xs:List SX} {f:List Z->RR} {r:RR},cellsK sz (gxs xs) s f=r->r≠.bad->(xs.all λp=>((absS s m).ev p).fitsB sz)=true/\f ((xs.map (absS s m).ev).flatMap Z.cells)=r
 | sz,[],f,r,h,hb=>⟨rfl,h⟩
 | sz,x::xs,f,r,h,hb=>by
  obtain ⟨g,e,hg⟩:=gx_ok x;have hx:gxs (x::xs)= .cons g (gxs xs):=by
   show @GX.rec (λ_=>GL) (λg=>GL.cons g (gxs xs)) (gx x)=_;rw [e]
  rw [hx] at h;have hgs:=hg s m;cases sz with
  | none=>
   obtain ⟨h1,h2,h3⟩:=zCell_inv (show zCell (g s) (cellsK none (gxs xs) s λl=>f (.cons (g s) l))=r from h) hb;obtain ⟨h4,h5⟩:=cellsK_inv h3 hb;rw [hgs] at h1 h2 h5;refine ⟨?_,?_⟩
   . simp only [List.all_cons,Bool.and_eq_true];exact ⟨h1,h4⟩
   . simp only [List.map_cons,List.flatMap_cons,h2];exact h5
  | some n=>
   obtain ⟨vs,h1,h2⟩:=zAgg_inv (show zAgg (g s) (λvs=> @Bool.rec (λ_=>RR) .bad (cellsK (some n) (gxs xs) s λl=>f (appL vs l)) (Nat.beq (lenL vs) n))=r from h) hb;obtain ⟨h3,h4⟩:=bad_inv h2 hb;have h3:=beq_inv h3;rw [lenL_eq] at h3;obtain ⟨h5,h6⟩:=cellsK_inv h4 hb;rw [hgs] at h1;rw [appL_eq] at h6;refine ⟨?_,?_⟩
   . simp only [List.all_cons,Bool.and_eq_true];refine ⟨?_,h5⟩;rw [h1]; simp [Z.fitsB,h3]
   . simp only [List.map_cons,List.flatMap_cons,h1];exact h6

theorem fillK_inv:∀ {ps:List (Nat × Nat × SX)} {zs:List Z} {f:List Z->RR} {r:RR},fillK (gps ps) s zs f=r->r≠.bad->
 fillOkZ (ps.map λp=>(p.1,p.2.1)) (ps.map λp=>(absS s m).ev p.2.2)=true/\f (fillZ zs (ps.map λp=>(p.1,p.2.1)) (ps.map λp=>(absS s m).ev p.2.2))=r
 | [],zs,f,r,h,hb=>⟨rfl,h⟩
 | (off,n,x)::ps,zs,f,r,h,hb=>by
  obtain ⟨g,e,hg⟩:=gx_ok x;have hx:gps ((off,n,x)::ps)= .cons off n g (gps ps):=by
   show @GX.rec (λ_=>PL) (λg=>PL.cons off n g (gps ps)) (gx x)=_;rw [e]
  rw [hx] at h;obtain ⟨h1,h2⟩:=zCells_inv (show zCells (g s) (λcs=> @Bool.rec (λ_=>RR) .bad (patK zs off cs λzs=>fillK (gps ps) s zs f) (Nat.beq (lenL cs) n))=r from h) hb;obtain ⟨h3,h4⟩:=bad_inv h2 hb;have h3:=beq_inv h3;rw [lenL_eq] at h3;obtain ⟨h5,h6⟩:=patK_inv h4 hb;obtain ⟨h7,h8⟩:=fillK_inv h6 hb;rw [hg s m] at h1 h3 h8;refine ⟨?_,?_⟩
  . simp only [List.map_cons,fillOkZ,h1,Bool.and_eq_true,beq_iff_eq];exact ⟨h3,h7⟩
  . simp only [List.map_cons,fillZ];rw [h3] at h8;exact h8

theorem bdN_inv {x:SX} {g:Gt} (hg:GetOK x g) {n:Nat} {f:Nat->RR} {r:RR} (h:bdN g s n f=r) (hb:r≠.bad):∃ l:Nat,(∀ d,zlow d (some ((absS s m).ev x))=some (l:Int))/\f l=r:=by
 obtain ⟨k,l,h1,h2⟩:=zNat_inv h hb;rw [hg s m] at h1;exact ⟨l,λd=>by rw [h1]; rfl,h2⟩
theorem bdL_inv {x:Option SX} {n:Nat} {f:Nat->RR} {r:RR} (h:bdL x s n f=r) (hb:r≠.bad):∃ l:Nat,zlow 0 (x.map (absS s m).ev)=some (l:Int)/\f l=r:=by
 cases x with
 | none=>exact ⟨0,rfl,h⟩
 | some x=>
  obtain ⟨g,e,hg⟩:=gx_ok x;have:bdL (some x)=bdN g:=by show @GX.rec (λ_=>Bd) bdN (gx x)=_; rw [e]
  rw [this] at h;obtain ⟨l,h1,h2⟩:=bdN_inv (m:=m) hg h hb;exact ⟨l,h1 _,h2⟩
theorem bdH_inv {x:Option SX} {n:Nat} {f:Nat->RR} {r:RR} (h:bdH x s n f=r) (hb:r≠.bad):∃ l:Nat,zlow (n:Int) (x.map (absS s m).ev)=some (l:Int)/\f l=r:=by
 cases x with
 | none=>exact ⟨n,rfl,h⟩
 | some x=>
  obtain ⟨g,e,hg⟩:=gx_ok x;have:bdH (some x)=bdN g:=by show @GX.rec (λ_=>Bd) bdN (gx x)=_; rw [e]
  rw [this] at h;obtain ⟨l,h1,h2⟩:=bdN_inv (m:=m) hg h hb;exact ⟨l,h1 _,h2⟩

theorem elemsK_inv {w0:Nat} {z:Z} {f:List Z->Nat->RR} {r:RR} (h:elemsK w0 z m f=r) (hb:r≠.bad):∃ l q,zelems (mabs m) w0 z=some (l,q)/\f l q=r:=by
 rcases zSlN_inv h hb with ⟨rfl,h⟩ | ⟨a,o,n,w,rfl,h⟩
 . exact ⟨_,_,rfl,h⟩
 . obtain ⟨T,fx,cs,h1,h⟩:=oOb_inv h hb;obtain ⟨h2,h⟩:=bad_inv h hb;obtain ⟨h3,h⟩:=subK_inv h hb;refine ⟨_,_,?_,h⟩;have h1':mabs m a=some (.ob T fx cs):=h1;have h2:=beq_inv h2;subst h2;show (match mabs m a with | some (.ob _ _ cs)=>if w == w && Nat.ble (o+n*w) cs.length then some ((cs.drop o).take (n*w),n) else none | _=>none)=_;rw [h1'];simp only [beq_self_eq_true,Bool.true_and];rw [if_pos (show Nat.ble (o+n*w) cs.length=true from ble_true h3)];rfl
theorem fits47_inv {n b:Nat} {x r:RR} (h:fits47 n b x=r) (hb:r≠.bad):n*b<=140737488355328/\n<=140737488355328/\x=r:=by
 obtain ⟨h1,h⟩:=bad_inv h hb;obtain ⟨h2,h⟩:=bad_inv h hb;exact ⟨ble_inv h1,ble_inv h2,h⟩
end
end Go.Zw
namespace Go.Zw
open Go.Vw (Nul V SX SO SRes width abin aun)

section
variable {P:Program} {h0:Nat->Option ZO} {nb:Nat} {k:Kont} {c:CallK} {r:RR} {d:Option Nat} {s:SL} {m:Mem} {F:Stp}

/-- An operation of the base, by what it answers. -/
def SoOK (P:Program) (d:Option Nat) (so:SO) (K:ZS->Prop) (S:ZS):Prop:=∃ x δ,zop S.ev S.h S.nx so=some (x,δ)/\K ((S.app δ).put d x)
theorem SoOK.core {so:SO} {K:ZS->Prop} {S:ZS} (hn:∀ f as,so≠.call f as) (h:SoOK P d so K S):ZCore P d so K S:=by
 unfold ZCore;split
 . exact absurd rfl (hn _ _)
 . exact h

theorem mk_inj {f g:Stp} (h:FO.mk f=FO.mk g):f=g:=by cases h; rfl

theorem kMv_ok {x:SX} (hF:kMv x d= .mk F) (hr:F k s m c=r) (hb:r≠.bad) (M:MOK h0 nb m):SoOK P d (.mv x) (Post h0 nb k c r) (absS s m):=by
 obtain ⟨g,hg,hF⟩:=g1_inv hF;obtain ⟨p,hp,hF⟩:=gd_inv hF hr hb;have hr:xMv g p k s m c=r:=by rw [mk_inj hF]; exact hr
 exact ⟨_,_,rfl,post_no hp M (by rw [<- hg s m]; exact hr)⟩

theorem kPick_ok {t x y:SX} (hF:kPick t x y d= .mk F) (hr:F k s m c=r) (hb:r≠.bad) (M:MOK h0 nb m):SoOK P d (.pick t x y) (Post h0 nb k c r) (absS s m):=by
 obtain ⟨gt,hgt,hF⟩:=g1_inv hF;obtain ⟨g,hg,hF⟩:=g1_inv hF;obtain ⟨g',hg',hF⟩:=g1_inv hF;obtain ⟨p,hp,hF⟩:=gd_inv hF hr hb;have hr:xPick gt g g' p k s m c=r:=by rw [mk_inj hF]; exact hr
 obtain ⟨b,h1,h2⟩:=zBool_inv hr hb;rw [hgt s m] at h1;refine ⟨if b then (absS s m).ev x else (absS s m).ev y,.no,?_,?_⟩
 . simp only [zop,h1]
 . refine post_no hp M ?_;cases b
   . have h2:k (p (g' s) s) m c=r:=h2;rw [hg' s m] at h2; exact h2
   . have h2:k (p (g s) s) m c=r:=h2;rw [hg s m] at h2; exact h2

theorem kBox_ok {T:TypeId} {x:SX} (hF:kBox T x d= .mk F) (hr:F k s m c=r) (hb:r≠.bad) (M:MOK h0 nb m):SoOK P d (.box T x) (Post h0 nb k c r) (absS s m):=by
 obtain ⟨g,hg,hF⟩:=g1_inv hF;obtain ⟨p,hp,hF⟩:=gd_inv hF hr hb;have hr:xBox T g p k s m c=r:=by rw [mk_inj hF]; exact hr
 obtain ⟨h1,h2⟩:=zCells_inv hr hb;obtain ⟨h3,h4⟩:=mnew_inv h2 hb;rw [hg s m] at h1 h4;refine ⟨.ptr (absS s m).nx 0,.new (.ob T true ((absS s m).ev x).cells),?_,post_new hp M h3 h4⟩;simp only [zop,h1]
theorem boxA_box {ev:SX->Z} {h:Nat->Option ZO} {nx n:Nat} {T:TypeId} {x:SX}:zop ev h nx (.boxA T n x)=zop ev h nx (.box T x):=rfl

theorem kAlloc_ok {T:TypeId} {zs:List V} (hF:kAlloc T zs d= .mk F) (hr:F k s m c=r) (hb:r≠.bad) (M:MOK h0 nb m):SoOK P d (.alloc T zs) (Post h0 nb k c r) (absS s m):=by
 obtain ⟨p,hp,hF⟩:=gd_inv hF hr hb;have hr:xAlloc T (zs.map vz1) p k s m c=r:=by rw [mk_inj hF]; exact hr
 obtain ⟨h3,h4⟩:=mnew_inv hr hb;exact ⟨_,_,rfl,post_new hp M h3 h4⟩
theorem allocA_alloc {ev:SX->Z} {h:Nat->Option ZO} {nx:Nat} {T:TypeId} {x:List V}:zop ev h nx (.allocA T x)=zop ev h nx (.alloc T x):=rfl

theorem kBuild_ok {zs:List V} {ps:List (Nat × Nat × SX)} (hF:kBuild zs ps d= .mk F) (hr:F k s m c=r) (hb:r≠.bad) (M:MOK h0 nb m):SoOK P d (.build zs ps) (Post h0 nb k c r) (absS s m):=by
 obtain ⟨p,hp,hF⟩:=gd_inv hF hr hb;have hr:xBuild (zs.map vz1) (gps ps) p k s m c=r:=by rw [mk_inj hF]; exact hr
 obtain ⟨h1,h2⟩:=fillK_inv (m:=m) hr hb;refine ⟨.agg (fillZ (zs.map vz1) (ps.map λp=>(p.1,p.2.1)) (ps.map λp=>(absS s m).ev p.2.2)),.no,?_,post_no hp M h2⟩;simp only [zop,h1,if_true]
theorem buildA_build {ev:SX->Z} {h:Nat->Option ZO} {nx:Nat} {zs:List V} {ps:List (Nat × Nat × SX)}:zop ev h nx (.buildA zs ps)=zop ev h nx (.build zs ps):=rfl

theorem kMkSl_ok {T:TypeId} {sz:Option Nat} {xs:List SX} (hF:kMkSl T sz xs d= .mk F) (hr:F k s m c=r) (hb:r≠.bad) (M:MOK h0 nb m):SoOK P d (.mkSl T sz xs) (Post h0 nb k c r) (absS s m):=by
 obtain ⟨p,hp,hF⟩:=gd_inv hF hr hb;have hr:xMkSl T sz (gxs xs) (lenG (gxs xs)) p k s m c=r:=by rw [mk_inj hF]; exact hr
 obtain ⟨h1,h2⟩:=cellsK_inv (m:=m) hr hb;obtain ⟨h3,h4⟩:=mnew_inv h2 hb;rw [(gxs_ok xs).2,width_eq] at h4;refine ⟨.sl (absS s m).nx 0 xs.length (width sz),.new (.ob T true ((xs.map (absS s m).ev).flatMap Z.cells)),?_,post_new hp M h3 h4⟩;simp only [zop,h1,if_true]

theorem zpart_one {cs:List Z} {j:Nat} {z:Z} (h:cs[j]? =some z):zpart cs j none=some z:=h
theorem zpart_some {cs:List Z} {j n:Nat} (h:j+n<=cs.length):zpart cs j (some n)=some (.agg ((cs.drop j).take n)):=by
 show (if Nat.ble (j+n) cs.length then _ else _)=_;rw [if_pos (ble_true h)]

theorem xLoad1_ok {x:SX} {g:Gt} (hg:GetOK x g) {p:Pt} (hp:PutOK d p) (hr:xLoad1 g p k s m c=r) (hb:r≠.bad) (M:MOK h0 nb m):SoOK P d (.load none x) (Post h0 nb k c r) (absS s m):=by
 obtain ⟨q,j,h1,h2⟩:=zPtr_inv hr hb;obtain ⟨T,fx,cs,h3,h4⟩:=oOb_inv h2 hb;obtain ⟨z,h5,h6⟩:=nthK_inv h4 hb;rw [hg s m] at h1;have h3:(absS s m).h q=some (.ob T fx cs):=h3;refine ⟨z,.no,?_,post_no hp M h6⟩;simp only [zop,h1,h3,zpart_one h5,Option.map_some]
theorem xLoad_ok {x:SX} {n:Nat} {g:Gt} (hg:GetOK x g) {p:Pt} (hp:PutOK d p) (hr:xLoad n g p k s m c=r) (hb:r≠.bad) (M:MOK h0 nb m):
 SoOK P d (.load (some n) x) (Post h0 nb k c r) (absS s m)/\SoOK P d (.loadA n x) (Post h0 nb k c r) (absS s m):=by
 obtain ⟨q,j,h1,h2⟩:=zPtr_inv hr hb;obtain ⟨T,fx,cs,h3,h4⟩:=oOb_inv h2 hb;obtain ⟨h5,h6⟩:=subK_inv h4 hb;rw [hg s m] at h1;have h3:(absS s m).h q=some (.ob T fx cs):=h3;refine ⟨⟨_,.no,?_,post_no hp M h6⟩,⟨_,.no,?_,post_no hp M h6⟩⟩<;>simp only [zop,h1,h3,zpart_some h5,Option.map_some]
theorem kLoad_ok {x:SX} {sz:Option Nat} (hF:kLoad sz x d= .mk F) (hr:F k s m c=r) (hb:r≠.bad) (M:MOK h0 nb m):SoOK P d (.load sz x) (Post h0 nb k c r) (absS s m):=by
 obtain ⟨g,hg,hF⟩:=g1_inv hF;obtain ⟨p,hp,hF⟩:=gd_inv hF hr hb;cases sz with
 | none=>exact xLoad1_ok hg hp (by rw [mk_inj hF]; exact hr) hb M
 | some n=>exact (xLoad_ok hg hp (by rw [mk_inj hF]; exact hr) hb M).1
theorem kLoadA_ok {x:SX} {n:Nat} (hF:kLoadA n x d= .mk F) (hr:F k s m c=r) (hb:r≠.bad) (M:MOK h0 nb m):SoOK P d (.loadA n x) (Post h0 nb k c r) (absS s m):=by
 obtain ⟨g,hg,hF⟩:=g1_inv hF;obtain ⟨p,hp,hF⟩:=gd_inv hF hr hb;exact (xLoad_ok hg hp (by rw [mk_inj hF]; exact hr) hb M).2

theorem xStore1_ok {x v:SX} {g g':Gt} (hg:GetOK x g) (hg':GetOK v g') {p:Pt} (hp:PutOK d p) (hr:xStore1 g g' p k s m c=r) (hb:r≠.bad) (M:MOK h0 nb m):SoOK P d (.store none x v) (Post h0 nb k c r) (absS s m):=by
 obtain ⟨q,j,h1,h2⟩:=zPtr_inv hr hb;obtain ⟨T,fx,cs,h3,h4⟩:=oOb_inv h2 hb;obtain ⟨h5,h6,h7⟩:=zCell_inv h4 hb;obtain ⟨h8,h9⟩:=patK_inv h7 hb;rw [hg s m] at h1;have hv:=hg' s m;rw [hv] at h5 h6 h9;have hq:=M.lt h3;have h3:(absS s m).h q=some (.ob T fx cs):=h3;refine ⟨.tup [],.turn q (.ob T fx (cs.take j++((absS s m).ev v).cells++cs.drop (j+((absS s m).ev v).cells.length))),?_,post_turn hp M hq ?_⟩
 . simp only [zop,h1,h3,Z.fitsB,h5,h6,Bool.true_and];rw [if_pos (ble_true (show j+[(absS s m).ev v].length<=cs.length from h8))]
 . rw [h6]; exact h9
theorem xStore_ok {x v:SX} {n:Nat} {g g':Gt} (hg:GetOK x g) (hg':GetOK v g') {p:Pt} (hp:PutOK d p) (hr:xStore n g g' p k s m c=r) (hb:r≠.bad) (M:MOK h0 nb m):
 SoOK P d (.store (some n) x v) (Post h0 nb k c r) (absS s m)/\SoOK P d (.storeA n x v) (Post h0 nb k c r) (absS s m):=by
 obtain ⟨q,j,h1,h2⟩:=zPtr_inv hr hb;obtain ⟨T,fx,cs,h3,h4⟩:=oOb_inv h2 hb;obtain ⟨vs,h5,h6⟩:=zAgg_inv h4 hb;obtain ⟨h7,h8⟩:=bad_inv h6 hb;have h7:=beq_inv h7;rw [lenL_eq] at h7;obtain ⟨h9,h10⟩:=patK_inv h8 hb;rw [hg s m] at h1;rw [hg' s m] at h5;have hq:=M.lt h3;have h3:(absS s m).h q=some (.ob T fx cs):=h3;refine ⟨⟨.tup [],.turn q (.ob T fx (cs.take j++vs++cs.drop (j+vs.length))),?_,post_turn hp M hq h10⟩,⟨.tup [],.turn q (.ob T fx (cs.take j++vs++cs.drop (j+vs.length))),?_,post_turn hp M hq h10⟩⟩;all_goals
  simp only [zop,h1,h3,h5,Z.fitsB,Z.cells,h7,beq_self_eq_true,Bool.true_and];rw [if_pos (ble_true (by rw [<- h7]; exact h9))]
theorem kStore_ok {x v:SX} {sz:Option Nat} (hF:kStore sz x v d= .mk F) (hr:F k s m c=r) (hb:r≠.bad) (M:MOK h0 nb m):SoOK P d (.store sz x v) (Post h0 nb k c r) (absS s m):=by
 obtain ⟨g,hg,hF⟩:=g1_inv hF;obtain ⟨g',hg',hF⟩:=g1_inv hF;obtain ⟨p,hp,hF⟩:=gd_inv hF hr hb;cases sz with
 | none=>exact xStore1_ok hg hg' hp (by rw [mk_inj hF]; exact hr) hb M
 | some n=>exact (xStore_ok hg hg' hp (by rw [mk_inj hF]; exact hr) hb M).1
theorem kStoreA_ok {x v:SX} {n:Nat} (hF:kStoreA n x v d= .mk F) (hr:F k s m c=r) (hb:r≠.bad) (M:MOK h0 nb m):SoOK P d (.storeA n x v) (Post h0 nb k c r) (absS s m):=by
 obtain ⟨g,hg,hF⟩:=g1_inv hF;obtain ⟨g',hg',hF⟩:=g1_inv hF;obtain ⟨p,hp,hF⟩:=gd_inv hF hr hb;exact (xStore_ok hg hg' hp (by rw [mk_inj hF]; exact hr) hb M).2

theorem kBin_ok {op:BinOp} {x y:SX} (hF:kBin op x y d= .mk F) (hr:F k s m c=r) (hb:r≠.bad) (M:MOK h0 nb m):SoOK P d (.bin op x y) (Post h0 nb k c r) (absS s m):=by
 obtain ⟨g,hg,hF⟩:=g1_inv hF;obtain ⟨g',hg',hF⟩:=g1_inv hF;obtain ⟨p,hp,hF⟩:=gd_inv hF hr hb;obtain ⟨a,b,ha,hs,hF⟩:=gar_inv hF;have hr:xBin a b g g' p k s m c=r:=by rw [mk_inj hF]; exact hr
 rcases zIS_inv hr hb with ⟨k1,i,h1,h2⟩ | ⟨u,h1,h2⟩
 . obtain ⟨k2,j,h3,h4⟩:=zInt_inv h2 hb;rw [hg s m] at h1; rw [hg' s m] at h3;obtain ⟨cc,v,e1,e2,e3⟩:=ha _ _ _ _ _ _ h4 hb;refine ⟨vz v,.no,?_,post_no hp M e3⟩;simp only [zop,h1,h3,Z.scal,e2,e1,if_true,Option.map_some]
 . obtain ⟨v,h3,h4⟩:=zStr_inv h2 hb;rw [hg s m] at h1; rw [hg' s m] at h3;obtain ⟨cc,x',e1,e2,e3⟩:=hs _ _ _ _ h4 hb;refine ⟨vz x',.no,?_,post_no hp M e3⟩;simp only [zop,h1,h3,Z.scal,e2,e1,if_true,Option.map_some]

theorem kEqb_ok {neg:Bool} {x y:SX} (hF:kEqb neg x y d= .mk F) (hr:F k s m c=r) (hb:r≠.bad) (M:MOK h0 nb m):SoOK P d (.eqb neg x y) (Post h0 nb k c r) (absS s m):=by
 obtain ⟨g,hg,hF⟩:=g1_inv hF;obtain ⟨g',hg',hF⟩:=g1_inv hF;obtain ⟨p,hp,hF⟩:=gd_inv hF hr hb;have hr:xEqb neg g g' p k s m c=r:=by rw [mk_inj hF]; exact hr
 obtain ⟨a,h1,h2⟩:=zBool_inv hr hb;obtain ⟨b,h3,h4⟩:=zBool_inv h2 hb;rw [hg s m] at h1; rw [hg' s m] at h3;refine ⟨.b (if neg then a != b else a == b),.no,?_,post_no hp M ?_⟩
 . simp only [zop,h1,h3]
 . cases neg<;>cases a<;>cases b<;>exact h4

theorem kUn_ok {op:UnOp} {x:SX} (hF:kUn op x d= .mk F) (hr:F k s m c=r) (hb:r≠.bad) (M:MOK h0 nb m):SoOK P d (.un op x) (Post h0 nb k c r) (absS s m):=by
 obtain ⟨g,hg,hF⟩:=g1_inv hF;obtain ⟨p,hp,hF⟩:=gd_inv hF hr hb;cases op with
 | neg=>
  have hr:xNeg g p k s m c=r:=by rw [mk_inj hF]; exact hr
  obtain ⟨k1,i,h1,h2⟩:=zInt_inv hr hb;rw [hg s m] at h1;have h3:=wr_inv h2 hb;rw [negI_eq] at h3;refine ⟨.i k1 (k1.wrap (0-i)),.no,?_,post_no hp M ?_⟩
  . simp only [zop,h1,Z.scal,aun,Option.map_some]; rfl
  . rw [Int.zero_sub]; exact h3
 | xor=>rw [<- mk_inj hF] at hr; exact absurd hr.symm hb
 | not=>
  have hr:xNot g p k s m c=r:=by rw [mk_inj hF]; exact hr
  obtain ⟨a,h1,h2⟩:=zBool_inv hr hb;rw [hg s m] at h1;rw [notB_eq] at h2;refine ⟨.b (!a),.no,?_,post_no hp M h2⟩;simp only [zop,h1,Z.scal,aun,Option.map_some]; rfl
 | plus=>rw [<- mk_inj hF] at hr; exact absurd hr.symm hb

theorem kConv_ok {k2:IntKind} {x:SX} (hF:kConv k2 x d= .mk F) (hr:F k s m c=r) (hb:r≠.bad) (M:MOK h0 nb m):SoOK P d (.conv k2 x) (Post h0 nb k c r) (absS s m):=by
 obtain ⟨g,hg,hF⟩:=g1_inv hF;obtain ⟨p,hp,hF⟩:=gd_inv hF hr hb;have hr:xConv k2 g p k s m c=r:=by rw [mk_inj hF]; exact hr
 obtain ⟨k1,i,h1,h2⟩:=zInt_inv hr hb;rw [hg s m] at h1;have h3:=wr_inv h2 hb;refine ⟨.i k2 (k2.wrap i),.no,?_,post_no hp M h3⟩;simp only [zop,h1]

theorem kMkFn_ok {f:FuncId} {cs:List SX} (hF:kMkFn f cs d= .mk F) (hr:F k s m c=r) (hb:r≠.bad) (M:MOK h0 nb m):SoOK P d (.makeFn f cs) (Post h0 nb k c r) (absS s m):=by
 obtain ⟨p,hp,hF⟩:=gd_inv hF hr hb;have hr:xMkFn f (gxs cs) p k s m c=r:=by rw [mk_inj hF]; exact hr
 refine ⟨_,_,rfl,post_no hp M ?_⟩;rw [<- (gxs_ok cs).1 s m]; exact hr
theorem kMkB_ok {f:FuncId} {x:SX} (hF:kMkB f x d= .mk F) (hr:F k s m c=r) (hb:r≠.bad) (M:MOK h0 nb m):SoOK P d (.makeB f x) (Post h0 nb k c r) (absS s m):=by
 obtain ⟨g,hg,hF⟩:=g1_inv hF;obtain ⟨p,hp,hF⟩:=gd_inv hF hr hb;have hr:xMkB f g p k s m c=r:=by rw [mk_inj hF]; exact hr
 obtain ⟨q,j,h1,h2⟩:=zPtr_inv hr hb;rw [hg s m] at h1;refine ⟨.clo f [.ptr q j] [],.no,?_,post_no hp M h2⟩;simp only [zop,h1]
theorem kMake_ok {T:TypeId} {sz:Option Nat} {z:V} {bytes:Nat} {l:SX} (hF:kMake T sz z bytes l d= .mk F) (hr:F k s m c=r) (hb:r≠.bad) (M:MOK h0 nb m):SoOK P d (.make T sz z bytes l) (Post h0 nb k c r) (absS s m):=by
 obtain ⟨g,hg,hF⟩:=g1_inv hF;obtain ⟨p,hp,hF⟩:=gd_inv hF hr hb;have hr:xMake T (widthK sz) (Z.cells (vz z)) bytes g p k s m c=r:=by rw [mk_inj hF]; exact hr
 obtain ⟨k1,n,h1,h2⟩:=zNat_inv hr hb;obtain ⟨h3,h4⟩:=bad_inv h2 hb;obtain ⟨h5,h6⟩:=bad_inv h4 hb;obtain ⟨h7,h8⟩:=mnew_inv h6 hb;rw [hg s m] at h1;rw [repsL_eq,width_eq] at h8;have h3:=ble_inv h3;have h5:=ble_inv h5;refine ⟨.sl (absS s m).nx 0 n (width sz),.new (.ob T true ((List.replicate n (vz z).cells).flatten)),?_,post_new hp M h7 h8⟩;simp only [zop,h1,Int.toNat_natCast];rw [if_pos];simp only [Bool.and_eq_true,decide_eq_true_eq];have h5:n*bytes<=140737488355328:=h5;refine ⟨⟨by omega,?_⟩,by omega⟩;have:((n*bytes:Nat):Int)<=140737488355328:=by omega
 rw [Int.natCast_mul] at this;exact this
end
end Go.Zw
namespace Go.Zw
open Go.Vw (Nul V SX SO SRes width abin aun)

/-- What an operation gives: its slot, the heap. -/
def outS (d:Option Nat) (S:ZS) (T:ZS):ZS:=⟨match d with | some d=>upd S.σ d (T.σ d) | none=>S.σ,T.h,T.nx⟩
theorem put_out (d:Option Nat) (S S':ZS) (x:Z) (h:Nat->Option ZO) (nx:Nat):outS d S' ((⟨S.σ,h,nx⟩:ZS).put d x)=(⟨S'.σ,h,nx⟩:ZS).put d x:=by
 cases d with
 | none=>rfl
 | some d=>simp [outS,ZS.put]
theorem zput_eq (d:Option Nat) (S:ZS) (δ:ZD) (x:Z):(S.app δ).put d x=(⟨S.σ,(S.app δ).h,(S.app δ).nx⟩:ZS).put d x:=by
 cases δ<;>rfl

section
variable {P:Program} {h0:Nat->Option ZO} {nb:Nat} {k:Kont} {c:CallK} {r:RR} {d:Option Nat} {s:SL} {m:Mem} {F:Stp}

theorem roomK_inv {q o h w n:Nat} {x:RR} (e:roomK q o h w n m x=r) (hb:r≠.bad):(decide ((h:Int)<=n) || roomZ (mabs m) q o h w)=true/\x=r:=by
 unfold roomK at e;cases e1:Nat.ble h n with
 | true=>rw [e1] at e; have:=ble_inv e1; exact ⟨by simp; omega,e⟩
 | false=>
  rw [e1] at e;obtain ⟨T,fx,cs,h1,h2⟩:=oOb_inv e hb;obtain ⟨h3,h4⟩:=bad_inv h2 hb;obtain ⟨h5,h6⟩:=bad_inv' h4 hb;have h3:=ble_inv h3;rw [lenL_eq] at h3;refine ⟨?_,h6⟩;have h1:mabs m q=some (.ob T fx cs):=h1;have h7:=bne_inv h5;simp only [Bool.or_eq_true];refine .inr ?_;simp only [roomZ,h1,Int.toNat_natCast,Bool.and_eq_true,Bool.not_eq_true',beq_eq_false_iff_ne,Nat.ble_eq];exact ⟨h7,h3⟩

theorem kSlice_ok {sz:Option (Option Nat)} {x:SX} {lo hi:Option SX} (hF:kSlice sz x lo hi d= .mk F) (hr:F k s m c=r) (hb:r≠.bad) (M:MOK h0 nb m):SoOK P d (.slice sz x lo hi) (Post h0 nb k c r) (absS s m):=by
 obtain ⟨g,hg,hF⟩:=g1_inv hF;obtain ⟨p,hp,hF⟩:=gd_inv hF hr hb;cases sz with
 | none=>
  have hr:xSliceS g (bdL lo) (bdH hi) p k s m c=r:=by rw [mk_inj hF]; exact hr
  obtain ⟨t,h1,h2⟩:=zStr_inv hr hb;rw [frc_eq,lenB_eq,<-ba_size] at h2;obtain ⟨l,h3,h4⟩:=bdL_inv (m:=m) h2 hb;obtain ⟨h,h5,h6⟩:=bdH_inv (m:=m) h4 hb;obtain ⟨h7,h8⟩:=bad_inv h6 hb;obtain ⟨h9,h10⟩:=bad_inv h8 hb;rw [hg s m] at h1;have h7:=ble_inv h7;have h9:=ble_inv h9;have e:mkS (subB t.data.toList l (Nat.sub h l))=t.extract l h:=by
   apply ba_ext;have key:∀ (cs:List UInt8) (o n:Nat),subB cs o n=(cs.drop o).take n:=by
    intro cs;induction cs with
    | nil=>intro o n; simp [subB]
    | cons z cs ih=>
     intro o n;cases o with
     | zero=>cases n with
      | zero=>rfl
      | succ n=>show z::subB cs 0 n=_; rw [ih]; simp
     | succ o=>show subB cs o n=_; rw [ih]; simp
   show subB t.data.toList l (h-l)=_;rw [key,ByteArray.data_extract,Array.toList_extract]
  rw [e] at h10;refine ⟨.s (t.extract l h),.no,?_,post_no hp M h10⟩;simp only [zop,h1,h3,h5,Option.isNone_none,Bool.true_and,Int.toNat_natCast];rw [if_pos];simp only [Bool.and_eq_true,decide_eq_true_eq];omega
 | some sz=>
  have hr:xSlice (widthK sz) g (bdL lo) (bdH hi) p k s m c=r:=by rw [mk_inj hF]; exact hr
  rw [width_eq] at hr;rcases zSlN_inv hr hb with ⟨h1,h2⟩ | ⟨q,o,n,w,h1,h2⟩
  . obtain ⟨l,h3,h4⟩:=bdL_inv (m:=m) h2 hb;obtain ⟨h,h5,h6⟩:=bdH_inv (m:=m) h4 hb;obtain ⟨h7,h8⟩:=bad_inv h6 hb;obtain ⟨h9,h10⟩:=bad_inv h8 hb;rw [hg s m] at h1;have h7:=beq_inv h7;have h9:=beq_inv h9;subst h7; subst h9;refine ⟨.nil,.no,?_,post_no hp M h10⟩;have h5:zlow 0 (hi.map (absS s m).ev)=some ((0:Nat):Int):=h5;simp only [zop,h1,h3,h5];rfl
  . obtain ⟨l,h3,h4⟩:=bdL_inv (m:=m) h2 hb;obtain ⟨h,h5,h6⟩:=bdH_inv (m:=m) h4 hb;obtain ⟨h7,h8⟩:=bad_inv h6 hb;obtain ⟨h9,h10⟩:=roomK_inv h8 hb;obtain ⟨h11,h12⟩:=bad_inv h10 hb;rw [frc_eq,frc_eq] at h12;rw [hg s m] at h1;have h7:=ble_inv h7;have h11:=beq_inv h11;refine ⟨.sl q (o+l*w) (h-l) w,.no,?_,post_no hp M h12⟩;simp only [zop,h1,h3,h5,Int.toNat_natCast];have h9:(decide ((h:Int)<=n) || roomZ (absS s m).h q o h w)=true:=h9;rw [h9,if_pos];simp only [Bool.and_true,Bool.and_eq_true,decide_eq_true_eq,beq_iff_eq];omega

theorem kFAddr_ok {off:Nat} {sz:Option Nat} {x:SX} (hF:kFAddr off sz x d= .mk F) (hr:F k s m c=r) (hb:r≠.bad) (M:MOK h0 nb m):SoOK P d (.fieldAddr off sz x) (Post h0 nb k c r) (absS s m):=by
 obtain ⟨g,hg,hF⟩:=g1_inv hF;obtain ⟨p,hp,hF⟩:=gd_inv hF hr hb;have hr:xFAddr off g p k s m c=r:=by rw [mk_inj hF]; exact hr
 obtain ⟨q,j,h1,h2⟩:=zPtr_inv hr hb;rw [frc_eq] at h2;rw [hg s m] at h1;refine ⟨.ptr q (j+off),.no,?_,post_no hp M h2⟩;simp only [zop,h1]
theorem kField_ok {off:Nat} {sz:Option Nat} {x:SX} (hF:kField off sz x d= .mk F) (hr:F k s m c=r) (hb:r≠.bad) (M:MOK h0 nb m):SoOK P d (.field off sz x) (Post h0 nb k c r) (absS s m):=by
 obtain ⟨g,hg,hF⟩:=g1_inv hF;obtain ⟨p,hp,hF⟩:=gd_inv hF hr hb;cases sz with
 | none=>
  have hr:xField1 off g p k s m c=r:=by rw [mk_inj hF]; exact hr
  obtain ⟨cs,h1,h2⟩:=zAgg_inv hr hb;obtain ⟨z,h3,h4⟩:=nthK_inv h2 hb;rw [hg s m] at h1;refine ⟨z,.no,?_,post_no hp M h4⟩;simp only [zop,h1,zpart_one h3,Option.map_some]
 | some n=>
  have hr:xField off n g p k s m c=r:=by rw [mk_inj hF]; exact hr
  obtain ⟨cs,h1,h2⟩:=zAgg_inv hr hb;obtain ⟨h3,h4⟩:=subK_inv h2 hb;rw [hg s m] at h1;refine ⟨_,.no,?_,post_no hp M h4⟩;simp only [zop,h1,zpart_some h3,Option.map_some]
theorem kIdx_ok {sz:Option Nat} {x i:SX} (hF:kIdx sz x i d= .mk F) (hr:F k s m c=r) (hb:r≠.bad) (M:MOK h0 nb m):SoOK P d (.indexAddr sz x i) (Post h0 nb k c r) (absS s m):=by
 obtain ⟨g,hg,hF⟩:=g1_inv hF;obtain ⟨g',hg',hF⟩:=g1_inv hF;obtain ⟨p,hp,hF⟩:=gd_inv hF hr hb;have hr:xIdx (widthK sz) g g' p k s m c=r:=by rw [mk_inj hF]; exact hr
 obtain ⟨q,o,n,w,h1,h2⟩:=zSl_inv hr hb;obtain ⟨k1,j,h3,h4⟩:=zNat_inv h2 hb;obtain ⟨h5,h6⟩:=bad_inv h4 hb;obtain ⟨h7,h8⟩:=bad_inv h6 hb;rw [frc_eq] at h8;rw [hg s m] at h1; rw [hg' s m] at h3;have h5:=ble_inv h5;have h7:=beq_inv h7;rw [width_eq] at h7;refine ⟨.ptr q (o+j*w),.no,?_,post_no hp M h8⟩;simp only [zop,h1,h3,Int.toNat_natCast];rw [if_pos];simp only [Bool.and_eq_true,decide_eq_true_eq,beq_iff_eq];omega
theorem kIndex_ok {x i:SX} (hF:kIndex x i d= .mk F) (hr:F k s m c=r) (hb:r≠.bad) (M:MOK h0 nb m):SoOK P d (.index x i) (Post h0 nb k c r) (absS s m):=by
 obtain ⟨g,hg,hF⟩:=g1_inv hF;obtain ⟨g',hg',hF⟩:=g1_inv hF;obtain ⟨p,hp,hF⟩:=gd_inv hF hr hb;have hr:xIndex g g' p k s m c=r:=by rw [mk_inj hF]; exact hr
 obtain ⟨t,h1,h2⟩:=zStr_inv hr hb;obtain ⟨k1,j,h3,h4⟩:=zNat_inv h2 hb;rw [hg s m] at h1; rw [hg' s m] at h3;have key:∀ (l:List UInt8) (j:Nat),(@List.rec UInt8 (λ_=>Nat->RR) (λ_=>.bad) (λx _ ih j=> @Nat.rec (λ_=>RR) (frc (u8n x) λn=>k (p (.i .u8 (.ofNat n)) s) m c) (λj _=>ih j) j) l) j=r->
  j<l.length/\k (p (.i .u8 (.ofNat ((l.getD j 0).toNat))) s) m c=r:=by
  intro l;induction l with
  | nil=>intro j h; exact absurd h.symm hb
  | cons y l ih=>
   intro j h;cases j with
   | zero=>
    have h:frc (u8n y) (λn=>k (p (.i .u8 (.ofNat n)) s) m c)=r:=h;rw [frc_eq] at h;exact ⟨by simp,by simpa [u8n] using h⟩
   | succ j=>
    obtain ⟨a,b⟩:=ih j h;exact ⟨by simpa using a,by simpa using b⟩
 obtain ⟨h5,h6⟩:=key _ _ h4;refine ⟨.i .u8 ((t.data.toList.getD j 0).toNat:Nat),.no,?_,post_no hp M h6⟩;simp only [zop,h1,h3,Int.toNat_natCast];rw [if_pos];simp only [Bool.and_eq_true,decide_eq_true_eq];have:=ba_size t;omega
theorem kExt_ok {x:SX} {j:Nat} (hF:kExt x j d= .mk F) (hr:F k s m c=r) (hb:r≠.bad) (M:MOK h0 nb m):SoOK P d (.extract x j) (Post h0 nb k c r) (absS s m):=by
 obtain ⟨g,hg,hF⟩:=g1_inv hF;obtain ⟨p,hp,hF⟩:=gd_inv hF hr hb;have hr:xExt g j p k s m c=r:=by rw [mk_inj hF]; exact hr
 obtain ⟨cs,h1,h2⟩:=zTup_inv hr hb;obtain ⟨z,h3,h4⟩:=nthK_inv h2 hb;rw [hg s m] at h1;refine ⟨z,.no,?_,post_no hp M h4⟩;simp only [zop,h1,h3,Option.map_some]
theorem kChk_ok {x:SX} (hF:kChk x d= .mk F) (hr:F k s m c=r) (hb:r≠.bad) (M:MOK h0 nb m):SoOK P d (.nilCheck x) (Post h0 nb k c r) (absS s m):=by
 obtain ⟨g,hg,hF⟩:=g1_inv hF;obtain ⟨p,hp,hF⟩:=gd_inv hF hr hb;have hr:xChk g p k s m c=r:=by rw [mk_inj hF]; exact hr
 obtain ⟨h1,h2⟩:=zChk_inv hr hb;rw [hg s m] at h1 h2;refine ⟨(absS s m).ev x,.no,?_,post_no hp M h2⟩;rcases h1 with ⟨a,b,h1⟩ | ⟨a,b,e,h1⟩<;>simp only [zop,h1]
theorem kLen_ok {str:Bool} {x:SX} (hF:kLen str x d= .mk F) (hr:F k s m c=r) (hb:r≠.bad) (M:MOK h0 nb m):SoOK P d (.len str x) (Post h0 nb k c r) (absS s m):=by
 obtain ⟨g,hg,hF⟩:=g1_inv hF;obtain ⟨p,hp,hF⟩:=gd_inv hF hr hb;cases str with
 | false=>
  have hr:xLen g p k s m c=r:=by rw [mk_inj hF]; exact hr
  rcases zLenS_inv hr hb with ⟨h1,h2⟩ | ⟨q,o,n,w,h1,h2⟩
  . rw [hg s m] at h1;refine ⟨.i .i64 0,.no,?_,post_no hp M h2⟩;simp only [zop,h1]; rfl
  . rw [hg s m] at h1;refine ⟨.i .i64 n,.no,?_,post_no hp M h2⟩;simp only [zop,h1]; rfl
 | true=>
  have hr:xLenS g p k s m c=r:=by rw [mk_inj hF]; exact hr
  obtain ⟨t,h1,h2⟩:=zStr_inv hr hb;rw [frc_eq,lenB_eq,<-ba_size] at h2;rw [hg s m] at h1;refine ⟨.i .i64 t.size,.no,?_,post_no hp M h2⟩;simp only [zop,h1]; rfl
theorem kMm_ok {mx:Bool} {x y:SX} (hF:kMm mx x y d= .mk F) (hr:F k s m c=r) (hb:r≠.bad) (M:MOK h0 nb m):SoOK P d (.mm mx x y) (Post h0 nb k c r) (absS s m):=by
 obtain ⟨g,hg,hF⟩:=g1_inv hF;obtain ⟨g',hg',hF⟩:=g1_inv hF;obtain ⟨p,hp,hF⟩:=gd_inv hF hr hb;have hr:xMm mx g g' p k s m c=r:=by rw [mk_inj hF]; exact hr
 obtain ⟨k1,a,h1,h2⟩:=zInt_inv hr hb;obtain ⟨k2,b,h3,h4⟩:=zInt_inv h2 hb;rw [hg s m] at h1; rw [hg' s m] at h3;refine ⟨.i k1 (if mx then (if b>a then b else a) else (if b<a then b else a)),.no,?_,post_no hp M ?_⟩
 . simp only [zop,h1,h3]
 . cases mx with
   | false=>
    have h4: @Bool.rec (λ_=>RR) (k (p (.i k1 a) s) m c) (k (p (.i k1 b) s) m c) (ltI b a)=r:=h4;rw [ltI_eq] at h4;by_cases h:b<a
    . simp only [h,decide_true] at h4; simpa [h] using h4
    . simp only [h,decide_false] at h4; simpa [h] using h4
   | true=>
    have h4: @Bool.rec (λ_=>RR) (k (p (.i k1 a) s) m c) (k (p (.i k1 b) s) m c) (ltI a b)=r:=h4;rw [ltI_eq] at h4;by_cases h:a<b
    . simp only [h,decide_true] at h4; simpa [h] using h4
    . simp only [h,decide_false] at h4; simpa [h] using h4
theorem kNilSl_ok {T:TypeId} {sz:Option Nat} (hF:kZ .nil d= .mk F) (hr:F k s m c=r) (hb:r≠.bad) (M:MOK h0 nb m):SoOK P d (.nilSl T sz) (Post h0 nb k c r) (absS s m):=by
 obtain ⟨p,hp,hF⟩:=gd_inv hF hr hb;have hr:xK .nil p k s m c=r:=by rw [mk_inj hF]; exact hr
 exact ⟨_,_,rfl,post_no hp M hr⟩
theorem kNilFn_ok (hF:kZ (.nul .func) d= .mk F) (hr:F k s m c=r) (hb:r≠.bad) (M:MOK h0 nb m):SoOK P d .nilFn (Post h0 nb k c r) (absS s m):=by
 obtain ⟨p,hp,hF⟩:=gd_inv hF hr hb;have hr:xK (.nul .func) p k s m c=r:=by rw [mk_inj hF]; exact hr
 exact ⟨_,_,rfl,post_no hp M hr⟩
theorem kIsNil_ok {neg:Bool} {x:SX} (hF:kIsNil neg x d= .mk F) (hr:F k s m c=r) (hb:r≠.bad) (M:MOK h0 nb m):SoOK P d (.isNil neg x) (Post h0 nb k c r) (absS s m):=by
 obtain ⟨g,hg,hF⟩:=g1_inv hF;obtain ⟨p,hp,hF⟩:=gd_inv hF hr hb;have hr:xIsNil neg g p k s m c=r:=by rw [mk_inj hF]; exact hr
 rcases zNilC_inv hr hb with ⟨h1,h2⟩ | ⟨q,o,n,w,h1,h2⟩
 . rw [hg s m] at h1;rw [notB_eq] at h2;refine ⟨.b (!neg),.no,?_,post_no hp M h2⟩;simp only [zop,h1]
 . rw [hg s m] at h1;refine ⟨.b neg,.no,?_,post_no hp M h2⟩;simp only [zop,h1]
theorem nc_inj {a b:Nul} (h:nc a=nc b):a=b:=by cases a<;>cases b<;>first | rfl | (exfalso; revert h; decide)
theorem kIsNul_ok {q:Nul} {neg:Bool} {x:SX} (hF:kIsNul q neg x d= .mk F) (hr:F k s m c=r) (hb:r≠.bad) (M:MOK h0 nb m):SoOK P d (.isNul q neg x) (Post h0 nb k c r) (absS s m):=by
 obtain ⟨g,hg,hF⟩:=g1_inv hF;obtain ⟨p,hp,hF⟩:=gd_inv hF hr hb;have hr:xIsNul q neg g p k s m c=r:=by rw [mk_inj hF]; exact hr
 rcases zNul_inv hr hb with ⟨q',h1,h2⟩ | ⟨a,b,h1,h2⟩ | ⟨a,b,h1,h2⟩ | ⟨a,b,e,h1,h2⟩<;>obtain ⟨h3,h4⟩:=bad_inv h2 hb<;>have h3:=nc_inj (beq_inv h3)<;>rw [hg s m] at h1
 . rw [notB_eq] at h4;refine ⟨.b (!neg),.no,?_,post_no hp M h4⟩;simp only [zop,h1,h3,decide_true,if_true]
 . refine ⟨.b neg,.no,?_,post_no hp M h4⟩;simp only [zop,h1,<-h3,decide_true,if_true]
 . refine ⟨.b neg,.no,?_,post_no hp M h4⟩;simp only [zop,h1,<-h3,decide_true,if_true]
 . refine ⟨.b neg,.no,?_,post_no hp M h4⟩;simp only [zop,h1,<-h3,decide_true,if_true]
theorem kMkI_ok {T:TypeId} {x:SX} (hF:kMkI T x d= .mk F) (hr:F k s m c=r) (hb:r≠.bad) (M:MOK h0 nb m):SoOK P d (.mkI T x) (Post h0 nb k c r) (absS s m):=by
 obtain ⟨g,hg,hF⟩:=g1_inv hF;obtain ⟨p,hp,hF⟩:=gd_inv hF hr hb;have hr:xMkI T g p k s m c=r:=by rw [mk_inj hF]; exact hr
 exact ⟨_,_,rfl,post_no hp M (by rw [<- hg s m]; exact hr)⟩
theorem kIdxA_ok {n:Nat} {x i:SX} (hF:kIdxA n x i d= .mk F) (hr:F k s m c=r) (hb:r≠.bad) (M:MOK h0 nb m):SoOK P d (.idxA n x i) (Post h0 nb k c r) (absS s m):=by
 obtain ⟨g,hg,hF⟩:=g1_inv hF;obtain ⟨g',hg',hF⟩:=g1_inv hF;obtain ⟨p,hp,hF⟩:=gd_inv hF hr hb;have hr:xIdxA n g g' p k s m c=r:=by rw [mk_inj hF]; exact hr
 obtain ⟨q,j,h1,h2⟩:=zPtr_inv hr hb;obtain ⟨k1,i,h3,h4⟩:=zNat_inv h2 hb;obtain ⟨h5,h6⟩:=bad_inv h4 hb;rw [frc_eq] at h6;rw [hg s m] at h1; rw [hg' s m] at h3;have h5:=ble_inv h5;refine ⟨.ptr q (j+i),.no,?_,post_no hp M h6⟩;simp only [zop,h1,h3,Int.toNat_natCast];rw [if_pos];simp only [Bool.and_eq_true,decide_eq_true_eq];omega
theorem kIdxV_ok {n:Nat} {x i:SX} (hF:kIdxV n x i d= .mk F) (hr:F k s m c=r) (hb:r≠.bad) (M:MOK h0 nb m):SoOK P d (.idxV n x i) (Post h0 nb k c r) (absS s m):=by
 obtain ⟨g,hg,hF⟩:=g1_inv hF;obtain ⟨g',hg',hF⟩:=g1_inv hF;obtain ⟨p,hp,hF⟩:=gd_inv hF hr hb;have hr:xIdxV n g g' p k s m c=r:=by rw [mk_inj hF]; exact hr
 obtain ⟨cs,h1,h2⟩:=zAgg_inv hr hb;obtain ⟨k1,i,h3,h4⟩:=zNat_inv h2 hb;obtain ⟨h5,h6⟩:=bad_inv h4 hb;obtain ⟨h7,h8⟩:=bad_inv h6 hb;obtain ⟨z,h9,h10⟩:=nthK_inv h8 hb;rw [hg s m] at h1; rw [hg' s m] at h3;have h5:=beq_inv h5;rw [lenL_eq] at h5;have h7:=ble_inv h7;refine ⟨z,.no,?_,post_no hp M h10⟩;simp only [zop,h1,h3,Int.toNat_natCast,h9,Option.map_some];rw [if_pos];simp only [Bool.and_eq_true,decide_eq_true_eq,beq_iff_eq];omega
theorem kSliceA_ok {n:Nat} {x:SX} {lo hi:Option SX} (hF:kSliceA n x lo hi d= .mk F) (hr:F k s m c=r) (hb:r≠.bad) (M:MOK h0 nb m):SoOK P d (.sliceA n x lo hi) (Post h0 nb k c r) (absS s m):=by
 obtain ⟨g,hg,hF⟩:=g1_inv hF;obtain ⟨p,hp,hF⟩:=gd_inv hF hr hb;have hr:xSliceA n g (bdL lo) (bdH hi) p k s m c=r:=by rw [mk_inj hF]; exact hr
 obtain ⟨q,j,h1,h2⟩:=zPtr_inv hr hb;obtain ⟨l,h3,h4⟩:=bdL_inv (m:=m) h2 hb;obtain ⟨h,h5,h6⟩:=bdH_inv (m:=m) h4 hb;obtain ⟨T,fx,cs,h7,h8⟩:=oOb_inv h6 hb;obtain ⟨a1,h9⟩:=bad_inv h8 hb;obtain ⟨a2,h10⟩:=bad_inv h9 hb;obtain ⟨a3,h11⟩:=bad_inv h10 hb;obtain ⟨a4,h12⟩:=bad_inv h11 hb;obtain ⟨a5,h13⟩:=bad_inv h12 hb;rw [frc_eq] at h13;rw [hg s m] at h1;have h7:(absS s m).h q=some (.ob T fx cs):=h7;subst a1;have a2:=beq_inv a2;have a3:=beq_inv a3;rw [lenL_eq] at a3;have a4:=ble_inv a4;have a5:=ble_inv a5;refine ⟨.sl q l (h-l) 1,.no,?_,post_no hp M h13⟩;simp only [zop,h1,h3,h5,h7,Int.toNat_natCast];rw [if_pos];simp only [Bool.and_eq_true,decide_eq_true_eq,beq_iff_eq];omega
theorem kAppend_ok {T:TypeId} {sz:Option Nat} {bytes:Nat} {x y:SX} (hF:kAppend T sz bytes x y d= .mk F) (hr:F k s m c=r) (hb:r≠.bad) (M:MOK h0 nb m):SoOK P d (.append T sz bytes x y) (Post h0 nb k c r) (absS s m):=by
 obtain ⟨g,hg,hF⟩:=g1_inv hF;obtain ⟨g',hg',hF⟩:=g1_inv hF;obtain ⟨p,hp,hF⟩:=gd_inv hF hr hb;have hr:xAppend T (widthK sz) bytes g g' p k s m c=r:=by rw [mk_inj hF]; exact hr
 rw [width_eq] at hr;obtain ⟨news,q,h1,h2⟩:=elemsK_inv hr hb;rw [hg' s m] at h1;have h1:zelems (absS s m).h (width sz) ((absS s m).ev y)=some (news,q):=h1;rcases zSlN_inv h2 hb with ⟨h3,h4⟩ | ⟨a,o,n,w,h3,h4⟩
 . rw [hg s m] at h3;cases e:Nat.beq q 0 with
   | true=>
    rw [e] at h4;have e:=beq_inv e;refine ⟨.nil,.no,?_,post_no hp M h4⟩;simp only [zop,h1,h3,e,beq_self_eq_true,if_true]
   | false=>
    rw [e] at h4;obtain ⟨h5,h6,h7⟩:=fits47_inv h4 hb;obtain ⟨h8,h9⟩:=mnew_inv h7 hb;have e:(q == 0)=false:=beq_false_of_ne (bne_inv e);refine ⟨.sl (absS s m).nx 0 q (width sz),.new (.ob T false news),?_,post_new hp M h8 h9⟩;simp only [zop,h1,h3,e,ble_true h5,ble_true h6,Bool.and_true,if_true];rfl
 . obtain ⟨T',fx,cs,h5,h6⟩:=oOb_inv h4 hb;rw [hg s m] at h3;have hlt:=M.lt h5;have h5:(absS s m).h a=some (.ob T' fx cs):=h5;cases e:Nat.beq q 0 with
   | true=>
    rw [e] at h6;have e:=beq_inv e;refine ⟨.sl a o n w,.no,?_,post_no hp M h6⟩;simp only [zop,h1,h3,h5,e,beq_self_eq_true,if_true]
   | false=>
    rw [e] at h6;obtain ⟨a2,h6⟩:=bad_inv h6 hb;obtain ⟨a3,h6⟩:=bad_inv h6 hb;rw [frc_eq] at h6;obtain ⟨a5,a6,h6⟩:=fits47_inv h6 hb;have a2:=beq_inv a2;have a3:=beq_inv a3;have e:(q == 0)=false:=beq_false_of_ne (bne_inv e);have hz:∀ v,(if Nat.ble (o+(n+q)*w) cs.length then some ((.sl a o (n+q) w,.turn a (.ob T' fx (cs.take (o+n*w)++news++cs.drop (o+n*w+news.length)))):Z × ZD)
     else if Nat.ble (o+n*w) cs.length then
      if fx then some (.sl (absS s m).nx 0 (n+q) w,.new (.ob T false ((cs.drop o).take (n*w)++news)))
      else if o == 0 then some (.sl (absS s m).nx 0 (n+q) w,.pass a (.ob T false (cs.take (n*w)++news))) else none
     else none)=v->zop (absS s m).ev (absS s m).h (absS s m).nx (.append T sz bytes x y)=v:=λz hz=>by
     rw [<- hz];have a5':Nat.ble ((n+q)*bytes) 140737488355328=true:=ble_true a5;have a6':Nat.ble (n+q) 140737488355328=true:=ble_true a6;simp only [zop,h1,h3,h5,e,a2,a3,beq_self_eq_true,Bool.true_and,a5',a6',if_true,Bool.false_eq_true,if_false]
    cases e1:Nat.ble (Nat.add o (Nat.mul (Nat.add n q) w)) (lenL cs) with
    | true=>
     rw [e1] at h6;rw [lenL_eq] at e1;obtain ⟨a4,h6⟩:=patK_inv h6 hb;refine ⟨.sl a o (n+q) w,.turn a (.ob T' fx (cs.take (o+n*w)++news++cs.drop (o+n*w+news.length))),hz _ (if_pos e1),post_turn hp M hlt ?_⟩;rw [a3]; exact h6
    | false=>
     rw [e1] at h6;rw [lenL_eq] at e1;cases fx with
     | true=>
      obtain ⟨a4,h6⟩:=subK_inv h6 hb;obtain ⟨h8,h9⟩:=mnew_inv h6 hb;rw [appL_eq] at h9;refine ⟨.sl (absS s m).nx 0 (n+q) w,.new (.ob T false ((cs.drop o).take (n*w)++news)),hz _ ?_,post_new hp M h8 h9⟩;have a4':Nat.ble (o+n*w) cs.length=true:=ble_true a4;rw [if_neg (by rw [show Nat.ble (o+(n+q)*w) cs.length=false from e1]; simp),if_pos a4',if_pos rfl]
     | false=>
      obtain ⟨a1,h6⟩:=bad_inv h6 hb;obtain ⟨a4,h6⟩:=takK_inv h6 hb;obtain ⟨h8,h9⟩:=mnew_inv h6 hb;rw [mset_nx] at h8 h9;rw [appL_eq] at h9;have a1:=beq_inv a1;subst a1;refine ⟨.sl (absS s m).nx 0 (n+q) w,.pass a (.ob T false (cs.take (n*w)++news)),hz _ ?_,post_pass hp M hlt h8 h9⟩;have a4':Nat.ble (0+n*w) cs.length=true:=by rw [Nat.zero_add]; exact ble_true a4
      rw [if_neg (by rw [show Nat.ble (0+(n+q)*w) cs.length=false from e1]; simp),if_pos a4',if_neg (by simp)]; rfl
theorem minN_eq (a b:Nat):minN a b=min a b:=by
 unfold minN;cases e:Nat.ble a b with
 | true=>have:=ble_inv e; exact (Nat.min_eq_left this).symm
 | false=>have:=of_ble_false e; exact (Nat.min_eq_right (Nat.le_of_lt this)).symm
theorem kCopy_ok {sz:Option Nat} {x y:SX} (hF:kCopy sz x y d= .mk F) (hr:F k s m c=r) (hb:r≠.bad) (M:MOK h0 nb m):SoOK P d (.copy sz x y) (Post h0 nb k c r) (absS s m):=by
 obtain ⟨g,hg,hF⟩:=g1_inv hF;obtain ⟨g',hg',hF⟩:=g1_inv hF;obtain ⟨p,hp,hF⟩:=gd_inv hF hr hb;have hr:xCopy (widthK sz) g g' p k s m c=r:=by rw [mk_inj hF]; exact hr
 rw [width_eq] at hr;obtain ⟨news,q,h1,h2⟩:=elemsK_inv hr hb;rw [hg' s m] at h1;have h1:zelems (absS s m).h (width sz) ((absS s m).ev y)=some (news,q):=h1;obtain ⟨a,o,n,w,h3,h4⟩:=zSl_inv h2 hb;obtain ⟨T,fx,cs,h5,h6⟩:=oOb_inv h4 hb;rw [hg s m] at h3;have hlt:=M.lt h5;have h5:(absS s m).h a=some (.ob T fx cs):=h5;obtain ⟨a1,h6⟩:=bad_inv h6 hb;obtain ⟨a2,h6⟩:=subK_inv h6 hb;rw [frc_eq,minN_eq] at h6;obtain ⟨a3,h6⟩:=takK_inv h6 hb;obtain ⟨a4,h6⟩:=patK_inv h6 hb;have a1:=beq_inv a1;refine ⟨.i .i64 ((min q n:Nat):Int),.turn a (.ob T fx (cs.take o++news.take (min q n*w)++cs.drop (o+(news.take (min q n*w)).length))),?_,post_turn hp M hlt h6⟩;simp only [zop,h1,h3,h5,a1,beq_self_eq_true,Bool.true_and];rw [if_pos (by rw [<- a1]; exact ble_true a2)]

/-- The one state that an operation leads to. -/
def DetZ (P:Program) (d:Option Nat) (so:SO) (K:ZS->Prop) (S:ZS):Prop:=∃ S',ZCore P d so (· =S') S/\S'=outS d S S'/\K S'
theorem SoOK.det {so:SO} {K:ZS->Prop} {S:ZS} (h:SoOK P d so K S) (hn:∀ f as,so≠.call f as):DetZ P d so K S:=by
 obtain ⟨x,δ,hz,hK⟩:=h;exact ⟨_,SoOK.core hn ⟨x,δ,hz,rfl⟩,by rw [zput_eq,put_out],hK⟩

/-- What a call has answered. -/
def AnsQ (c:CallK) (m:Mem) (d:Option Nat) (S':ZS):Prop:=
 ∃ zs ups news,((∃ id as,callF c id m as= .ok zs ups news)\/∃ q as,callY c q m as= .ok zs ups news)/\(∀ d',d=some d'->S'.σ d'=packZ zs)/\S'.h=newsF (upsF (mabs m) ups) m.nx news/\S'.nx=m.nx+news.length
theorem app1_eq (evs a b:List Z):appL a (appL evs b)=a++evs++b:=by rw [appL_eq,appL_eq,<-List.append_assoc]

/-- A call: it returns, or it ends in a panic. -/
theorem kCall_gen (hc:CallsOK P c) {f:SX} {as:List SX} (hF:kCall f as d= .mk F) (hr:F k s m c=r) (hb:r≠.bad) (M:MOK h0 nb m):
 (∃ S',ZCore P d (.call f as) (· =S') (absS s m)/\S'=outS d (absS s m) S'/\m.nx<=S'.nx/\AnsQ c m d S'/\Post h0 nb k c r S')\/
 ∃ id fst caps v val m',(absS s m).ev f= .clo id fst caps/\zcv v=some val/\SpecP P id (mabs m) m.nx (fst++as.map (absS s m).ev++caps) val (mabs m')/\MOK h0 nb m'/\m'.nx=m.nx/\callP c s m' v=r:=by
 obtain ⟨g,hg,hF⟩:=g1_inv hF;obtain ⟨p,hp,hF⟩:=gd_inv hF hr hb;have hr:xCall g (gxs as) p k s m c=r:=by rw [mk_inj hF]; exact hr
 have fin:∀ {zs:List Z} {ups:List (Nat × Option ZO)} {news:List ZO},upsK ups m (λm=>newsK news m λm=>k (p (packK zs) s) m c)=r->(((∃ id as,callF c id m as= .ok zs ups news)\/∃ q as,callY c q m as= .ok zs ups news))->
  (∀ K:ZS->Prop,K ((⟨(absS s m).σ,newsF (upsF (mabs m) ups) m.nx news,m.nx+news.length⟩:ZS).put d (packZ zs))->ZCore P d (.call f as) K (absS s m))->
  ∃ S',ZCore P d (.call f as) (· =S') (absS s m)/\S'=outS d (absS s m) S'/\m.nx<=S'.nx/\AnsQ c m d S'/\Post h0 nb k c r S':=λ{zs ups news} h2 hq hK=>by
  obtain ⟨m1,b1,b2,b3,b4⟩:=upsK_inv h2 hb M;obtain ⟨m2,c1,c2,c3,c4⟩:=newsK_inv b4 hb b3;have e1:mabs m2=newsF (upsF (mabs m) ups) m.nx news:=by rw [c1,b1,b2]
  have e2:m2.nx=m.nx+news.length:=by rw [c2,b2]
  have hS:absS (p (packK zs) s) m2=(⟨(absS s m).σ,newsF (upsF (mabs m) ups) m.nx news,m.nx+news.length⟩:ZS).put d (packZ zs):=by
   rw [absS_put hp,packK_eq];simp only [absS,e1,e2]
  refine ⟨absS (p (packK zs) s) m2,hK _ hS.symm,?_,?_,⟨zs,ups,news,hq,λd' hd=>?_,e1,e2⟩,p (packK zs) s,m2,rfl,c3,c4⟩
  . rw [absS_put hp]; exact (put_out d (absS s m) (absS s m) (packK zs) (mabs m2) m2.nx).symm
  . show m.nx<=m2.nx;omega
  . subst hd;rw [absS_put hp,packK_eq]; simp [ZS.put]
 rcases zCloY_inv hr hb with ⟨id,fst,caps,h1,h2⟩ | ⟨q,h1,h2⟩
 . rw [hg s m] at h1;rw [app1_eq,(gxs_ok as).1 s m] at h2;obtain ⟨hok,hpan⟩:=hc.f id m (fst++as.map (absS s m).ev++caps) M.top M.free;cases e:callF c id m (fst++as.map (absS s m).ev++caps) with
   | bad=>rw [e] at h2; exact absurd h2.symm hb
   | ok zs ups news=>
    rw [e] at h2;have A:=hok _ _ _ e;refine .inl (fin h2 (.inl ⟨_,_,e⟩) λK hK=>?_);simp only [ZCore,h1];refine ⟨_,A,?_⟩;rintro h' nx' zs' ⟨rfl,rfl,rfl⟩;exact hK
   | pan v dt=>
    rw [e] at h2;obtain ⟨val,hv,A⟩:=hpan _ _ e;obtain ⟨m',b1,b2,b3,b4⟩:=dropK_inv (show dropK dt m (λm=>callP c s m v)=r from h2) hb M;exact .inr ⟨id,fst,caps,v,val,m',h1,hv,by rw [b1]; exact A,b3,b2,b4⟩
 . rw [hg s m] at h1;rw [(gxs_ok as).1 s m] at h2;cases e:callY c q m (as.map (absS s m).ev) with
   | bad=>rw [e] at h2; exact absurd h2.symm hb
   | pan v dt=>rw [e] at h2; exact absurd h2.symm hb
   | ok zs ups news=>
    rw [e] at h2;have A:=hc.1 q m _ _ _ _ M.top M.free e;refine .inl (fin h2 (.inr ⟨_,_,e⟩) λK hK=>?_);simp only [ZCore,h1];refine ⟨_,A,?_⟩;rintro h' nx' zs' ⟨rfl,rfl,rfl⟩;exact hK
theorem kCall_ok (hc:CallsOK P c) (hn:NoP c) {f:SX} {as:List SX} (hF:kCall f as d= .mk F) (hr:F k s m c=r) (hb:r≠.bad) (M:MOK h0 nb m):DetZ P d (.call f as) (Post h0 nb k c r) (absS s m):=by
 rcases kCall_gen hc hF hr hb M with ⟨S',h1,h2,_,_,h3⟩ | ⟨_,_,_,v,_,m',_,_,_,_,_,h⟩
 . exact ⟨S',h1,h2,h3⟩
 . rw [hn] at h; exact absurd h.symm hb

/-- Each operation of the base. -/
theorem kso_ok (hc:CallsOK P c) {o:SO} (hn:NoP c\/∀ f as,o≠.call f as) (hF:kso o d= .mk F) (hr:F k s m c=r) (hb:r≠.bad) (M:MOK h0 nb m):DetZ P d o (Post h0 nb k c r) (absS s m):=by
 have bad:fBad d= .mk F->False:=λh=>by
  have:=mk_inj (show FO.mk xBad= .mk F from h);rw [<- this] at hr; exact hb hr.symm
 cases o with
 | mv x=>exact (kMv_ok hF hr hb M).det (by simp)
 | pick a b c=>exact (kPick_ok hF hr hb M).det (by simp)
 | box T x=>exact (kBox_ok hF hr hb M).det (by simp)
 | alloc T zs=>exact (kAlloc_ok hF hr hb M).det (by simp)
 | build zs ps=>exact (kBuild_ok hF hr hb M).det (by simp)
 | mkSl T sz xs=>exact (kMkSl_ok hF hr hb M).det (by simp)
 | load sz x=>exact (kLoad_ok hF hr hb M).det (by simp)
 | store sz x v=>exact (kStore_ok hF hr hb M).det (by simp)
 | bin op x y=>exact (kBin_ok hF hr hb M).det (by simp)
 | eqb n x y=>exact (kEqb_ok hF hr hb M).det (by simp)
 | un op x=>exact (kUn_ok hF hr hb M).det (by simp)
 | conv k x=>exact (kConv_ok hF hr hb M).det (by simp)
 | s2b x=>exact (bad hF).elim
 | b2s x=>exact (bad hF).elim
 | makeFn f cs=>exact (kMkFn_ok hF hr hb M).det (by simp)
 | makeB f x=>exact (kMkB_ok hF hr hb M).det (by simp)
 | make T sz z b l=>exact (kMake_ok hF hr hb M).det (by simp)
 | slice sz x lo hi=>exact (kSlice_ok hF hr hb M).det (by simp)
 | fieldAddr off sz x=>exact (kFAddr_ok hF hr hb M).det (by simp)
 | field off sz x=>exact (kField_ok hF hr hb M).det (by simp)
 | indexAddr sz x i=>exact (kIdx_ok hF hr hb M).det (by simp)
 | index x i=>exact (kIndex_ok hF hr hb M).det (by simp)
 | extract x j=>exact (kExt_ok hF hr hb M).det (by simp)
 | nilCheck x=>exact (kChk_ok hF hr hb M).det (by simp)
 | call f as=>exact kCall_ok hc (hn.resolve_right λh=>h f as rfl) hF hr hb M
 | len str x=>exact (kLen_ok hF hr hb M).det (by simp)
 | append T sz b x y=>exact (kAppend_ok hF hr hb M).det (by simp)
 | appendZ T sz z b x l=>exact (bad hF).elim
 | copy sz x y=>exact (kCopy_ok hF hr hb M).det (by simp)
 | mm mx x y=>exact (kMm_ok hF hr hb M).det (by simp)
 | nilSl T sz=>exact (kNilSl_ok hF hr hb M).det (by simp)
 | isNil n x=>exact (kIsNil_ok hF hr hb M).det (by simp)
 | isNul q n x=>exact (kIsNul_ok hF hr hb M).det (by simp)
 | mkI T x=>exact (kMkI_ok hF hr hb M).det (by simp)
 | buildA zs ps=>exact SoOK.det (kBuild_ok (P:=P) (zs:=zs) (ps:=ps) hF hr hb M) (by simp)
 | allocA T zs=>exact SoOK.det (kAlloc_ok (P:=P) (T:=T) (zs:=zs) hF hr hb M) (by simp)
 | boxA T n x=>exact SoOK.det (kBox_ok (P:=P) (T:=T) (x:=x) hF hr hb M) (by simp)
 | idxA n x i=>exact (kIdxA_ok hF hr hb M).det (by simp)
 | sliceA n x lo hi=>exact (kSliceA_ok hF hr hb M).det (by simp)
 | loadA n x=>exact (kLoadA_ok hF hr hb M).det (by simp)
 | storeA n x v=>exact (kStoreA_ok hF hr hb M).det (by simp)
 | idxV n x i=>exact (kIdxV_ok hF hr hb M).det (by simp)
 | nilFn=>exact (kNilFn_ok hF hr hb M).det (by simp)
 | bad=>exact (bad hF).elim
end
end Go.Zw
namespace Go.Zw
open Go.Vw (Nul V SX SO SRes width)

theorem andB_inv {a b:Bool} (h:andB a b=true):a=true/\b=true:=by cases a<;>cases b<;>first | exact ⟨rfl,rfl⟩ | cases h
theorem eqB_inv {a b:Bool} (h:eqB a b=true):a=b:=by cases a<;>cases b<;>first | rfl | cases h
theorem eqI_inv {a b:Int} (h:eqI a b=true):a=b:=by rw [eqI_eq] at h; exact of_decide_eq_true h
theorem eqBs_inv {a b:ByteArray} (h:eqBs a.data.toList b.data.toList=true):a=b:=by rw [eqBs_iff] at h; exact ba_ext (of_decide_eq_true h)

mutual
theorem eqZ_ok:∀ a b:Z,eqZ a b=true->a=b
 | .b x,z,h=>by cases z<;>first | exact congrArg Z.b (eqB_inv h) | cases h
 | .i k n,z,h=>by
  cases z<;>first
   | (have h:=andB_inv h; rw [kc_inj (beq_inv h.1),eqI_inv h.2]; done)
   | cases h
 | .s x,z,h=>by cases z<;>first | exact congrArg Z.s (eqBs_inv h) | cases h
 | .nul x,z,h=>by cases z<;>first | exact congrArg Z.nul (nc_inj (beq_inv h)) | cases h
 | .nil,z,h=>by cases z<;>first | rfl | cases h
 | .sl r o n w,z,h=>by
  cases z<;>first
   | (obtain ⟨h1,h⟩:=andB_inv h; obtain ⟨h2,h⟩:=andB_inv h; obtain ⟨h3,h4⟩:=andB_inv h; rw [beq_inv h1,beq_inv h2,beq_inv h3,beq_inv h4]; done)
   | cases h
 | .ptr r j,z,h=>by
  cases z<;>first
   | (have h:=andB_inv h; rw [beq_inv h.1,beq_inv h.2]; done)
   | cases h
 | .mp r,z,h=>by cases z<;>first | exact congrArg Z.mp (beq_inv h) | cases h
 | .it r,z,h=>by cases z<;>first | exact congrArg Z.it (beq_inv h) | cases h
 | .yl r,z,h=>by cases z<;>first | exact congrArg Z.yl (beq_inv h) | cases h
 | .clo f x y,z,h=>by
  cases z with
  | clo f2 a b=>
   obtain ⟨h1,h⟩:=andB_inv h; obtain ⟨h2,h3⟩:=andB_inv h;have h1:f=f2:=beq_inv h1;rw [h1,eqZs_ok x a h2,eqZs_ok y b h3]
  | _=>cases h
 | .ifc T x,z,h=>by
  cases z with
  | ifc T2 y=>
   obtain ⟨h1,h2⟩:=andB_inv h;have h1:T=T2:=beq_inv h1;rw [h1,eqZ_ok x y h2]
  | _=>cases h
 | .agg cs,z,h=>by
  cases z with
  | agg ds=>exact congrArg Z.agg (eqZs_ok cs ds h)
  | _=>cases h
 | .tup cs,z,h=>by
  cases z with
  | tup ds=>exact congrArg Z.tup (eqZs_ok cs ds h)
  | _=>cases h
 | .any,z,h=>by cases z<;>first | rfl | cases h
theorem eqZs_ok:∀ a b:List Z,eqZs a b=true->a=b
 | [],b,h=>by cases b<;>first | rfl | cases h
 | x::xs,b,h=>by
  cases b with
  | nil=>cases h
  | cons y ys=>
   obtain ⟨h1,h2⟩:=andB_inv (show andB (eqZ x y) (eqZs xs ys)=true from h);rw [eqZ_ok x y h1,eqZs_ok xs ys h2]
end

theorem frcI_eq (n:Int) (f:Int->RR):frcI n f=f n:=by cases n<;>simp only [frcI,frc_eq]
theorem frcB_eq (b:Bool) (f:Bool->RR):frcB b f=f b:=by cases b<;>rfl
theorem frcS_eq:∀ (l:List UInt8) (f:List UInt8->RR),frcS l f=f l
 | [],f=>rfl
 | b::l,f=>by
  show frc (u8n b) (λn=>frcS l λl=>f (.cons (UInt8.ofNat n) l))=_;rw [frc_eq,frcS_eq l];have:UInt8.ofNat (u8n b)=b:=by simp [u8n]
  rw [this]
noncomputable def frcZl (l:List Z):(List Z->RR)->RR:= @Z.rec_1 (λ_=>(Z->RR)->RR) (λ_=>(List Z->RR)->RR) (λx f=>frcB x λx=>f (.b x)) (λk n f=>frcI n λn=>f (.i k n)) (λx f=>frcS x.data.toList λl=>f (.s (mkS l)))
 (λx f=>f (.nul x)) (λf=>f .nil) (λr o n w f=>frc r λr=>frc o λo=>frc n λn=>frc w λw=>f (.sl r o n w)) (λr j f=>frc r λr=>frc j λj=>f (.ptr r j)) (λr f=>frc r λr=>f (.mp r)) (λr f=>frc r λr=>f (.it r)) (λr f=>frc r λr=>f (.yl r))
 (λi _ _ ix iy f=>ix λx=>iy λy=>f (.clo i x y)) (λT _ ih f=>ih λx=>f (.ifc T x)) (λ_ ih f=>ih λx=>f (.agg x)) (λ_ ih f=>ih λx=>f (.tup x)) (λf=>f .any) (λf=>f []) (λ_ _ ix il f=>ix λx=>il λl=>f (.cons x l)) l
mutual
theorem frcZ_eq:∀ (z:Z) (f:Z->RR),frcZ z f=f z
 | .b x,f=>by
  show frcB x (λx=>f (.b x))=_;rw [frcB_eq]
 | .i k n,f=>by
  show frcI n (λn=>f (.i k n))=_;rw [frcI_eq]
 | .s x,f=>by
  show frcS x.data.toList (λl=>f (.s (mkS l)))=_;rw [frcS_eq];have:mkS x.data.toList=x:=ba_ext rfl;rw [this]
 | .nul x,f=>rfl
 | .nil,f=>rfl
 | .sl r o n w,f=>by
  show frc r (λr=>frc o λo=>frc n λn=>frc w λw=>f (.sl r o n w))=_;simp only [frc_eq]
 | .ptr r j,f=>by
  show frc r (λr=>frc j λj=>f (.ptr r j))=_;simp only [frc_eq]
 | .mp r,f=>by
  show frc r (λr=>f (.mp r))=_;rw [frc_eq]
 | .it r,f=>by
  show frc r (λr=>f (.it r))=_;rw [frc_eq]
 | .yl r,f=>by
  show frc r (λr=>f (.yl r))=_;rw [frc_eq]
 | .clo i x y,f=>by
  show frcZl x (λx=>frcZl y λy=>f (.clo i x y))=_;rw [frcZl_eq x,frcZl_eq y]
 | .ifc T x,f=>by
  show frcZ x (λx=>f (.ifc T x))=_;rw [frcZ_eq x]
 | .agg cs,f=>by
  show frcZl cs (λx=>f (.agg x))=_;rw [frcZl_eq cs]
 | .tup cs,f=>by
  show frcZl cs (λx=>f (.tup x))=_;rw [frcZl_eq cs]
 | .any,f=>rfl
theorem frcZl_eq:∀ (l:List Z) (f:List Z->RR),frcZl l f=f l
 | [],f=>rfl
 | z::l,f=>by
  show frcZ z (λz=>frcZl l λl=>f (.cons z l))=_;rw [frcZ_eq z,frcZl_eq l]
end
theorem frcZs_eq:∀ (l:List Z) (f:List Z->RR),frcZs l f=f l
 | [],f=>rfl
 | z::l,f=>by
  show frcZ z (λz=>frcZs l λl=>f (.cons z l))=_;rw [frcZ_eq z,frcZs_eq l]
theorem frcEs_eq:∀ (l:List (Z × Z × Nat)) (f:List (Z × Z × Nat)->RR),frcEs l f=f l
 | [],f=>rfl
 | e::l,f=>by
  show frcZ e.1 (λk=>frcZ e.2.1 λv=>frc e.2.2 λb=>frcEs l λl=>f (.cons (k,v,b) l))=_;rw [frcZ_eq,frcZ_eq,frc_eq,frcEs_eq l]
theorem frcNs_eq:∀ (l:List Nat) (f:List Nat->RR),frcNs l f=f l
 | [],f=>rfl
 | e::l,f=>by
  show frc e (λn=>frcNs l λl=>f (.cons n l))=_;rw [frc_eq,frcNs_eq l]
theorem frcO_eq (o:ZO) (f:ZO->RR):frcO o f=f o:=by
 cases o with
 | ob T fx cs=>show frcB fx (λfx=>frcZs cs λcs=>f (.ob T fx cs))=_; rw [frcB_eq,frcZs_eq]
 | mp es c=>show frcEs es (λes=>frc c λc=>f (.mp es c))=_; rw [frcEs_eq,frc_eq]
 | it m a b c=>
  cases m with
  | none=>show frc a (λa=>frcNs b λb=>frc c λc=>f (.it none a b c))=_; rw [frc_eq,frcNs_eq,frc_eq]
  | some r=>show frc r (λr=>frc a λa=>frcNs b λb=>frc c λc=>f (.it (some r) a b c))=_; rw [frc_eq,frc_eq,frcNs_eq,frc_eq]
 | lp c σ st=>show frcZs σ (λσ=>f (.lp c σ st))=_; rw [frcZs_eq]

theorem eqEs_ok:∀ a b:List (Z × Z × Nat),eqEs a b=true->a=b
 | [],b,h=>by cases b<;>first | rfl | cases h
 | (x1,x2,x3)::xs,b,h=>by
  cases b with
  | nil=>cases h
  | cons y ys=>
   obtain ⟨y1,y2,y3⟩:=y;obtain ⟨h1,h⟩:=andB_inv (show andB (eqZ x1 y1) (andB (eqZ x2 y2) (andB (Nat.beq x3 y3) (eqEs xs ys)))=true from h);obtain ⟨h2,h⟩:=andB_inv h;obtain ⟨h3,h4⟩:=andB_inv h;rw [eqZ_ok _ _ h1,eqZ_ok _ _ h2,beq_inv h3,eqEs_ok xs ys h4]
theorem eqO_ok (a b:ZO) (h:eqO a b=true):a=b:=by
 cases a with
 | ob T fx cs=>
  cases b with
  | ob T2 fx2 cs2=>
   obtain ⟨h1,h⟩:=andB_inv h;obtain ⟨h2,h3⟩:=andB_inv h;have h1:T=T2:=beq_inv h1;rw [h1,eqB_inv h2,eqZs_ok _ _ h3]
  | _=>cases h
 | mp es c=>
  cases b with
  | mp es2 c2=>
   obtain ⟨h1,h2⟩:=andB_inv h;rw [eqEs_ok _ _ h1,beq_inv h2]
  | _=>cases h
 | it m a b c=>cases h
 | lp c σ st=>cases h
theorem eqOo_ok (a b:Option ZO) (h:eqOo a b=true):a=b:=by
 cases a<;>cases b<;>first | rfl | cases h | exact congrArg some (eqO_ok _ _ h)
theorem eqUps_ok:∀ a b:List (Nat × Option ZO),eqUps a b=true->a=b
 | [],b,h=>by cases b<;>first | rfl | cases h
 | (x1,x2)::xs,b,h=>by
  cases b with
  | nil=>cases h
  | cons y ys=>
   obtain ⟨y1,y2⟩:=y;obtain ⟨h1,h⟩:=andB_inv (show andB (Nat.beq x1 y1) (andB (eqOo x2 y2) (eqUps xs ys))=true from h);obtain ⟨h2,h3⟩:=andB_inv h;rw [beq_inv h1,eqOo_ok _ _ h2,eqUps_ok xs ys h3]
theorem eqOs_ok:∀ a b:List ZO,eqOs a b=true->a=b
 | [],b,h=>by cases b<;>first | rfl | cases h
 | x::xs,b,h=>by
  cases b with
  | nil=>cases h
  | cons y ys=>
   obtain ⟨h1,h2⟩:=andB_inv (show andB (eqO x y) (eqOs xs ys)=true from h);rw [eqO_ok _ _ h1,eqOs_ok xs ys h2]
theorem eqRR_ok (a b:RR) (h:eqRR a b=true):a=b:=by
 cases a with
 | bad=>cases h
 | ok z u n=>
  cases b with
  | bad=>cases h
  | pan v dt=>cases h
  | ok z2 u2 n2=>
   obtain ⟨h1,h⟩:=andB_inv h;obtain ⟨h2,h3⟩:=andB_inv h;rw [eqZs_ok _ _ h1,eqUps_ok _ _ h2,eqOs_ok _ _ h3]
 | pan v dt=>cases h

theorem allK_inv {y r:RR} {f:Z->ZD->RR} (hb:r≠.bad):∀ {l:List (Z × ZD)},allK y f l=r->y=r/\∀ x∈l,f x.1 x.2=r
 | [],h=>⟨h,λx hx=>by cases hx⟩
 | x::l,h=>by
  obtain ⟨h1,h2⟩:=bad_inv (show @Bool.rec (λ_=>RR) .bad (allK y f l) (eqRR (f x.1 x.2) y)=r from h) hb;obtain ⟨h3,h4⟩:=allK_inv hb h2;refine ⟨h3,λq hq=>?_⟩;rcases List.mem_cons.1 hq with rfl | hq
  . rw [eqRR_ok _ _ h1,h3]
  . exact h4 q hq
theorem altK_inv {l:Option (List (Z × ZD))} {f:Z->ZD->RR} {r:RR} (h:altK l f=r) (hb:r≠.bad):∃ L,l=some L/\∀ x∈L,f x.1 x.2=r:=by
 cases l with
 | none=>exact absurd h.symm hb
 | some l=>
  cases l with
  | nil=>exact absurd h.symm hb
  | cons x l=>
   obtain ⟨h1,h2⟩:=allK_inv hb (show allK (f x.1 x.2) f l=r from h);refine ⟨_,rfl,λq hq=>?_⟩;rcases List.mem_cons.1 hq with rfl | hq
   . exact h1
   . exact h2 q hq

section
variable {P:Program} {h0:Nat->Option ZO} {nb:Nat} {k:Kont} {c:CallK} {r:RR} {d:Option Nat} {s:SL} {m:Mem} {F:Stp}

theorem evK_eq (s:SL) (m:Mem):evK s=(absS s m).ev:=by
 funext x;obtain ⟨g,h1,h2⟩:=gx_ok x;unfold evK;rw [h1];exact h2 s m

theorem post_drop {p:Pt} (hp:PutOK d p) (M:MOK h0 nb m) {x:Z} {q:Nat} (hq:q<m.nx) (h:k (p x s) (mset q none m) c=r):Post h0 nb k c r (((absS s m).app (.drop q)).put d x):=by
 refine ⟨p x s,mset q none m,?_,M.set hq _,h⟩;rw [absS_put hp];simp only [absS,ZS.app,mabs_set (Nat.lt_of_lt_of_le hq M.top),mset_nx]

theorem appD_post {p:Pt} (hp:PutOK d p) (M:MOK h0 nb m) {x:Z} {δ:ZD} (h:appD δ m (λm=>k (p x s) m c)=r) (hb:r≠.bad):Post h0 nb k c r (((absS s m).app δ).put d x):=by
 cases δ with
 | no=>exact post_no hp M h
 | new o=>
  have h:frcO o (λo=>mnew o m λ_ m=>k (p x s) m c)=r:=h;rw [frcO_eq] at h;obtain ⟨h1,h2⟩:=mnew_inv h hb;exact post_new hp M h1 h2
 | turn q o=>
  have h:frc q (λq=>frcO o λo=>msetK q (some o) m λm=>k (p x s) m c)=r:=h;rw [frc_eq,frcO_eq] at h;obtain ⟨h1,h2⟩:=bad_inv h hb;exact post_turn hp M (ble_inv h1) h2
 | pass q o=>
  have h:frc q (λq=>frcO o λo=>msetK q none m λm=>mnew o m λ_ m=>k (p x s) m c)=r:=h;rw [frc_eq,frcO_eq] at h;obtain ⟨h1,h2⟩:=bad_inv h hb;obtain ⟨h3,h4⟩:=mnew_inv h2 hb;rw [mset_nx] at h3;exact post_pass hp M (ble_inv h1) h3 h4
 | drop q=>
  have h:frc q (λq=>msetK q none m λm=>k (p x s) m c)=r:=h;rw [frc_eq] at h;obtain ⟨h1,h2⟩:=bad_inv h hb;exact post_drop hp M (ble_inv h1) h2

theorem kNew_ok {x:XN} (hF:kNew x d= .mk F) (hr:F k s m c=r) (hb:r≠.bad) (M:MOK h0 nb m):∃ l,xalt (absS s m).ev (absS s m).h (absS s m).nx x=some l/\∀ q∈l,Post h0 nb k c r (((absS s m).app q.2).put d q.1):=by
 obtain ⟨p,hp,hF⟩:=gd_inv hF hr hb;have hr:xNew x p k s m c=r:=by rw [mk_inj hF]; exact hr
 unfold xNew at hr;rw [evK_eq s m] at hr;obtain ⟨l,h1,h2⟩:=altK_inv hr hb;refine ⟨l,h1,λq hq=>?_⟩;have h3:=h2 q hq;rw [frcZ_eq] at h3;exact appD_post hp M h3 hb
end
end Go.Zw
namespace Go.Zw
open Go.Vw (Nul V SX SO SRes width abin aun)

/-- The one state that an operation leads to. -/
def DetX (P:Program) (d:Option Nat) (o:XO) (K:ZS->Prop) (S:ZS):Prop:=∃ S',XCore P d o (· =S') S/\S'=outS d S S'/\K S'
def DetO (P:Program) (o:XOp) (K:ZS->Prop) (S:ZS):Prop:=∃ S',XOpZ P o (· =S') S/\S'=outS o.dst S S'/\K S'

theorem ZCore.mono {P:Program} {d:Option Nat} {o:SO} {K K':ZS->Prop} {S:ZS} (h:ZCore P d o K S) (hk:∀ T,K T->K' T):ZCore P d o K' S:=by
 unfold ZCore at h ⊢;split at h
 . split at h
   . obtain ⟨R,h1,h2⟩:=h;exact ⟨R,h1,λh' nx' zs hr=>hk _ (h2 h' nx' zs hr)⟩
   . obtain ⟨R,h1,h2⟩:=h;exact ⟨R,h1,λh' nx' zs hr=>hk _ (h2 h' nx' zs hr)⟩
   . exact h.elim
 . obtain ⟨x,δ,h1,h2⟩:=h;exact ⟨x,δ,h1,hk _ h2⟩
theorem XCore.mono {P:Program} {d:Option Nat} {o:XO} {K K':ZS->Prop} {S:ZS} (h:XCore P d o K S) (hk:∀ T,K T->K' T):XCore P d o K' S:=by
 cases o with
 | o so=>exact ZCore.mono h hk
 | n x=>obtain ⟨l,h1,h2⟩:=h; exact ⟨l,h1,λr hr=>hk _ (h2 r hr)⟩
 | pan x=>exact h
 | bad=>exact h
theorem XOpZ.mono {P:Program} {o:XOp} {K K':ZS->Prop} {S:ZS} (h:XOpZ P o K S) (hk:∀ T,K T->K' T):XOpZ P o K' S:=by
 unfold XOpZ at h ⊢;split
 . rename_i hg; rw [hg] at h; exact XCore.mono h hk
 . rename_i g w hg;rw [hg] at h;simp only at h ⊢;split
   . rename_i c hc; rw [hc] at h; exact ⟨λe=>XCore.mono (h.1 e) hk,λe=>hk _ (h.2 e)⟩
   . rename_i hc; rw [hc] at h; exact hk _ h
   . rename_i hc; rw [hc] at h; exact hk _ h
   . rename_i h1 h2 h3;split at h
     . rename_i c hc; exact absurd hc (h1 c)
     . rename_i hc; exact absurd hc (h2 _ _)
     . rename_i hc; exact absurd hc (h3 _)
     . exact h
theorem DetO.op {P:Program} {o:XOp} {K:ZS->Prop} {S:ZS} (h:DetO P o K S):XOpZ P o K S:=by
 obtain ⟨S',h1,_,h2⟩:=h;exact h1.mono λT e=>by rw [e]; exact h2

section
variable {P:Program} {h0:Nat->Option ZO} {nb:Nat} {k:Kont} {c:CallK} {r:RR} {d:Option Nat} {s:SL} {m:Mem} {F:Stp}

/-- Where a panic leads. -/
def PostP (h0:Nat->Option ZO) (nb:Nat) (c:CallK) (r:RR) (v:Value) (S:ZS):Prop:=∃ pv s m,zcv pv=some v/\absS s m=S/\MOK h0 nb m/\callP c s m pv=r

theorem kxo_core (hc:CallsOK P c) {o:XO} (hF:kxo o d= .mk F) (hr:F k s m c=r) (hb:r≠.bad) (M:MOK h0 nb m):XCore P d o (Post h0 nb k c r) (absS s m)\/XPan P ⟨d,o,none⟩ (PostP h0 nb c r) (absS s m):=by
 cases o with
 | o so=>
  by_cases hcall:∃ f as,so= .call f as
  . obtain ⟨f,as,rfl⟩:=hcall;rcases kCall_gen (P:=P) hc (show kCall f as d= .mk F from hF) hr hb M with ⟨S',h1,_,_,_,h2⟩ | ⟨id,fst,caps,v,val,m',h1,h2,h3,h4,h5,h6⟩
    . exact .inl (ZCore.mono h1 λT e=>by rw [e]; exact h2)
    . exact .inr ⟨rfl,id,fst,caps,val,mabs m',h1,h3,v,s,m',h2,by simp only [absS,h5],h4,h6⟩
  . obtain ⟨S',h1,hf,h2⟩:=kso_ok (P:=P) hc (.inr λf as e=>hcall ⟨f,as,e⟩) hF hr hb M;exact .inl (ZCore.mono h1 λT e=>by rw [e]; exact h2)
 | n x=>exact .inl (kNew_ok hF hr hb M)
 | pan x=>
  obtain ⟨g,hg,hF⟩:=g1_inv (show g1 x (λx=>.mk (xPan x))= .mk F from hF);have hr:xPan g k s m c=r:=by rw [mk_inj hF]; exact hr
  have hr: @Option.rec Value (λ_=>RR) .bad (λ_=>frcZ (g s) λv=>callP c s m v) (zcv (g s))=r:=hr;cases e:zcv (g s) with
  | none=>rw [e] at hr; exact absurd hr.symm hb
  | some val=>
   rw [e] at hr;have hr:frcZ (g s) (λv=>callP c s m v)=r:=hr;rw [frcZ_eq] at hr;have hgs:=hg s m;refine .inr ⟨rfl,val,by rw [<- hgs]; exact e,g s,s,m,e,rfl,M,hr⟩
 | bad=>
  have:=mk_inj (show FO.mk xBad= .mk F from hF);rw [<- this] at hr; exact absurd hr.symm hb

theorem kxo_ok (hc:CallsOK P c) (hn:NoP c) {o:XO} (hF:kxo o d= .mk F) (hr:F k s m c=r) (hb:r≠.bad) (M:MOK h0 nb m) (hk:xKind o<=2):DetX P d o (Post h0 nb k c r) (absS s m):=by
 cases o with
 | o so=>
  obtain ⟨S',h1,hf,h2⟩:=kso_ok (P:=P) hc (.inl hn) hF hr hb M;exact ⟨S',h1,hf,h2⟩
 | n x=>
  obtain ⟨l,h1,h2⟩:=kNew_ok (k:=k) (c:=c) (r:=r) hF hr hb M;obtain ⟨q,rfl,h3⟩:=xalt_one hk h1;refine ⟨_,⟨_,h1,λq' hq'=>by rw [List.mem_singleton.1 hq']⟩,by rw [zput_eq,put_out],h2 q (List.mem_singleton.2 rfl)⟩
 | pan x=>exact absurd hk (by show ¬ (3<=2); decide)
 | bad=>exact absurd hk (by show ¬ (3<=2); decide)

/-- A guard: the operation, without panics; or nothing. -/
theorem guard_inv {op:XO} {g:Nat} {w:Bool} (hF:kop ⟨d,op,some (g,w)⟩= .mk F) (hr:F k s m c=r) (hb:r≠.bad) (M:MOK h0 nb m):∃ f,kxo op d= .mk f/\
 ((∃ b,(absS s m).σ g= .b b/\(b=w->f (λs m _=>k s m c) s m (noP c)=r)/\(b= !w->Post h0 nb k c r ((absS s m).put d (.tup []))))\/
 (∃ k1 n,(absS s m).σ g= .i k1 n/\Post h0 nb k c r ((absS s m).put d (.tup [])))\/∃ l,(absS s m).σ g= .tup l/\Post h0 nb k c r ((absS s m).put d (.tup []))):=by
 cases e:kxo op d with
 | mk f=>
  have hF:g1 (.t g) (λg=>gd d λp=>.mk (xGuard g w f p))= .mk F:=by
   have:kop ⟨d,op,some (g,w)⟩= @FO.rec (λ_=>FO) (λf=>g1 (.t g) λg=>gd d λp=>.mk (xGuard g w f p)) (kxo op d):=rfl;rw [this,e] at hF;exact hF
  obtain ⟨gt,hg,hF⟩:=g1_inv hF;obtain ⟨p,hp,hF⟩:=gd_inv hF hr hb;have hr:xGuard gt w f p k s m c=r:=by rw [mk_inj hF]; exact hr
  have hs:=hg s m;have hsk:k (p (.tup []) s) m c=r->Post h0 nb k c r ((absS s m).put d (.tup [])):=λh=>⟨_,m,absS_put hp _ s m,M,h⟩;refine ⟨f,rfl,?_⟩;rcases zG_inv hr hb with ⟨b,h1,h2,h3⟩ | ⟨k1,n,h1,h2⟩ | ⟨l,h1,h2⟩<;>rw [hs] at h1<;>have h1:(absS s m).σ g=_:=h1
  . exact .inl ⟨b,h1,h2,λe=>hsk (h3 e)⟩
  . exact .inr (.inl ⟨k1,n,h1,hsk h2⟩)
  . exact .inr (.inr ⟨l,h1,hsk h2⟩)

/-- An operation with its guard. -/
theorem kop_ok (hc:CallsOK P c) (hn:NoP c) {o:XOp} (hF:kop o= .mk F) (hr:F k s m c=r) (hb:r≠.bad) (M:MOK h0 nb m) (hk2:xKind o.op<=2):DetO P o (Post h0 nb k c r) (absS s m):=by
 obtain ⟨d,op,g⟩:=o;cases g with
 | none=>
  obtain ⟨S',h1,hf,h2⟩:=kxo_ok (P:=P) hc hn (show kxo op d= .mk F from hF) hr hb M hk2;exact ⟨S',h1,hf,h2⟩
 | some gw=>
  obtain ⟨g,w⟩:=gw;have hpo:=(put_out d (absS s m) (absS s m) (.tup []) (absS s m).h (absS s m).nx).symm;obtain ⟨f,e,⟨b,h1,h2,h3⟩ | ⟨k1,n,h1,h2⟩ | ⟨l,h1,h2⟩⟩:=guard_inv hF hr hb M
  . by_cases hbw:b=w
    . obtain ⟨S',a1,hf,a2⟩:=kxo_ok (P:=P) (noP_calls hc) (noP_no c) e (h2 hbw) hb M hk2;refine ⟨S',?_,hf,a2⟩;unfold XOpZ;simp only [h1];exact ⟨λ_=>a1,λe=>by subst hbw; cases b<;>cases e⟩
    . have hbw':b= !w:=by cases b<;>cases w<;>first | rfl | exact absurd rfl hbw
      refine ⟨_,?_,hpo,h3 hbw'⟩;unfold XOpZ;simp only [h1];exact ⟨λe=>absurd e hbw,λ_=>by first | trivial | rfl⟩
  . refine ⟨_,?_,hpo,h2⟩;unfold XOpZ;simp only [h1]
  . refine ⟨_,?_,hpo,h2⟩;unfold XOpZ;simp only [h1]

/-- The same, whatever it answers. -/
theorem kop_core (hc:CallsOK P c) {o:XOp} (hF:kop o= .mk F) (hr:F k s m c=r) (hb:r≠.bad) (M:MOK h0 nb m):XOpZ P o (Post h0 nb k c r) (absS s m)\/XPan P o (PostP h0 nb c r) (absS s m):=by
 obtain ⟨d,op,g⟩:=o;cases g with
 | none=>exact kxo_core (P:=P) hc (show kxo op d= .mk F from hF) hr hb M
 | some gw=>
  obtain ⟨g,w⟩:=gw;left;have core:∀ {f:Stp},kxo op d= .mk f->f (λs m _=>k s m c) s m (noP c)=r->XCore P d op (Post h0 nb k c r) (absS s m):=λ{f} e h=>by
   rcases kxo_core (P:=P) (noP_calls hc) e h hb M with h | ⟨_,h⟩
   . exact h
   . have no:∀ {v S},PostP h0 nb (noP c) r v S->False:=λ⟨_,_,_,_,_,_,h⟩=>by rw [noP_no] at h; exact hb h.symm
     cases op with
     | o so=>
      cases so with
      | call f as=>obtain ⟨_,_,_,_,_,_,_,h⟩:=h; exact (no h).elim
      | _=>exact h.elim
     | n x=>exact h.elim
     | pan x=>obtain ⟨_,_,h⟩:=h; exact (no h).elim
     | bad=>exact h.elim
  obtain ⟨f,e,⟨b,h1,h2,h3⟩ | ⟨k1,n,h1,h2⟩ | ⟨l,h1,h2⟩⟩:=guard_inv hF hr hb M
  . unfold XOpZ;simp only [h1];exact ⟨λe'=>core e (h2 e'),λe'=>h3 e'⟩
  . unfold XOpZ;simp only [h1];exact h2
  . unfold XOpZ;simp only [h1];exact h2

theorem kops_cons (o:XOp) (ops:List XOp):∃ F,kop o= .mk F/\kops (o::ops)= .cons F (kops ops):=by
 cases e:kop o with
 | mk F=>
  refine ⟨F,rfl,?_⟩;show @FO.rec (λ_=>FL) (λf=>FL.cons f (kops ops)) (kop o)=_;rw [e]

theorem XPan.mono {o:XOp} {E E':Value->ZS->Prop} {S:ZS} (h:XPan P o E S) (he:∀ v S,E v S->E' v S):XPan P o E' S:=by
 refine ⟨h.1,?_⟩;have h:=h.2;cases hop:o.op with
 | o so=>
  rw [hop] at h;cases so with
  | call f as=>obtain ⟨a1,a2,a3,a4,a5,a6,a7,a8⟩:=h; exact ⟨a1,a2,a3,a4,a5,a6,a7,he _ _ a8⟩
  | _=>exact h.elim
 | n x=>rw [hop] at h; exact h.elim
 | pan x=>rw [hop] at h; obtain ⟨v,a1,a2⟩:=h; exact ⟨v,a1,he _ _ a2⟩
 | bad=>rw [hop] at h; exact h.elim

theorem run_ok (hc:CallsOK P c) (hb:r≠.bad):∀ {ops:List XOp} {s:SL} {m:Mem},run k (kops ops) s m c=r->MOK h0 nb m->RunX P (Post h0 nb k c r) (PostP h0 nb c r) ops (absS s m)
 | [],s,m,h,M=>⟨s,m,rfl,M,h⟩
 | o::ops,s,m,h,M=>by
  obtain ⟨F,h1,h2⟩:=kops_cons o ops;rw [h2] at h;have h:F (run k (kops ops)) s m c=r:=h;rcases kop_core (P:=P) hc h1 h hb M with h | h
  . refine .inl (h.mono ?_);rintro T ⟨s',m',rfl,M',h'⟩;exact run_ok hc hb h' M'
  . exact .inr h
end

-- what an operation looks at
theorem zop_congr {ev ev':SX->Z} {h:Nat->Option ZO} {nx:Nat} {o:SO} (he:∀ x∈o.opds,ev x=ev' x):zop ev h nx o=zop ev' h nx o:=by
 cases o with
 | slice sz x lo hi=>
  have h1:=he x (by simp [Go.Vw.SO.opds]);have h2:lo.map ev=lo.map ev':=by
   cases lo with
   | none=>rfl
   | some l=>simp [he l (by simp [Go.Vw.SO.opds])]
  have h3:hi.map ev=hi.map ev':=by
   cases hi with
   | none=>rfl
   | some l=>simp [he l (by simp [Go.Vw.SO.opds])]
  simp only [zop,h1,h2,h3]
 | sliceA k x lo hi=>
  have h1:=he x (by simp [Go.Vw.SO.opds]);have h2:lo.map ev=lo.map ev':=by
   cases lo with
   | none=>rfl
   | some l=>simp [he l (by simp [Go.Vw.SO.opds])]
  have h3:hi.map ev=hi.map ev':=by
   cases hi with
   | none=>rfl
   | some l=>simp [he l (by simp [Go.Vw.SO.opds])]
  simp only [zop,h1,h2,h3]
 | build zs ps=>
  have h1:(ps.map λp=>ev p.2.2)=ps.map λp=>ev' p.2.2:=List.map_congr_left λp hp=>he _ (by simp only [Go.Vw.SO.opds,List.mem_map]; exact ⟨p,hp,rfl⟩);simp only [zop,h1]
 | buildA zs ps=>
  have h1:(ps.map λp=>ev p.2.2)=ps.map λp=>ev' p.2.2:=List.map_congr_left λp hp=>he _ (by simp only [Go.Vw.SO.opds,List.mem_map]; exact ⟨p,hp,rfl⟩);simp only [zop,h1]
 | mkSl T sz ps=>
  have h1:ps.map ev=ps.map ev':=List.map_congr_left λp hp=>he _ hp;have h2:(ps.all λp=>(ev p).fitsB sz)=ps.all λp=>(ev' p).fitsB sz:=by
   have e:∀ f:SX->Z,(ps.all λp=>(f p).fitsB sz)=(ps.map f).all λz=>z.fitsB sz:=λf=>by rw [List.all_map]; rfl
   rw [e ev,e ev',h1]
  simp only [zop,h1,h2]
 | makeFn f cs=>
  have h1:cs.map ev=cs.map ev':=List.map_congr_left λp hp=>he _ hp;simp only [zop,h1]
 | call f as=>simp only [zop]
 | pick a b c=>have h1:=he a (by simp [Go.Vw.SO.opds]); have h2:=he b (by simp [Go.Vw.SO.opds]); have h3:=he c (by simp [Go.Vw.SO.opds]); simp only [zop,h1,h2,h3]
 | store sz x y=>have h1:=he x (by simp [Go.Vw.SO.opds]); have h2:=he y (by simp [Go.Vw.SO.opds]); simp only [zop,h1,h2]
 | storeA sz x y=>have h1:=he x (by simp [Go.Vw.SO.opds]); have h2:=he y (by simp [Go.Vw.SO.opds]); simp only [zop,h1,h2]
 | bin sz x y=>have h1:=he x (by simp [Go.Vw.SO.opds]); have h2:=he y (by simp [Go.Vw.SO.opds]); simp only [zop,h1,h2]
 | eqb sz x y=>have h1:=he x (by simp [Go.Vw.SO.opds]); have h2:=he y (by simp [Go.Vw.SO.opds]); simp only [zop,h1,h2]
 | indexAddr sz x y=>have h1:=he x (by simp [Go.Vw.SO.opds]); have h2:=he y (by simp [Go.Vw.SO.opds]); simp only [zop,h1,h2]
 | index x y=>have h1:=he x (by simp [Go.Vw.SO.opds]); have h2:=he y (by simp [Go.Vw.SO.opds]); simp only [zop,h1,h2]
 | append T sz b x y=>have h1:=he x (by simp [Go.Vw.SO.opds]); have h2:=he y (by simp [Go.Vw.SO.opds]); simp only [zop,h1,h2]
 | appendZ T sz z b x y=>simp only [zop]
 | copy sz x y=>have h1:=he x (by simp [Go.Vw.SO.opds]); have h2:=he y (by simp [Go.Vw.SO.opds]); simp only [zop,h1,h2]
 | mm b x y=>have h1:=he x (by simp [Go.Vw.SO.opds]); have h2:=he y (by simp [Go.Vw.SO.opds]); simp only [zop,h1,h2]
 | idxA sz x y=>have h1:=he x (by simp [Go.Vw.SO.opds]); have h2:=he y (by simp [Go.Vw.SO.opds]); simp only [zop,h1,h2]
 | idxV sz x y=>have h1:=he x (by simp [Go.Vw.SO.opds]); have h2:=he y (by simp [Go.Vw.SO.opds]); simp only [zop,h1,h2]
 | mv x=>have h1:=he x (by simp [Go.Vw.SO.opds]); simp only [zop,h1]
 | box T x=>have h1:=he x (by simp [Go.Vw.SO.opds]); simp only [zop,h1]
 | boxA T n x=>have h1:=he x (by simp [Go.Vw.SO.opds]); simp only [zop,h1]
 | load T x=>have h1:=he x (by simp [Go.Vw.SO.opds]); simp only [zop,h1]
 | loadA T x=>have h1:=he x (by simp [Go.Vw.SO.opds]); simp only [zop,h1]
 | un T x=>have h1:=he x (by simp [Go.Vw.SO.opds]); simp only [zop,h1]
 | conv T x=>have h1:=he x (by simp [Go.Vw.SO.opds]); simp only [zop,h1]
 | makeB T x=>have h1:=he x (by simp [Go.Vw.SO.opds]); simp only [zop,h1]
 | make T sz z b x=>have h1:=he x (by simp [Go.Vw.SO.opds]); simp only [zop,h1]
 | fieldAddr o sz x=>have h1:=he x (by simp [Go.Vw.SO.opds]); simp only [zop,h1]
 | field o sz x=>have h1:=he x (by simp [Go.Vw.SO.opds]); simp only [zop,h1]
 | extract x j=>have h1:=he x (by simp [Go.Vw.SO.opds]); simp only [zop,h1]
 | nilCheck x=>have h1:=he x (by simp [Go.Vw.SO.opds]); simp only [zop,h1]
 | len b x=>have h1:=he x (by simp [Go.Vw.SO.opds]); simp only [zop,h1]
 | isNil b x=>have h1:=he x (by simp [Go.Vw.SO.opds]); simp only [zop,h1]
 | isNul k b x=>have h1:=he x (by simp [Go.Vw.SO.opds]); simp only [zop,h1]
 | mkI T x=>have h1:=he x (by simp [Go.Vw.SO.opds]); simp only [zop,h1]
 | s2b x=>simp only [zop]
 | b2s x=>simp only [zop]
 | alloc T zs=>simp only [zop]
 | allocA T zs=>simp only [zop]
 | nilSl T sz=>simp only [zop]
 | nilFn=>simp only [zop]
 | bad=>simp only [zop]
end Go.Zw
namespace Go.Zw
open Go.RowKit (Below)
open Go.Vw (Nul V SX SO SRes width ancOk ordOk Closed anc_edge ord_edge anc_listed ready_lt getD_set)

-- kinds
theorem zop_no {ev:SX->Z} {h:Nat->Option ZO} {nx:Nat} {o:SO} {x:Z} {δ:ZD} (hk:soKind o<=1) (hz:zop ev h nx o=some (x,δ)):δ= .no:=by
 cases o;all_goals try (exfalso; revert hk; show ¬ ((2:Nat)<=1); decide)
 all_goals try (exfalso; revert hk; show ¬ ((3:Nat)<=1); decide)
 all_goals
  simp only [zop] at hz
  first
   | (simp only [Option.some.injEq,Prod.mk.injEq] at hz; exact hz.2.symm)
   | (revert hz; (repeat' split)<;>simp<;>(try (intros; first | assumption | (rename_i h; exact h.symm) | simp_all)))
theorem zop_pure {ev:SX->Z} {h h':Nat->Option ZO} {nx nx':Nat} {o:SO} (hk:soKind o=0):zop ev h nx o=zop ev h' nx' o:=by
 cases o;all_goals try rfl
 all_goals try (exfalso; revert hk; show ¬ ((2:Nat)=0); decide)
 all_goals try (exfalso; revert hk; show ¬ ((1:Nat)=0); decide)
 all_goals try (exfalso; revert hk; show ¬ ((3:Nat)=0); decide)

theorem app_h (S S':ZS) (δ:ZD) (h:S'.h=S.h) (n:S'.nx=S.nx):S'.app δ=⟨S'.σ,(S.app δ).h,(S.app δ).nx⟩:=by
 cases δ<;>simp [ZS.app,h,n]<;>(cases S'; simp_all)
theorem app_σ (S:ZS) (δ:ZD):(S.app δ).σ=S.σ:=by cases δ<;>rfl

theorem ev_agree {S S':ZS} {o:XO} (ha:∀ t∈o.opds.flatMap Go.Vw.SX.slot,S'.σ t=S.σ t):∀ x∈o.opds,S'.ev x=S.ev x:=by
 intro x hx;cases x with
 | t n=>exact ha n (List.mem_flatMap.2 ⟨_,hx,by simp [Go.Vw.SX.slot]⟩)
 | c v=>rfl
 | f id=>rfl

/-- The same operation in another state that has the same heap and what it looks at. -/
theorem XCore.move {P:Program} {d:Option Nat} {o:XO} {S S' T:ZS} (h:XCore P d o (· =T) S) (hh:S'.h=S.h) (hn:S'.nx=S.nx) (ha:∀ t∈o.opds.flatMap Go.Vw.SX.slot,S'.σ t=S.σ t) (hk:xKind o<=2):XCore P d o (· =outS d S' T) S':=by
 have he:=ev_agree ha;cases o with
 | o so=>
  simp only [XCore] at h ⊢;by_cases hcall:∃ f as,so= .call f as
  . obtain ⟨f,as,rfl⟩:=hcall;have hf:S'.ev f=S.ev f:=he f (by simp [XO.opds,Go.Vw.SO.opds]);have hm:as.map S'.ev=as.map S.ev:=List.map_congr_left λx hx=>he x (by simp [XO.opds,Go.Vw.SO.opds,hx]);simp only [ZCore,hf,hm,hh,hn] at h ⊢;split at h
    . obtain ⟨R,h1,h2⟩:=h;refine ⟨R,h1,λh' nx' zs hr=>?_⟩;rw [<- h2 h' nx' zs hr,put_out]
    . obtain ⟨R,h1,h2⟩:=h;refine ⟨R,h1,λh' nx' zs hr=>?_⟩;rw [<- h2 h' nx' zs hr,put_out]
    . exact h.elim
  . have h':∃ x δ,zop S.ev S.h S.nx so=some (x,δ)/\(S.app δ).put d x=T:=by
     unfold ZCore at h;split at h
     . exact absurd ⟨_,_,rfl⟩ hcall
     . exact h
    obtain ⟨x,δ,hz,hT⟩:=h';have:zop S'.ev S'.h S'.nx so=some (x,δ):=by rw [hh,hn,zop_congr (ev':=S.ev) he]; exact hz
    have key:(S'.app δ).put d x=outS d S' T:=by
     rw [<- hT,zput_eq d S,put_out,app_h S S' δ hh hn]
    unfold ZCore;split
    . exact absurd ⟨_,_,rfl⟩ hcall
    . exact ⟨x,δ,this,key⟩
 | n x=>
  obtain ⟨l,hl,hT⟩:=h;obtain ⟨q,rfl,h3⟩:=xalt_one hk hl;have hT:=hT q (List.mem_singleton.2 rfl);refine ⟨_,by rw [hh,hn,xalt_congr (ev':=S.ev) he]; exact hl,λq' hq'=>?_⟩;rw [List.mem_singleton.1 hq',<-hT,zput_eq d S,put_out,app_h S S' q.2 hh hn]
 | pan x=>exact h.elim
 | bad=>exact h.elim

theorem XCore.pureK {P:Program} {d:Option Nat} {o:XO} {S S' T:ZS} (h:XCore P d o (· =T) S) (ha:∀ t∈o.opds.flatMap Go.Vw.SX.slot,S'.σ t=S.σ t) (hk:xKind o=0):XCore P d o (· =outS d S' ⟨T.σ,S'.h,S'.nx⟩) S':=by
 have he:=ev_agree ha;cases o with
 | o so=>
  simp only [XCore] at h ⊢;have hcall:¬ ∃ f as,so= .call f as:=by
   rintro ⟨f,as,rfl⟩; cases hk
  have h':∃ x δ,zop S.ev S.h S.nx so=some (x,δ)/\(S.app δ).put d x=T:=by
   unfold ZCore at h;split at h
   . exact absurd ⟨_,_,rfl⟩ hcall
   . exact h
  obtain ⟨x,δ,hz,hT⟩:=h';have hδ:δ= .no:=zop_no (by rw [show soKind so=0 from hk]; decide) hz;subst hδ;have:zop S'.ev S'.h S'.nx so=some (x,.no):=by rw [zop_congr (ev':=S.ev) he,zop_pure (h':=S.h) (nx':=S.nx) hk]; exact hz
  have key:(S'.app .no).put d x=outS d S' ⟨T.σ,S'.h,S'.nx⟩:=by
   rw [<- hT];cases d<;>simp [outS,ZS.put,ZS.app]
  unfold ZCore;split
  . exact absurd ⟨_,_,rfl⟩ hcall
  . exact ⟨x,.no,this,key⟩
 | n x=>
  have hk:x.kind=0:=hk;obtain ⟨l,hl,hT⟩:=h;obtain ⟨⟨z,δ⟩,rfl,h3⟩:=xalt_one (by omega) hl;have hT:=hT _ (List.mem_singleton.2 rfl);obtain rfl:=nop1_no (by omega) h3;have h4:nop1 S'.ev S'.h S'.nx x=some (z,.no):=by rw [nop1_congr (ev':=S.ev) he,nop1_pure (h':=S.h) (nx':=S.nx) hk]; exact h3
  refine ⟨[(z,.no)],?_,λq' hq'=>?_⟩
  . cases x
    case nxt it=>cases hk
    all_goals simp only [xalt,h4,Option.map_some]
  . rw [List.mem_singleton.1 hq',<-hT];cases d<;>simp [outS,ZS.put,ZS.app]
 | pan x=>exact h.elim
 | bad=>exact h.elim

theorem XCore.still {P:Program} {d:Option Nat} {o:XO} {S T:ZS} (h:XCore P d o (· =T) S) (hk:xKind o<=1):T.h=S.h/\T.nx=S.nx:=by
 cases o with
 | o so=>
  simp only [XCore] at h;have hcall:¬ ∃ f as,so= .call f as:=by
   rintro ⟨f,as,rfl⟩; exact absurd hk (by show ¬ (2<=1); decide)
  have h':∃ x δ,zop S.ev S.h S.nx so=some (x,δ)/\(S.app δ).put d x=T:=by
   unfold ZCore at h;split at h
   . exact absurd ⟨_,_,rfl⟩ hcall
   . exact h
  obtain ⟨x,δ,hz,hT⟩:=h';have:=zop_no hk hz;subst this;rw [<- hT];cases d<;>simp [ZS.put,ZS.app]
 | n x=>
  have hk:x.kind<=1:=hk;obtain ⟨l,hl,hT⟩:=h;obtain ⟨⟨z,δ⟩,rfl,h3⟩:=xalt_one (by omega) hl;have hT:=hT _ (List.mem_singleton.2 rfl);obtain rfl:=nop1_no hk h3;rw [<- hT];cases d<;>simp [ZS.put,ZS.app]
 | pan x=>exact h.elim
 | bad=>exact h.elim
end Go.Zw
namespace Go.Zw
open Go.Vw (Nul V SX SO SRes width)

def ZD.okR (p:Nat->Prop):ZD->Prop
 | .new o | .turn _ o | .pass _ o=>o.okR p
 | _=>True
/-- Is all that values name of p? -/
def OkL (p:Nat->Prop) (l:List Z):Prop:=∀ z∈l,Z.okR p z
def OkH (p:Nat->Prop) (h:Nat->Option ZO):Prop:=∀ r o,h r=some o->o.okR p

section
variable {p:Nat->Prop}
theorem OkL.nil:OkL p []:=λz hz=>by cases hz
theorem OkL.one {z:Z} (h:Z.okR p z):OkL p [z]:=λx hx=>by rw [List.mem_singleton.1 hx]; exact h
theorem OkL.app {a b:List Z} (ha:OkL p a) (hb:OkL p b):OkL p (a++b):=λz hz=>(List.mem_append.1 hz).elim (ha z) (hb z)
theorem OkL.take {a:List Z} (ha:OkL p a) (n:Nat):OkL p (a.take n):=λz hz=>ha z (List.mem_of_mem_take hz)
theorem OkL.drop {a:List Z} (ha:OkL p a) (n:Nat):OkL p (a.drop n):=λz hz=>ha z (List.mem_of_mem_drop hz)
theorem OkL.get {a:List Z} (ha:OkL p a) {j:Nat} {z:Z} (h:a[j]? =some z):Z.okR p z:=ha z (List.mem_of_getElem? h)
theorem OkL.iff {a:List Z}:Z.oksR p a↔OkL p a:=oksR_iff p a
theorem vz1_ok (v:V):Z.okR p (vz1 v):=by cases v<;>simp [vz1,Z.okR]
theorem vz1s_ok (l:List V):OkL p (l.map vz1):=λz hz=>by obtain ⟨v,_,rfl⟩:=List.mem_map.1 hz; exact vz1_ok v
theorem vz_ok (v:V):Z.okR p (vz v):=by
 cases v
 case agg cs=>exact (oksR_iff p _).2 (vz1s_ok cs)
 all_goals simp [vz,vz1,Z.okR]
theorem cells_ok {z:Z} (h:Z.okR p z):OkL p z.cells:=by
 cases z
 case agg cs=>exact (oksR_iff p _).1 h
 all_goals exact OkL.one h
theorem lay_ok {z:Z} {cs:List Z} (h:Z.okR p z) (e:z.lay=some cs):OkL p cs:=by
 cases z
 case agg cs'=>simp only [Z.lay,Option.some.injEq] at e; subst e; exact (oksR_iff p _).1 h
 all_goals
  simp only [Z.lay] at e;split at e
  . simp only [Option.some.injEq] at e; subst e; exact OkL.one h
  . cases e
theorem ob_ok {h:Nat->Option ZO} (hh:OkH p h) {r:Nat} {T:TypeId} {fx:Bool} {cs:List Z} (e:h r=some (.ob T fx cs)):OkL p cs:=(oksR_iff p _).1 (hh _ _ e)
theorem mkOb {T:TypeId} {fx:Bool} {cs:List Z} (h:OkL p cs):(ZO.ob T fx cs).okR p:=(oksR_iff p _).2 h
theorem zelems_ok {h:Nat->Option ZO} (hh:OkH p h) {w n:Nat} {z:Z} {l:List Z} (e:zelems h w z=some (l,n)):OkL p l:=by
 unfold zelems at e;split at e
 . simp only [Option.some.injEq,Prod.mk.injEq] at e; rw [<- e.1]; exact OkL.nil
 . split at e
   . rename_i hr;split at e
     . simp only [Option.some.injEq,Prod.mk.injEq] at e; rw [<- e.1]; exact ((ob_ok hh hr).drop _).take _
     . cases e
   . cases e
 . cases e
theorem zpart_ok {cs:List Z} (hc:OkL p cs) {j:Nat} {sz:Option Nat} {z:Z} (e:zpart cs j sz=some z):Z.okR p z:=by
 cases sz with
 | none=>exact hc.get e
 | some n=>
  simp only [zpart] at e;split at e
  . simp only [Option.some.injEq] at e; subst e; exact (oksR_iff p _).2 ((hc.drop _).take _)
  . cases e
theorem fillZ_ok:∀ {ps:List (Nat × Nat)} {vs zs:List Z},OkL p zs->OkL p vs->OkL p (fillZ zs ps vs)
 | (off,n)::ps,v::vs,zs,hz,hv=>by
  unfold fillZ;exact fillZ_ok (((hz.take _).app (cells_ok (hv v (by simp)))).app (hz.drop _)) λz hm=>hv z (by simp [hm])
 | [],vs,zs,hz,hv=>by unfold fillZ; exact hz
 | _::_,[],zs,hz,hv=>by unfold fillZ; exact hz
theorem reps_ok {l:List Z} (h:OkL p l) (n:Nat):OkL p (List.replicate n l).flatten:=λz hz=>by
 obtain ⟨m,hm,hz⟩:=List.mem_flatten.1 hz;rw [(List.mem_replicate.1 hm).2] at hz;exact h z hz
theorem scal_ok {z:Z} {v:V} (h:z.scal=some v):Z.okR p z:=by cases z<;>simp_all [Z.scal,Z.okR]

theorem agg_ok {x:Z} {cs:List Z} (e:x= .agg cs) (h:Z.okR p x):OkL p cs:=by subst e; exact (oksR_iff p _).1 h
theorem tup_ok {x:Z} {cs:List Z} (e:x= .tup cs) (h:Z.okR p x):OkL p cs:=by subst e; exact (oksR_iff p _).1 h

theorem zapp_ok {h:Nat->Option ZO} {nx:Nat} (hn:p nx) (hh:OkH p h) {e:TypeId} {w bytes m:Nat} {x:Z} (hx:Z.okR p x) {news:List Z} (hnews:OkL p news) {r:Z × ZD} (hz:zapp h nx e w bytes x news m=some r):Z.okR p r.1/\r.2.okR p:=by
 unfold zapp at hz;revert hz
 repeat' split
 all_goals (intro hz; try cases hz)
 all_goals (try (have hcs:=ob_ok hh (by assumption)))
 all_goals (refine ⟨?_,?_⟩<;>try simp only [ZD.okR])
 all_goals first
  | trivial
  | exact hn
  | exact hx
  | exact mkOb hnews
  | exact mkOb (((hcs.take _).app hnews).app (hcs.drop _))
  | exact mkOb (((hcs.drop _).take _).app hnews)
  | exact mkOb ((hcs.take _).app hnews)

/-- What an operation answers names what it looks at, what lies in the heap, the new object. -/
theorem zop_okR {ev:SX->Z} {h:Nat->Option ZO} {nx:Nat} (hn:p nx) (hh:OkH p h) {o:SO} (he:∀ x∈o.opds,Z.okR p (ev x)) {r:Z × ZD} (hz:zop ev h nx o=some r):Z.okR p r.1/\r.2.okR p:=by
 have s1:∀ {a:SX},a∈o.opds->Z.okR p (ev a):=λ{a} h=>he a h;cases o
 case build zs ps=>
  simp only [zop] at hz;split at hz
  . cases hz;refine ⟨(oksR_iff p _).2 (fillZ_ok (vz1s_ok _) λz hz=>?_),trivial⟩;obtain ⟨q,hq,rfl⟩:=List.mem_map.1 hz;exact he _ (by simp only [Go.Vw.SO.opds,List.mem_map]; exact ⟨q,hq,rfl⟩)
  . cases hz
 case buildA zs ps=>
  simp only [zop] at hz;split at hz
  . cases hz;refine ⟨(oksR_iff p _).2 (fillZ_ok (vz1s_ok _) λz hz=>?_),trivial⟩;obtain ⟨q,hq,rfl⟩:=List.mem_map.1 hz;exact he _ (by simp only [Go.Vw.SO.opds,List.mem_map]; exact ⟨q,hq,rfl⟩)
  . cases hz
 case mkSl T sz ps=>
  simp only [zop] at hz;split at hz
  . cases hz;refine ⟨hn,mkOb (T:=T) (fx:=true) (cs:=(ps.map ev).flatMap Z.cells) λz hz=>?_⟩;obtain ⟨q,hq,hz⟩:=List.mem_flatMap.1 hz;obtain ⟨q',hq',rfl⟩:=List.mem_map.1 hq;exact cells_ok (he _ hq') z hz
  . cases hz
 case makeFn f cs=>
  simp only [zop,Option.some.injEq] at hz;subst hz;refine ⟨⟨trivial,(oksR_iff p _).2 λz hz=>?_⟩,trivial⟩;obtain ⟨q,hq,rfl⟩:=List.mem_map.1 hz;exact he _ hq
 all_goals (simp only [Go.Vw.SO.opds,List.mem_cons,List.not_mem_nil,or_false,forall_eq_or_imp,forall_eq,List.mem_append,or_imp,forall_and] at he)
 all_goals (clear s1)
 case append T sz bytes x y=>
  simp only [zop] at hz;split at hz
  . rename_i news m hel;have hnews:=zelems_ok hh hel;have hx:=he.1;revert hz
    repeat' split
    all_goals (intro hz; try cases hz)
    all_goals (try (have hcs:=ob_ok hh (by assumption)))
    all_goals (refine ⟨?_,?_⟩<;>try simp only [ZD.okR])
    all_goals first
     | trivial
     | exact hn
     | (simp_all [Z.okR]; done)
     | exact mkOb hnews
     | exact mkOb (((hcs.take _).app hnews).app (hcs.drop _))
     | exact mkOb (((hcs.drop _).take _).app hnews)
     | exact mkOb ((hcs.take _).app hnews)
  . cases hz
 all_goals
  simp only [zop,Option.map_eq_some_iff] at hz;revert hz
  (repeat' split)
  all_goals (intro hz)
  all_goals (try (have hcs:=ob_ok hh (by assumption)))
  all_goals (try simp only [Option.map_eq_some_iff] at hz)
  all_goals (try (obtain ⟨_,hz1,rfl⟩:=hz))
  all_goals (try cases hz)
  all_goals (refine ⟨?_,?_⟩<;>try simp only [ZD.okR])
  all_goals first
   | trivial
   | exact hn
   | exact vz_ok _
   | exact mkOb (vz1s_ok _)
   | exact mkOb (reps_ok (cells_ok (vz_ok _)) _)
   | exact mkOb (lay_ok he (by assumption))
   | exact mkOb (((hcs.take _).app (cells_ok he.2)).app (hcs.drop _))
   | exact zpart_ok hcs hz1
   | (simp_all [Z.okR,Z.oksR]; done)
   | exact mkOb (((hcs.take _).app ((zelems_ok hh (by assumption)).take _)).app (hcs.drop _))
   | (have h1:=agg_ok (by assumption) he; exact zpart_ok h1 hz1)
   | (have h1:=agg_ok (by assumption) he.1; exact h1.get hz1)
   | (have h1:=tup_ok (by assumption) he; exact h1.get hz1)

theorem mp_ok {h:Nat->Option ZO} (hh:OkH p h) {r c:Nat} {es:List (Z × Z × Nat)} (e:h r=some (.mp es c)):∀ x∈es,Z.okR p x.1/\Z.okR p x.2.1:=hh _ _ e
theorem lookR_ok {ok b:Bool} {z:Z} (h:Z.okR p z):Z.okR p (lookR ok z b):=by
 cases ok with
 | false=>exact h
 | true=>exact ⟨h,trivial,trivial⟩
theorem bytesZ_ok (s:ByteArray):OkL p (bytesZ s):=λz hz=>by
 obtain ⟨b,_,rfl⟩:=List.mem_map.1 hz; trivial

theorem nop1_okR {ev:SX->Z} {h:Nat->Option ZO} {nx:Nat} (hn:p nx) (hh:OkH p h) {o:XN} (he:∀ x∈o.opds,Z.okR p (ev x)) {r:Z × ZD} (hz:nop1 ev h nx o=some r):Z.okR p r.1/\r.2.okR p:=by
 cases o;all_goals (simp only [XN.opds,List.mem_cons,List.not_mem_nil,or_false,forall_eq_or_imp,forall_eq] at he)
 case appS e bytes x y=>
  simp only [nop1] at hz;split at hz
  . exact zapp_ok hn hh he.1 (bytesZ_ok _) hz
  . cases hz
 case ent it=>
  simp only [nop1,entZ] at hz;revert hz
  repeat' split
  all_goals (intro hz)
  all_goals (try simp only [Option.map_eq_some_iff] at hz)
  all_goals (try (obtain ⟨e,hz1,rfl⟩:=hz))
  all_goals (try cases hz)
  have:=mp_ok hh (by assumption) e (List.mem_of_find?_eq_some hz1);exact ⟨⟨this.1,this.2,trivial⟩,trivial⟩
 case mapSet K m k v=>
  simp only [nop1] at hz;revert hz
  repeat' split
  all_goals (intro hz)
  all_goals (try cases hz)
  all_goals (have hes:=mp_ok hh (by assumption))
  . rename_i j _ _ e hj;refine ⟨trivial,λx hx=>?_⟩;rcases List.mem_or_eq_of_mem_set hx with hx | rfl
    . exact hes x hx
    . exact ⟨he.2.1,he.2.2⟩
  . refine ⟨trivial,λx hx=>?_⟩;rcases List.mem_append.1 hx with hx | hx
    . exact hes x hx
    . rw [List.mem_singleton.1 hx]; exact ⟨he.2.1,he.2.2⟩
 case look K z ok m k=>
  simp only [nop1] at hz;revert hz
  repeat' split
  all_goals (intro hz)
  all_goals (try cases hz)
  . rename_i j _ _ e hj;exact ⟨lookR_ok (mp_ok hh (by assumption) e (List.mem_of_getElem? hj)).2,trivial⟩
  . exact ⟨lookR_ok (vz_ok _),trivial⟩
 case mapDel K m k=>
  simp only [nop1] at hz;revert hz
  repeat' split
  all_goals (intro hz)
  all_goals (try cases hz)
  all_goals (have hes:=mp_ok hh (by assumption))
  all_goals (refine ⟨trivial,λx hx=>?_⟩)
  all_goals first
   | exact hes x (List.mem_of_mem_eraseIdx hx)
   | exact hes x hx
 case ustr e x y=>
  simp only [nop1] at hz;revert hz
  repeat' split
  all_goals (intro hz)
  all_goals (try cases hz)
  exact ⟨trivial,trivial⟩
 all_goals
  simp only [nop1,Option.map_eq_some_iff] at hz;revert hz
  (repeat' split)
  all_goals (intro hz)
  all_goals (try (have hcs:=ob_ok hh (by assumption)))
  all_goals (try simp only [Option.map_eq_some_iff] at hz)
  all_goals (try (obtain ⟨_,hz1,rfl⟩:=hz))
  all_goals (try cases hz)
  all_goals (refine ⟨?_,?_⟩<;>try simp only [ZD.okR])
  all_goals first
   | trivial
   | exact hn
   | exact mkOb (bytesZ_ok _)
   | exact mkOb (reps_ok (cells_ok (vz_ok _)) _)
   | exact mkOb hcs
   | exact mkOb (((hcs.take _).app (reps_ok (cells_ok (vz_ok _)) _)).app (hcs.drop _))
   | (simp_all [Z.okR,Z.oksR,ZO.okR]; done)
   | skip
end
end Go.Zw
namespace Go.Zw
open Go.RowKit (Below)
open Go.Vw (Nul V SX SO SRes width)

mutual
theorem ren_same {ρ:Nat->Nat}:∀ {z:Z},Z.okR (λr=>ρ r=r) z->Z.ren ρ z=z
 | .sl r o n w,h=>by simp only [Z.okR] at h; simp only [Z.ren,h]
 | .ptr r j,h=>by simp only [Z.okR] at h; simp only [Z.ren,h]
 | .mp r,h=>by simp only [Z.okR] at h; simp only [Z.ren,h]
 | .it r,h=>by simp only [Z.okR] at h; simp only [Z.ren,h]
 | .yl r,h=>by simp only [Z.okR] at h; simp only [Z.ren,h]
 | .clo f fs cp,h=>by simp only [Z.okR] at h; simp only [Z.ren,rens_same h.1,rens_same h.2]
 | .ifc T x,h=>by simp only [Z.okR] at h; simp only [Z.ren,ren_same h]
 | .agg cs,h=>by simp only [Z.okR] at h; simp only [Z.ren,rens_same h]
 | .tup cs,h=>by simp only [Z.okR] at h; simp only [Z.ren,rens_same h]
 | .b x,_=>rfl
 | .i k n,_=>rfl
 | .s x,_=>rfl
 | .nul k,_=>rfl
 | .nil,_=>rfl
 | .any,_=>rfl
theorem rens_same {ρ:Nat->Nat}:∀ {zs:List Z},Z.oksR (λr=>ρ r=r) zs->Z.rens ρ zs=zs
 | [],_=>rfl
 | z::zs,h=>by simp only [Z.oksR] at h; simp only [Z.rens,ren_same h.1,rens_same h.2]
end
theorem renO_same {ρ:Nat->Nat} {o:ZO} (h:o.okR λr=>ρ r=r):o.ren ρ=o:=by
 cases o with
 | ob T fx cs=>exact congrArg (ZO.ob T fx) (rens_same h)
 | mp es c=>
  simp only [ZO.ren];congr 1;have:∀ e∈es,(Z.ren ρ e.1,Z.ren ρ e.2.1,e.2.2)=e:=λe he=>by rw [ren_same (h e he).1,ren_same (h e he).2]
  exact (List.map_congr_left this).trans (List.map_id _)
 | it m a b c=>
  cases m with
  | none=>rfl
  | some r=>simp only [ZO.ren,Option.map_some,h r rfl]
 | lp c σ st=>simp only [ZO.ren,rens_same (show Z.oksR _ σ from h)]

/-- How a new object is named. -/
def NameF (f:Nat->Z):Prop:=(f=λq=>.ptr q 0)\/(∃ n w,f=λq=>.sl q 0 n w)\/f=λq=>.mp q
theorem NameF.ren {f:Nat->Z} (h:NameF f) (ρ:Nat->Nat) (q:Nat):Z.ren ρ (f q)=f (ρ q):=by
 rcases h with rfl | ⟨n,w,rfl⟩ | rfl<;>simp [Z.ren]
theorem NameF.okR {f:Nat->Z} (h:NameF f) {p:Nat->Prop} {q:Nat} (hq:p q):Z.okR p (f q):=by
 rcases h with rfl | ⟨n,w,rfl⟩ | rfl<;>simpa [Z.okR] using hq

def coreZ (ev:SX->Z) (h:Nat->Option ZO) (q:Nat):XO->Option (Z × ZD)
 | .o so=>zop ev h q so
 | .n x=>nop1 ev h q x
 | .pan _=>none
 | .bad=>none
theorem cre_form {o:XO} (hc:isCreO o=true) {ev:SX->Z} {q:Nat} {z:Z} {δ:ZD} (h:creZ ev q o=some (z,δ)):∃ f x,NameF f/\z=f q/\δ= .new x/\∀ h' nx,coreZ ev h' nx o=some (f nx,.new x):=by
 unfold isCreO at hc;split at hc
 case h_8=>cases hc
 all_goals
  simp only [creZ,zop,nop1] at h;revert h
  (repeat' split)
  all_goals (intro h)
  all_goals (try cases h)
  all_goals first
   | exact ⟨λq=>.ptr q 0,_,.inl rfl,rfl,rfl,λh' nx=>by simp_all [coreZ,zop,nop1]⟩
   | exact ⟨λq=>.mp q,_,.inr (.inr rfl),rfl,rfl,λh' nx=>by simp_all [coreZ,zop,nop1]⟩
   | exact ⟨λq=>.sl q 0 _ _,_,.inr (.inl ⟨_,_,rfl⟩),rfl,rfl,λh' nx=>by simp_all [coreZ,zop,nop1]⟩
theorem coreZ_okR {p:Nat->Prop} {ev:SX->Z} {h:Nat->Option ZO} {nx:Nat} (hn:p nx) (hh:OkH p h) {o:XO} (he:∀ x∈o.opds,Z.okR p (ev x)) {r:Z × ZD} (hz:coreZ ev h nx o=some r):Z.okR p r.1/\r.2.okR p:=by
 cases o with
 | o so=>exact zop_okR hn hh he hz
 | n x=>exact nop1_okR hn hh he hz
 | pan x=>cases hz
 | bad=>cases hz

def isCallO:XO->Bool
 | .o (.call _ _)=>true
 | _=>false
/-- What the one state of an operation that is no call comes from. -/
theorem core_inv {P:Program} {d:Option Nat} {o:XO} {S S1:ZS} (h:XCore P d o (· =S1) S) (hk:xKind o<=2) (hc:isCallO o=false):∃ r,coreZ S.ev S.h S.nx o=some r/\S1=(S.app r.2).put d r.1:=by
 cases o with
 | o so=>
  have hcall:¬ ∃ f as,so= .call f as:=by rintro ⟨f,as,rfl⟩; cases hc
  simp only [XCore] at h;have h':∃ x δ,zop S.ev S.h S.nx so=some (x,δ)/\(S.app δ).put d x=S1:=by
   unfold ZCore at h;split at h
   . exact absurd ⟨_,_,rfl⟩ hcall
   . exact h
  obtain ⟨x,δ,hz,hT⟩:=h';exact ⟨(x,δ),hz,hT.symm⟩
 | n x=>
  obtain ⟨l,hl,hT⟩:=h;obtain ⟨r,rfl,h3⟩:=xalt_one hk hl;exact ⟨r,h3,(hT r (List.mem_singleton.2 rfl)).symm⟩
 | pan x=>exact h.elim
 | bad=>exact h.elim
theorem core_mk {P:Program} {d:Option Nat} {o:XO} {S:ZS} {r:Z × ZD} (hk:xKind o<=2) (h:coreZ S.ev S.h S.nx o=some r) (hc:isCallO o=false):XCore P d o (· =(S.app r.2).put d r.1) S:=by
 cases o with
 | o so=>
  have hcall:¬ ∃ f as,so= .call f as:=by rintro ⟨f,as,rfl⟩; cases hc
  simp only [XCore];unfold ZCore;split
  . exact absurd ⟨_,_,rfl⟩ hcall
  . exact ⟨r.1,r.2,h,rfl⟩
 | n x=>
  have h3:nop1 S.ev S.h S.nx x=some r:=h;refine ⟨[r],?_,λq hq=>by rw [List.mem_singleton.1 hq]⟩;cases x
  case nxt it=>cases h3
  all_goals simp only [xalt,h3,Option.map_some]
 | pan x=>cases h
 | bad=>cases h
theorem app_okH {p:Nat->Prop} {S:ZS} (hh:OkH p S.h) {δ:ZD} (hδ:δ.okR p):OkH p (S.app δ).h:=by
 intro r o ho;cases δ with
 | no=>exact hh r o ho
 | new x=>
  simp only [ZS.app,upd_apply] at ho;split at ho
  . cases ho; exact hδ
  . exact hh r o ho
 | turn q x=>
  simp only [ZS.app,upd_apply] at ho;split at ho
  . cases ho; exact hδ
  . exact hh r o ho
 | pass q x=>
  simp only [ZS.app,upd_apply] at ho;split at ho
  . cases ho; exact hδ
  . split at ho
    . cases ho
    . exact hh r o ho
 | drop q=>
  simp only [ZS.app,upd_apply] at ho;split at ho
  . cases ho
  . exact hh r o ho

section
variable {P:Program} {w0:Bs} {n:Nat} {ro:Option Nat} {m:Nat}

/-- The new object under a name that had been kept. -/
theorem RelSt.name {σ:Nat->Z} {h:Nat->Option ZO} {nx d q:Nat} {f:Nat->Z} {x:ZO} {a:Act} {w:World} (hR:RelSt w0 n ⟨upd σ d (f nx),upd h nx (some x),nx+1⟩ a w) (hf:NameF f) (hq:q<nx) (hN:w0.N<=q) (hfree:h q=none)
 (hσ:∀ t,Z.okR (λr=>r<nx/\r≠q) (σ t)) (hh:∀ r o,h r=some o->r<nx/\o.okR λr=>r<nx/\r≠q) (hx:x.okR λr=>r<nx/\r≠q):RelSt w0 n ⟨upd σ d (f q),upd h q (some x),nx⟩ a w:=by
 obtain ⟨μ,H,rel⟩:=hR.ex
 let ρ:Nat->Nat:=λr=>if r=nx then q else r
 have hρ:∀ r,r<nx/\r≠q->ρ r<nx/\upd μ q (μ nx) (ρ r)=μ r:=λr hr=>by
  have e:ρ r=r:=if_neg (by omega);rw [e,upd_ne _ _ hr.2];exact ⟨hr.1,rfl⟩
 have hs:∀ r,r<nx/\r≠q->ρ r=r:=λr hr=>if_neg (by omega);refine ⟨⟨upd μ q (μ nx),?_,λt=>?_⟩,hR.below,hR.size,hR.defers⟩
 . refine H.rename (ρ:=ρ) (β:=λr=>if r=q then nx else r) (Nat.le_of_lt (Nat.lt_of_le_of_lt hN hq)) (λr hr=>?_) (λr o ho=>?_) (λr r' h1 h2 he=>?_)
   . rw [upd_ne _ _ (by omega)]; exact H.base.2 r hr
   . simp only [upd_apply] at ho;by_cases e:r=q
     . subst e;rw [if_pos rfl] at ho;cases ho;refine ⟨hq,x,by simp [upd_apply],by simp [upd_apply],(renO_same (ZO.okR_mono (λr hr=>hs r hr) hx)).symm,ZO.okR_mono hρ hx⟩
     . rw [if_neg e] at ho;obtain ⟨h1,h2⟩:=hh r o ho;refine ⟨h1,o,?_,?_,(renO_same (ZO.okR_mono (λr hr=>hs r hr) h2)).symm,ZO.okR_mono hρ h2⟩
       . simp only [if_neg e,upd_apply]; rw [if_neg (by omega)]; exact ho
       . simp only [if_neg e,upd_apply]
   . have lt:∀ r,upd h q (some x) r≠none->r<nx:=λr hr=>by
      simp only [upd_apply] at hr;by_cases e:r=q
      . omega
      . rw [if_neg e] at hr;obtain ⟨o,ho⟩:=Option.ne_none_iff_exists'.1 hr;exact (hh r o ho).1
     have a1:=lt r h1;have a2:=lt r' h2;by_cases e:r=q<;>by_cases e':r'=q<;>simp only [e,e',if_true,if_false] at he ⊢<;>omega
 . have h1:=rel t;simp only [upd_apply] at h1 ⊢;by_cases e:t=d
   . rw [if_pos e] at h1 ⊢;have:=h1.ren (ρ:=ρ) (μ':=upd μ q (μ nx)) (N':=nx) (hf.okR (by simp [ρ,upd_apply,hq]));rw [hf.ren] at this
     simpa [ρ] using this
   . rw [if_neg e] at h1 ⊢;have:=h1.ren (ρ:=ρ) (μ':=upd μ q (μ nx)) (N':=nx) (okR_mono hρ _ (hσ t))
     rwa [ren_same (okR_mono (λr hr=>hs r hr) _ (hσ t))] at this

/-- An operation that holds in a heap holds in one that has more. -/
theorem frame_op {ops:Array Oper} {o:Oper} {so:XOp} {i:Nat} (hi:ops[i]? =some o) (hs:xslim1 P n ops o=some so) {σ:Nat->Z} {hp H:Nat->Option ZO} {nx:Nat} {S1:ZS} (h:XOpZ P so (· =S1) ⟨σ,hp,nx⟩) (sub:∀ r,hp r=none\/hp r=H r)
 {a:Act} {w:World} (hR:RelSt w0 n ⟨σ,H,nx⟩ a w) {K':Act->World->Prop} {Q:Exit->Act->World->Prop} {G:Nat->Option ZO} (hG:∀ r,G r=none\/G r=(open Classical in if hp r=none/\H r≠none then H r else S1.h r))
 (hk:∀ a' w',RelSt w0 n ⟨S1.σ,G,S1.nx⟩ a' w'->K' a' w'):wpOpIn (Fx ro) m P ops Q i K' a w:=by
 classical
 obtain ⟨μ,HH,rel⟩:=hR.ex;have HH:HeapOK w w0 μ nx H:=HH;have rel:∀ t,RelZ μ nx (σ t) (a.tmps.getD t undef):=rel
 let w1:Bs:=⟨w,μ,nx,λb=>b<w.heap.size/\(w0.pr b\/∃ q,hp q=none/\H q≠none/\b=(μ q).1),λb hb=>hb.1,w0.ds⟩
 have H1:HeapOK w w1 μ nx hp:=by
  refine ⟨λr x hx=>?_,λr r' h1 h2 he=>?_,Nat.le_refl _,λ_ _=>rfl⟩
  . have e:hp r=H r:=(sub r).resolve_left (by rw [hx]; simp);obtain ⟨a1,a2,a3⟩:=HH.obj r x (by rw [<- e]; exact hx);refine ⟨a1,λhb=>?_,a3⟩;rcases hb.2 with hb | ⟨q,hq1,hq2,e'⟩
    . exact a2 hb
    . have:=HH.inj r q (by rw [<- e,hx]; simp) hq2 e';rw [this,hq1] at hx; cases hx
  . exact HH.inj r r' (by rw [<- (sub r).resolve_left h1]; exact h1) (by rw [<- (sub r').resolve_left h2]; exact h2) he
 have R1:RelSt w1 n ⟨σ,hp,nx⟩ a w:=⟨⟨μ,H1,rel⟩,⟨rfl,rfl,rfl,Nat.le_refl _,λ_ _=>rfl,hR.below.layAt λk hp=>⟨Nat.lt_of_lt_of_le (w0.old k hp) hR.below.size,.inl hp⟩⟩,hR.size,hR.defers⟩;refine xop_region hi hs h R1 ?_;rintro S' a' w' rfl hR';obtain ⟨μ',H',rel'⟩:=hR'.ex;have hnx:nx<=S'.nx:=H'.base.1;have hμ:∀ r,r<nx->μ' r=μ r:=H'.base.2;refine hk a' w' ⟨⟨μ',?_,rel'⟩,?_,hR'.size,hR'.defers⟩
 . have big:HeapOK w' w0 μ' S'.nx (λr=>if hp r=none/\H r≠none then H r else S'.h r):=by
    refine ⟨λr x hx=>?_,λr r' h1 h2 he=>?_,Nat.le_trans HH.base.1 hnx,λr hr=>(hμ r (Nat.lt_of_lt_of_le hr HH.base.1)).trans (HH.base.2 r hr)⟩
    . by_cases e:hp r=none/\H r≠none
      . rw [if_pos e] at hx;obtain ⟨a1,a2,a3⟩:=HH.obj r x hx;rw [hμ r a1];exact ⟨Nat.lt_of_lt_of_le a1 hnx,a2,a3.keep hnx hμ (hR'.below.block _ ⟨a3.lt,.inr ⟨r,e.1,e.2,rfl⟩⟩)⟩
      . rw [if_neg e] at hx;obtain ⟨a1,a2,a3⟩:=H'.obj r x hx;refine ⟨a1,λhp'=>a2 ⟨?_,.inl hp'⟩,a3⟩;exact Nat.lt_of_lt_of_le (w0.old _ hp') hR.below.size
    . have key:∀ r r',(hp r=none/\H r≠none)->¬ (hp r'=none/\H r'≠none)->S'.h r'≠none->(μ' r).1=(μ' r').1->False:=λr r' e e' h2 he=>by
       obtain ⟨x,hx⟩:=Option.ne_none_iff_exists'.1 e.2;obtain ⟨a1,_,a3⟩:=HH.obj r x hx;obtain ⟨y,hy⟩:=Option.ne_none_iff_exists'.1 h2;obtain ⟨_,b2,_⟩:=H'.obj r' y hy;rw [hμ r a1] at he;exact b2 ⟨by rw [<- he]; exact a3.lt,.inr ⟨r,e.1,e.2,he.symm⟩⟩
      by_cases e:hp r=none/\H r≠none<;>by_cases e':hp r'=none/\H r'≠none
      . obtain ⟨x,hx⟩:=Option.ne_none_iff_exists'.1 e.2;obtain ⟨y,hy⟩:=Option.ne_none_iff_exists'.1 e'.2;rw [hμ r (HH.obj r x hx).1,hμ r' (HH.obj r' y hy).1] at he;exact HH.inj r r' e.2 e'.2 he
      . rw [if_neg e'] at h2; exact (key r r' e e' h2 he).elim
      . rw [if_neg e] at h1; exact (key r' r e' e h1 he.symm).elim
      . rw [if_neg e] at h1; rw [if_neg e'] at h2; exact H'.inj r r' h1 h2 he
   exact big.drop λr=>by
    rcases hG r with h | h
    . exact .inl h
    . exact .inr h
 . exact hR.below.go hR'.below.os hR'.below.tape hR'.below.output hR'.below.size λk hk'=>hR'.below.block k ⟨Nat.lt_of_lt_of_le (w0.old k hk') hR.below.size,.inl hk'⟩
end
end Go.Zw
