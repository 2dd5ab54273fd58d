/- Contracts of functions that are given the caller's rows and boxes: out of their bodies; new names for objects. A base for the claims of this seat; it names no program. -/
import Derived.Test.YtfdjbmamidmgfaaGreatVB
set_option linter.unusedVariables false
set_option linter.unusedSimpArgs false
namespace Go.Vw
open Go.RowKit (Below)
def okSV1:SV->Prop
 | .p _=>True
 | .own r _ _ _=>1000<=r
 | .ptr r _ _=>1000<=r
 | .nil=>True
 | .bool=>True
 | .any=>True
 | _=>False
def okSV:SV->Prop
 | .agg cs=>∀ c∈cs,okSV1 c
 | x=>okSV1 x
theorem RelS.over1 {w:World} {ok ok':Nat->Prop} {μ μ':Nat->Value} {h h':Nat->HC} (hok:∀ b,ok b->ok' b) (hh:∀ r,1000<=r->h' r=h r) (hμ:∀ r,1000<=r->μ' r=μ r)
 {x:SV} {val:Value} (hx:okSV1 x) (hs:RelS w ok μ h x val):RelS w ok' μ' h' x val:=by
 cases hs with
 | p v val hv=>exact .p v val (hv.mono hok λ_ _ _=>rfl)
 | any val=>exact .any val
 | bool x=>exact .bool x
 | nil=>exact .nil
 | own_stale r g off len val hg hone=>exact .own_stale r g off len val (by rw [hh r hx]; exact hg) hone
 | own r g off len val hg hs=>exact .own r g off len val (by rw [hh r hx]; exact hg) (by rw [hh r hx,hμ r hx]; exact hs)
 | ptr_stale r g j val hg=>exact .ptr_stale r g j val (by rw [hh r hx]; exact hg)
 | ptr r g j val hg hs=>exact .ptr r g j val (by rw [hh r hx]; exact hg) (by rw [hh r hx,hμ r hx]; exact hs)
 | _=>exact hx.elim
theorem RelS.over {w:World} {ok ok':Nat->Prop} {μ μ':Nat->Value} {h h':Nat->HC} (hok:∀ b,ok b->ok' b) (hh:∀ r,1000<=r->h' r=h r) (hμ:∀ r,1000<=r->μ' r=μ r)
 {x:SV} {val:Value} (hx:okSV x) (hs:RelS w ok μ h x val):RelS w ok' μ' h' x val:=by
 cases x with
 | agg cs=>
  cases hs with
  | agg _ vals hlen hone hrel=>exact .agg cs vals hlen hone λj hj=>(hrel j hj).over1 hok hh hμ (hx _ (List.getElem_mem hj))
 | _=>exact hs.over1 hok hh hμ hx
theorem cell_over {w:World} {ok ok':Nat->Prop} {μ μ':Nat->Value} {h h':Nat->HC} (hok:∀ b,ok b->ok' b) (hh:∀ r,1000<=r->h' r=h r) (hμ:∀ r,1000<=r->μ' r=μ r)
 {x:SV} {val:Value} (hone:val.oneCell'=true) (hx:∀ q∈svref x,1000<=q) (hs:RelS w ok μ h x val):RelS w ok' μ' h' x val:=by
 cases hs with
 | p v val hv=>exact .p v val (hv.mono hok λ_ _ _=>rfl)
 | any val=>exact .any val
 | bool x=>exact .bool x
 | raw=>exact .raw _
 | nil=>exact .nil
 | own_stale r g off len val hg hone=>exact .own_stale r g off len val (by rw [hh r (hx r (by simp [svref]))]; exact hg) hone
 | own r g off len val hg hs=>exact .own r g off len val (by rw [hh r (hx r (by simp [svref]))]; exact hg) (by rw [hh r (hx r (by simp [svref])),hμ r (hx r (by simp [svref]))]; exact hs)
 | ptr_stale r g j val hg=>exact .ptr_stale r g j val (by rw [hh r (hx r (by simp [svref]))]; exact hg)
 | ptr r g j val hg hs=>exact .ptr r g j val (by rw [hh r (hx r (by simp [svref]))]; exact hg) (by rw [hh r (hx r (by simp [svref])),hμ r (hx r (by simp [svref]))]; exact hs)
 | bnd_stale f r g val hg=>exact .bnd_stale f r g val (by rw [hh r (hx r (by simp [svref]))]; exact hg)
 | bnd f r g pv hg hs=>exact .bnd f r g pv (by rw [hh r (hx r (by simp [svref]))]; exact hg) (by rw [hh r (hx r (by simp [svref])),hμ r (hx r (by simp [svref]))]; exact hs)
 | tup vs vals hlen hrel=>simp [Value.oneCell'] at hone
 | agg cs vals hlen hone' hrel=>simp [Value.oneCell'] at hone
theorem RelObjX.over {w:World} {ok ok':Nat->Prop} {B B':Nat->Prop} {μ μ':Nat->Value} {h h':Nat->HC} (hok:∀ b,ok b->ok' b) (hh:∀ r,1000<=r->h' r=h r) (hμ:∀ r,1000<=r->μ' r=μ r)
 {base:Value} {o:HObj} (hB:∀ b,blk base=some b->B b->B' b) (hcl:∀ q∈o.refs,1000<=q) (hx:RelObjX w ok B μ h base o):RelObjX w ok' B' μ' h' base o:=by
 have hcells:∀ {xs:List SV} {flat:List Value},(∀ q∈xs.flatMap svref,1000<=q)->RelCells w ok μ h xs flat->RelCells w ok' μ' h' xs flat:=λhq hc=>
  ⟨hc.1,λj hj=>⟨cell_over hok hh hμ (hc.2 j hj).2 (λq hq'=>hq q (List.mem_flatMap.2 ⟨_,List.getElem_mem hj,hq'⟩)) (hc.2 j hj).1,(hc.2 j hj).2⟩⟩
 cases o with
 | box T cs=>exact (RelObj.keep (o:=.box T cs) hx hok (λ_ _ _=>rfl) (λ_ _=>rfl)).lower hB
 | arr T sz xs=>exact (RelObj.keep (o:=.arr T sz xs) hx hok (λ_ _ _=>rfl) (λ_ _=>rfl)).lower hB
 | sbox T cs=>
  obtain ⟨g,cells,rfl,h1,h2,h3⟩:=hx;exact ⟨g,cells,rfl,hB g rfl h1,h2,hcells hcl h3⟩
 | rows T xs=>
  obtain ⟨flat,h1,h2⟩:=hx;refine ⟨flat,⟨h1.1,?_⟩,hcells hcl h2⟩;rcases h1.2 with h3 | ⟨g,cap,cur,e1,e2,e3⟩
  . exact .inl h3
  . exact .inr ⟨g,cap,cur,e1,hB g (by rw [e1]; rfl) e2,e3⟩
def maskH (h:Nat->HC) (r:Nat):HC:=if 1000<=r then h r else ⟨0,none⟩
def joinH (h h1:Nat->HC) (r:Nat):HC:=if 1000<=r then h1 r else h r
def S0H (h:Nat->HC) (args:List SV):St:=⟨argSlotG args,maskH h⟩
def retOneH (S:St):SRes->Option (Prop × SV)
 | .tmp t=>some (okSV (S.σ t),S.σ t)
 | .cell t sz=>
  match S.σ t with
  | .ptr r g j=>
   match (S.h r).o with
   | some (.box _ cs)=>some (g=(S.h r).g/\partOk cs j sz,.p (V.part cs j sz))
   | some (.sbox _ cs)=>some (g=(S.h r).g/\partOkS cs j sz/\okSV (svPart cs j sz),svPart cs j sz)
   | _=>none
  | _=>none
def retAllH (S:St):List SRes->Option (Prop × List SV)
 | []=>some (True,[])
 | r::rs=>
  match retOneH S r,retAllH S rs with
  | some (c,x),some (d,xs)=>some (c/\d,x::xs)
  | _,_=>none
def retPH (rs:List SRes) (R:(Nat->HC)->List SV->Prop) (S:St):Prop:=
 match retAllH S rs with
 | some (c,svs)=>c/\R S.h svs
 | none=>False
def retQH (rs:List SRes) (R:(Nat->HC)->List SV->Prop):Exit->St->Prop
 | .normal,S=>retPH rs R S
 | .ret,S=>retPH rs R S
 | _,_=>False
section
variable {P:Program} {A:Nat->Prop} {w0:Base} {n:Nat} {S:St}
theorem ret_oneH {a:Act} {w:World} {μ:Nat->Value} (H:HeapOK A w w0 μ S.h) (rel:∀ t,RelS w (okOf A w μ S.h) μ S.h (S.σ t) (a.tmps.getD t undef))
 {x:ResultVar} {rest:List ResultVar} {r:SRes} {rs:List SRes} (hx:slimRes P (x::rest)=some (r::rs)) {c:Prop} {sv:SV} (hr:retOneH S r=some (c,sv)) (hc:c):
 slimRes P rest=some rs/\okSV sv/\∃ val,(resRun a.tmps x).run P w= .ok val w/\RelS w (okOf A w μ S.h) μ S.h sv val:=by
 cases x with
 | tmp t=>
  simp only [slimRes,Option.map_eq_some_iff,List.cons.injEq] at hx;obtain ⟨rs',hrs,rfl,rfl⟩:=hx;simp only [retOneH,Option.some.injEq,Prod.mk.injEq] at hr;obtain ⟨rfl,rfl⟩:=hr;exact ⟨hrs,hc,a.tmps.getD t undef,by simp [resRun],rel t⟩
 | cell t T=>
  simp only [slimRes] at hx;split at hx
  . rename_i sz rs' hsz hrs;simp only [Option.some.injEq,List.cons.injEq] at hx;obtain ⟨rfl,rfl⟩:=hx;refine ⟨hrs,?_⟩;simp only [retOneH] at hr;have ht:=rel t;split at hr
    . rename_i r g j hv;rw [hv] at ht;split at hr
      . rename_i T' cs hobj;simp only [Option.some.injEq,Prod.mk.injEq] at hr;obtain ⟨rfl,rfl⟩:=hr;obtain ⟨hg,hp⟩:=hc;obtain ⟨b,hb,hval⟩:=ptr_inv ht hg;obtain ⟨b',cells,hbase,hB,hheap,hflat⟩:=H.obj r _ hobj;rw [hbase] at hb;simp only [blk,Option.some.injEq] at hb; subst hb;obtain ⟨val,v1,v2,v3,v4⟩:=part_rel hflat hp;have hw:(S.h r).width=1:=by simp [HC.width,hobj,HObj.width]
        rw [hw,Nat.mul_one] at hval;have hl:=run_loadAt_rel (P:=P) hsz (w:=w) (g:=b') (off:=j) (shape_of v2 v3) (rangeAt_of_row hheap j _ v4);simp only [Instr.loadAt,Instr.sureAddr,Sem.run_bind,Sem.run_pure,Result.andThen_ok] at hl;exact ⟨trivial,val,by simp [resRun,hval,asAddr,hl],.p _ _ v1⟩
      . rename_i T' cs hobj;simp only [Option.some.injEq,Prod.mk.injEq] at hr;obtain ⟨rfl,rfl⟩:=hr;obtain ⟨hg,hp,hok⟩:=hc;obtain ⟨b,hb,hval⟩:=ptr_inv ht hg;obtain ⟨b',cells,hbase,hB,hheap,hflat⟩:=H.obj r _ hobj;rw [hbase] at hb;simp only [blk,Option.some.injEq] at hb; subst hb;obtain ⟨val,v1,v2,v4⟩:=part_relX hflat hp;have hw:(S.h r).width=1:=by simp [HC.width,hobj,HObj.width]
        rw [hw,Nat.mul_one] at hval;have hl:=run_loadAt_rel (P:=P) hsz (w:=w) (g:=b') (off:=j) v2 (rangeAt_of_row hheap j _ v4);simp only [Instr.loadAt,Instr.sureAddr,Sem.run_bind,Sem.run_pure,Result.andThen_ok] at hl;exact ⟨hok,val,by simp [resRun,hval,asAddr,hl],v1⟩
      . cases hr
    . cases hr
  . cases hx
theorem ret_allH {a:Act} {w:World} {μ:Nat->Value} (H:HeapOK A w w0 μ S.h) (rel:∀ t,RelS w (okOf A w μ S.h) μ S.h (S.σ t) (a.tmps.getD t undef)):
 ∀ (vars:List ResultVar) (rs:List SRes) (c:Prop) (svs:List SV),slimRes P vars=some rs->retAllH S rs=some (c,svs)->c->
  ∃ vals:List Value,vals.length=svs.length/\(vars.mapM (m:=Sem) (resRun a.tmps)).run P w= .ok vals w/\
   ∀ j (hj:j<svs.length),okSV (svs[j])/\RelS w (okOf A w μ S.h) μ S.h (svs[j]) (vals.getD j undef)
 | [],rs,c,svs,h1,h2,hc=>by
  simp only [slimRes,Option.some.injEq] at h1; subst h1;simp only [retAllH,Option.some.injEq,Prod.mk.injEq] at h2;obtain ⟨rfl,rfl⟩:=h2;exact ⟨[],rfl,rfl,λj hj=>by simp at hj⟩
 | x::rest,rs,c,svs,h1,h2,hc=>by
  cases rs with
  | nil=>
   exfalso;cases x<;>simp only [slimRes,Option.map_eq_some_iff,reduceCtorEq,and_false,exists_false] at h1;split at h1<;>cases h1
  | cons r rs=>
   simp only [retAllH] at h2;split at h2
   . rename_i c1 sv c2 svs2 hr hrs;simp only [Option.some.injEq,Prod.mk.injEq] at h2;obtain ⟨rfl,rfl⟩:=h2;obtain ⟨e1,e2,val,e3,e4⟩:=ret_oneH H rel h1 hr hc.1;obtain ⟨vals,f1,f2,f3⟩:=ret_allH H rel rest rs c2 svs2 e1 hrs hc.2;refine ⟨val::vals,by simp [f1],?_,λj hj=>?_⟩
     . rw [List.mapM_cons];simp [e3,f2]
     . cases j with
       | zero=>exact ⟨e2,by simpa [List.getD] using e4⟩
       | succ j=>
        have:=f3 j (by simpa using hj)
        simpa [List.getD] using this
   . cases h2
theorem specH_of {f:FuncId} {fn:Func} {c:Code} {sc:SC} {rs:List SRes} {h:Nat->HC} {args:List SV} {R:(Nat->HC)->List SV->Prop} (hf:P.funcs[f]? =some fn) (hb:fn.body=some c) (hn:fn.ntmps=n)
 (hsl : slimCode P n c = some sc) (hname : (fn.name == "runtime.NumGoroutine") = false) (hrs : slimRes P fn.results.toList = some rs) (hargs : args.length ≤ n) (hoa : ∀ x ∈ args, okSV x)
 (hWS:WS P n sc (retQH rs λh1 svs=>R (joinH h h1) svs) (S0H h args)):SpecH P f h args R:=by
 intro A w0 w μ vals H hA hsz hl hrel;refine .inl ⟨enters_run hf (by rw [hb]; rfl) hname vals w,?_⟩;refine calls_of_wp hf hb ?_
 let A':Nat->Prop:=λb=>(A b/\∀ r,r<1000->(h r).o≠none->blk (μ r)≠some b)\/w.heap.size<=b
 let b0:Base:=⟨w,λb=>∃ r,1000<=r/\(h r).o≠none/\blk (μ r)=some b,λr=>if 1000<=r then some ((h r).g,(h r).width,μ r) else none⟩
 have hm:∀ r,1000<=r->maskH h r=h r:=λr hr=>by simp [maskH,hr]
 have hml:∀ r,(maskH h r).o≠none->1000<=r:=λr hr=>by
  by_cases e:1000<=r
  . exact e
  . simp [maskH,e] at hr
 have hlt:∀ r b,(h r).o≠none->blk (μ r)=some b->w0.B b/\b<w.heap.size:=λr b hl hb=>by
  obtain ⟨ob,hob⟩:=Option.ne_none_iff_exists'.1 hl;exact (H.obj r ob hob).lt hb
 have hok1:∀ b,okOf A w μ h b->okOf A' w μ (maskH h) b:=λb hb=>⟨.inl ⟨hb.1,λr _ hl=>hb.2.2 r hl⟩,hb.2.1,λr hl=>hb.2.2 r (by rw [hm r (hml r hl)] at hl; exact hl)⟩;have hB0:∀ b,b0.B b->w0.B b:=by
  rintro b (hb | ⟨r,h1,h2,h3⟩)
  . exact .inl (Nat.le_trans hsz hb)
  . exact (hlt r b h2 h3).1
 have hBn:∀ r b,r<1000->(h r).o≠none->blk (μ r)=some b->¬ b0.B b:=by
  rintro r b hr hl hb (h1 | ⟨r',h1,h2,h3⟩)
  . have:=(hlt r b hl hb).2; exact absurd h1 (Nat.not_le_of_lt this)
  . have:=H.inj r r' b hl h2 hb h3; omega
 have hR:RelSt A' b0 n (S0H h args) { tmps:=vals++Array.replicate (fn.ntmps-vals.size) undef,defers:=[] } w:=by
  refine ⟨⟨μ,⟨λr o ho=>?_,λr r' b hr hr'=>?_,λr g wd v hv=>?_,λr o ho h1=>?_⟩,λt=>?_⟩,⟨rfl,rfl,rfl,Nat.le_refl _,λ_ _=>rfl⟩,by simp [hn,hl]; omega,rfl,λb hb=>?_⟩
  . have hr:1000<=r:=hml r (by show (maskH h r).o≠none; rw [show (maskH h r).o=some o from ho]; simp);have ho':(h r).o=some o:=by rw [<- hm r hr]; exact ho
    exact (H.obj r o ho').over hok1 hm (λ_ _=>rfl) (λb hb _=>.inr ⟨r,hr,by rw [ho']; simp,hb⟩) (H.clo r o ho' hr)
  . have h1:=hml r hr;have h2:=hml r' hr';exact H.inj r r' b (by rw [<- hm r h1]; exact hr) (by rw [<- hm r' h2]; exact hr')
  . simp only [b0] at hv;split at hv
    . rename_i e;simp only [Option.some.injEq,Prod.mk.injEq] at hv;obtain ⟨rfl,rfl,rfl⟩:=hv;exact .inr ⟨by show (maskH h r).g=_; rw [hm r e],by show (maskH h r).width=_; rw [hm r e],rfl⟩
    . cases hv
  . exact H.clo r o (by rw [<- hm r h1]; exact ho) h1
  . simp only [S0H,argSlotG];by_cases hlt:t<args.length
    . have h1:=hrel t hlt;have hs:t<vals.size:=by rw [hl]; exact hlt
      rw [List.getElem?_eq_getElem hlt];have:=h1.over hok1 hm (λ_ _=>rfl) (hoa _ (List.getElem_mem hlt))
      simpa [Array.getD_eq_getD_getElem?,Array.getElem?_append,hs] using this
    . rw [List.getElem?_eq_none (Nat.le_of_not_lt hlt)];have hs:¬ t<vals.size:=by rw [hl]; exact hlt
      have:(vals++Array.replicate (fn.ntmps-vals.size) undef).getD t undef=undef:=by
       rw [Array.getD_eq_getD_getElem?,Array.getElem?_append,if_neg hs,Array.getElem?_replicate];split<;>rfl
      rw [this];exact .tup _ _ rfl (by simp)
  . rcases hb with hb | ⟨r,h1,h2,h3⟩
    . exact .inr hb
    . refine .inl ⟨hA b (hlt r b h2 h3).1,λr' hr' hl' hb'=>?_⟩;have:=H.inj r' r b hl' h2 hb' h3; omega
 refine wp_mono (hWS c hsl A' b0 _ w hR) ?_;rintro e a' w' ⟨S',q,r⟩;have fin:retPH rs (λh1 svs=>R (joinH h h1) svs) S'->a'.defers=[]/\∃ v,(results fn a'.tmps).run P w'= .ok v w'/\∃ h' svs vs μ',R h' svs/\Ending.returned v= .returned (packed vs)/\HeapOK A w' w0 μ' h'/\Keeps A w μ h w' μ' h'/\BelowH w0.B w w'/\vs.length=svs.length/\
  ∀ j (hj:j<svs.length),RelS w' (okOf A w' μ' h') μ' h' (svs[j]) (vs.getD j undef):=by
  intro hq;obtain ⟨μ1,H1,rel1⟩:=r.ex;refine ⟨r.defers,?_⟩;unfold retPH at hq;cases hall:retAllH S' rs with
  | none=>rw [hall] at hq; exact hq.elim
  | some cs=>
   obtain ⟨c',svs⟩:=cs;rw [hall] at hq;obtain ⟨hc',hR'⟩:=hq;obtain ⟨vs,f1,f2,f3⟩:=ret_allH (P:=P) H1 rel1 fn.results.toList rs c' svs hrs hall hc'
   let μ':Nat->Value:=λr=>if 1000<=r then μ1 r else μ r
   have hj:∀ r,1000<=r->joinH h S'.h r=S'.h r:=λr hr=>by simp [joinH,hr]
   have hjn:∀ r,r<1000->joinH h S'.h r=h r:=λr hr=>by simp [joinH,Nat.not_le_of_lt hr]
   have hμ:∀ r,1000<=r->μ' r=μ1 r:=λr hr=>by simp [μ',hr]
   have hμn:∀ r,r<1000->μ' r=μ r:=λr hr=>by simp [μ',Nat.not_le_of_lt hr]
   have hsize:w.heap.size<=w'.heap.size:=r.below.size;have hnB:∀ b,okOf A w μ h b->¬ b0.B b:=by
    rintro b hb (h1 | ⟨r',h1,h2,h3⟩)
    . have:=hb.2.1; exact absurd h1 (Nat.not_le_of_lt this)
    . exact hb.2.2 r' h2 h3
   have hokb:∀ b,okOf A' w' μ1 S'.h b->okOf A w' μ' (joinH h S'.h) b:=by
    rintro b ⟨h1,h2,h3⟩;refine ⟨?_,h2,λr' hl' hb'=>?_⟩
    . rcases h1 with h1 | h1
      . exact h1.1
      . exact hA b (.inl (Nat.le_trans hsz h1))
    . by_cases e:1000<=r'
      . rw [hj r' e] at hl'; rw [hμ r' e] at hb'; exact h3 r' hl' hb'
      . have e':r'<1000:=by omega
        rw [hjn r' e'] at hl'; rw [hμn r' e'] at hb';rcases h1 with h1 | h1
        . exact h1.2 r' e' hl' hb'
        . have:=(hlt r' b hl' hb').2; exact absurd h1 (Nat.not_le_of_lt this)
   have hokf:∀ b,okOf A w μ h b->okOf A w' μ' (joinH h S'.h) b:=by
    intro b hb;refine ⟨hb.1,Nat.lt_of_lt_of_le hb.2.1 hsize,λr' hl' hb'=>?_⟩;by_cases e:1000<=r'
    . rw [hj r' e] at hl'; rw [hμ r' e] at hb';obtain ⟨ob,hob⟩:=Option.ne_none_iff_exists'.1 hl';exact hnB b hb ((H1.obj r' ob hob).lt hb').1
    . have e':r'<1000:=by omega
      rw [hjn r' e'] at hl'; rw [hμn r' e'] at hb';exact hb.2.2 r' hl' hb'
   have K:Keeps A w μ h w' μ' (joinH h S'.h):=by
    refine ⟨hokf,λb o hb=>cell?_of_heap (r.below.block b (hnB b hb)) o,λr'=>?_⟩;by_cases e:1000<=r'
    . rw [hj r' e,hμ r' e];exact H1.giv r' (h r').g (h r').width (μ r') (by simp [b0,e])
    . have e':r'<1000:=by omega
      rw [hjn r' e',hμn r' e']; exact .inr ⟨rfl,rfl,rfl⟩
   have H':HeapOK A w' w0 μ' (joinH h S'.h):=by
    refine ⟨λr' o ho=>?_,λr1 r2 b h1 h2 b1 b2=>?_,λr' g wd v hv=>?_,λr' o ho e=>?_⟩
    . by_cases e:1000<=r'
      . rw [hj r' e] at ho;rw [hμ r' e];exact (H1.obj r' o ho).over hokb hj hμ (λb _ hb=>hB0 b hb) (H1.clo r' o ho e)
      . have e':r'<1000:=by omega
        rw [hjn r' e'] at ho;rw [hμn r' e'];exact (H.obj r' o ho).keep K λb hb=>r.below.block b (hBn r' b e' (by rw [ho]; simp) hb)
    . by_cases e1:1000<=r1<;>by_cases e2:1000<=r2
      . rw [hj r1 e1] at h1; rw [hj r2 e2] at h2; rw [hμ r1 e1] at b1; rw [hμ r2 e2] at b2;exact H1.inj r1 r2 b h1 h2 b1 b2
      . have e2':r2<1000:=by omega
        rw [hj r1 e1] at h1; rw [hjn r2 e2'] at h2; rw [hμ r1 e1] at b1; rw [hμn r2 e2'] at b2;obtain ⟨ob,hob⟩:=Option.ne_none_iff_exists'.1 h1;exact absurd ((H1.obj r1 ob hob).lt b1).1 (hBn r2 b e2' h2 b2)
      . have e1':r1<1000:=by omega
        rw [hjn r1 e1'] at h1; rw [hj r2 e2] at h2; rw [hμn r1 e1'] at b1; rw [hμ r2 e2] at b2;obtain ⟨ob,hob⟩:=Option.ne_none_iff_exists'.1 h2;exact absurd ((H1.obj r2 ob hob).lt b2).1 (hBn r1 b e1' h1 b1)
      . have e1':r1<1000:=by omega
        have e2':r2<1000:=by omega
        rw [hjn r1 e1'] at h1; rw [hjn r2 e2'] at h2; rw [hμn r1 e1'] at b1; rw [hμn r2 e2'] at b2;exact H.inj r1 r2 b h1 h2 b1 b2
    . by_cases e:1000<=r'
      . rw [hj r' e,hμ r' e];have k2:=H1.giv r' (h r').g (h r').width (μ r') (by simp [b0,e]);rcases H.giv r' g wd v hv with k1 | ⟨k1,k3,k4⟩<;>rcases k2 with k2 | ⟨k2,k5,k6⟩
        . exact .inl (by omega)
        . exact .inl (by omega)
        . exact .inl (by omega)
        . exact .inr ⟨by omega,by rw [k5]; exact k3,by rw [k6]; exact k4⟩
      . have e':r'<1000:=by omega
        rw [hjn r' e',hμn r' e']; exact H.giv r' g wd v hv
    . rw [hj r' e] at ho;exact H1.clo r' o ho e
   refine ⟨packed vs,results_run fn a'.tmps f2,joinH h S'.h,svs,vs,μ',hR',rfl,H',K,⟨r.below.os,r.below.tape,r.below.output,hsize,λk hk=>r.below.block k λe=>hk (hB0 k e)⟩,f1,λj hj'=>?_⟩;obtain ⟨g1,g2⟩:=f3 j hj';exact g2.over hokb hj hμ g1
 cases e with
 | normal=>exact fin q
 | ret=>exact fin q
 | _=>exact q.elim
theorem specH_at {f:FuncId} {fn:Func} {sc:SC} {rs:List SRes} (hf:P.funcs[f]? =some fn) (hs:slimF P fn=some (n,sc,rs)) {h:Nat->HC} {args:List SV} {R:(Nat->HC)->List SV->Prop} (hargs:args.length<=n)
 (hoa:∀ x∈args,okSV x) (hWS:WS P n sc (retQH rs λh1 svs=>R (joinH h h1) svs) (S0H h args)):SpecH P f h args R:=by
 unfold slimF at hs;split at hs
 . rename_i c hb;split at hs
   . cases hs
   . rename_i hname;split at hs
     . rename_i sc' rs' h1 h2;simp only [Option.some.injEq,Prod.mk.injEq] at hs;obtain ⟨rfl,rfl,rfl⟩:=hs;exact specH_of hf hb rfl h1 (by simpa using hname) h2 hargs hoa hWS
     . cases hs
 . cases hs
def retPF (rs:List SRes) (fp:List Nat) (R:List (Nat × HC)->List SV->Prop) (h2:Nat->HC) (S:St):Prop:=
 match retAllH S rs with
 | some (c,svs)=>c/\(∀ r,1000<=r->r ∉ fp->S.h r=h2 r)/\R (fp.map λr=>(r,S.h r)) svs
 | none=>False
def retQF (rs:List SRes) (fp:List Nat) (R:List (Nat × HC)->List SV->Prop) (h2:Nat->HC):Exit->St->Prop
 | .normal,S=>retPF rs fp R h2 S
 | .ret,S=>retPF rs fp R h2 S
 | _,_=>False
theorem patch_mem {h g:Nat->HC}:∀ {fp:List Nat} {r:Nat},r∈fp->patch h (fp.map λr=>(r,g r)) r=g r:=by
 intro fp;induction fp generalizing h with
 | nil=>intro r hr; cases hr
 | cons x rest ih=>
  intro r hr;simp only [List.map_cons,patch,List.foldl_cons];by_cases hm:r∈rest
  . have:=ih (h:=upd h x (g x)) hm
    simpa only [patch] using this
  . have hx:r=x:=by
     rcases List.mem_cons.1 hr with h1 | h1
     . exact h1
     . exact absurd h1 hm
    have:=patch_ne (h:=upd h x (g x)) (δ:=rest.map λr=>(r,g r)) (r:=r) (λy hy e=>by
     obtain ⟨z,hz,rfl⟩:=List.mem_map.1 hy;exact hm (e ▸ hz))
    simp only [patch] at this;rw [this,hx,upd_same]
theorem frH_at {f:FuncId} {fn:Func} {sc:SC} {rs:List SRes} (hf:P.funcs[f]? =some fn) (hs:slimF P fn=some (n,sc,rs)) {h:Nat->HC} {fp:List Nat} {args:List SV} {R:List (Nat × HC)->List SV->Prop} (hargs:args.length<=n)
 (hoa:∀ x∈args,okSV x) (hfp:∀ r∈fp,1000<=r) (hWS:∀ h2,(∀ r∈fp,h2 r=h r)->WS P n sc (retQF rs fp R h2) (S0H h2 args)):FrH P f h fp args R:=by
 intro h2 hh;refine specH_at hf hs hargs hoa ((hWS h2 hh).mono λe S hq=>?_);have key:retPF rs fp R h2 S->retPH rs (λh1 svs=>∃ δ,R δ svs/\(∀ x∈δ,x.1∈fp)/\joinH h2 h1=patch h2 δ) S:=by
  intro hq;unfold retPF at hq;unfold retPH;split at hq
  . rename_i c svs hall;obtain ⟨hc,hfr,hR⟩:=hq;refine ⟨hc,_,hR,λx hx=>?_,?_⟩
    . obtain ⟨r,hr,rfl⟩:=List.mem_map.1 hx; exact hr
    . funext r;by_cases hm:r∈fp
      . rw [patch_mem hm];simp [joinH,hfp r hm]
      . rw [patch_ne (λx hx e=>by
         obtain ⟨r',hr',rfl⟩:=List.mem_map.1 hx;exact hm (e ▸ hr'))]
        by_cases h1:1000<=r
        . simp only [joinH,h1,if_true]; exact hfr r h1 hm
        . simp [joinH,h1]
  . exact hq
 cases e with
 | normal=>exact key hq
 | ret=>exact key hq
 | _=>exact hq
def ren0 (r g r' g':Nat):SV->SV
 | .own q k off len=>if q=r/\k=g then .own r' g' off len else .own q k off len
 | .ptr q k j=>if q=r/\k=g then .ptr r' g' j else .ptr q k j
 | x=>x
def ren1 (r g r' g':Nat):SV->SV
 | .agg cs=>.agg (cs.map (ren0 r g r' g'))
 | x=>ren0 r g r' g' x
def ren2 (r g r' g':Nat):SV->SV
 | .tup vs=>.tup (vs.map (ren1 r g r' g'))
 | x=>ren1 r g r' g' x
def HObj.ren (r g r' g':Nat):HObj->HObj
 | .rows T xs=>.rows T (xs.map (ren0 r g r' g'))
 | .sbox T cs=>.sbox T (cs.map (ren0 r g r' g'))
 | o=>o
def St.move (S:St) (r r':Nat):St:=
 ⟨λt=>ren2 r (S.h r).g r' ((S.h r').g+1) (S.σ t),
  λq=>if q=r' then ⟨(S.h r').g+1,(S.h r).o⟩ else if q=r then ⟨(S.h r).g+1,none⟩ else if q<1000 then ⟨(S.h q).g,(S.h q).o.map (HObj.ren r (S.h r).g r' ((S.h r').g+1))⟩ else S.h q⟩
theorem ren_width (r g r' g':Nat) (o:HObj):(o.ren r g r' g').width=o.width:=by cases o<;>rfl
theorem WS_move {sc:SC} {Q:Exit->St->Prop} (r r':Nat) {o0:HObj} (hlive:(S.h r).o=some o0) (hfree:(S.h r').o=none) (hr:r<1000) (hr':1000<=r') (hclo:∀ q∈o0.refs,1000<=q)
 (h:WS P n sc Q (S.move r r')):WS P n sc Q S:=by
 refine h.weaken λA w0 a w hR=>?_;obtain ⟨μ,H,rel⟩:=hR.ex;have hne:r≠r':=by omega
 let h':=(S.move r r').h
 let μ':Nat->Value:=upd μ r' (μ r)
 have e1:h' r'=⟨(S.h r').g+1,some o0⟩:=by simp [h',St.move,hlive]
 have e2:h' r=⟨(S.h r).g+1,none⟩:=by simp [h',St.move,hne]
 have e3:∀ q,q≠r->q≠r'->h' q=if q<1000 then ⟨(S.h q).g,(S.h q).o.map (HObj.ren r (S.h r).g r' ((S.h r').g+1))⟩ else S.h q:=λq h1 h2=>by simp [h',St.move,h1,h2]
 have hw:∀ q,q≠r->q≠r'->(h' q).g=(S.h q).g/\(h' q).width=(S.h q).width/\((h' q).o≠none->(S.h q).o≠none):=by
  intro q h1 h2;rw [e3 q h1 h2];split
  . refine ⟨rfl,?_,λhh hn=>hh (by simp [hn])⟩;cases ho:(S.h q).o with
    | none=>simp [HC.width,ho]
    | some o=>simp [HC.width,ho,ren_width]
  . exact ⟨rfl,rfl,λhh=>hh⟩
 have hback:∀ q,(h' q).o≠none->(S.h (if q=r' then r else q)).o≠none/\μ' q=μ (if q=r' then r else q)/\q≠r:=by
  intro q hq;by_cases h2:q=r'
  . subst h2;rw [if_pos rfl];exact ⟨by rw [hlive]; simp,by simp [μ'],λe=>hne e.symm⟩
  . rw [if_neg h2];by_cases h1:q=r
    . subst h1; rw [e2] at hq; exact absurd rfl hq
    . exact ⟨(hw q h1 h2).2.2 hq,by simp [μ',upd_ne _ _ h2],h1⟩
 have hok:∀ b,okOf A w μ S.h b->okOf A w μ' h' b:=λb hb=>⟨hb.1,hb.2.1,λq hq hbl=>by
  obtain ⟨k1,k2,_⟩:=hback q hq;rw [k2] at hbl;exact hb.2.2 _ k1 hbl⟩
 have K:Keeps A w μ S.h w μ' h':=by
  refine ⟨hok,λ_ _ _=>rfl,λq=>?_⟩;by_cases h2:q=r'
  . subst h2; rw [e1]; exact .inl (by simp)
  . by_cases h1:q=r
    . subst h1; rw [e2]; exact .inl (by simp)
    . obtain ⟨k1,k2,_⟩:=hw q h1 h2;exact .inr ⟨k1,k2,by simp [μ',upd_ne _ _ h2]⟩
 have hwid:(h' r').width=(S.h r).width:=by rw [e1]; simp [HC.width,hlive]
 have r0:∀ {x:SV} {val:Value},RelS w (okOf A w μ S.h) μ S.h x val->RelS w (okOf A w μ' h') μ' h' (ren0 r (S.h r).g r' ((S.h r').g+1) x) val:=by
  intro x val hs;cases x with
  | own q k off len=>
   simp only [ren0];split
   . rename_i hc;obtain ⟨rfl,rfl⟩:=hc;have h1:=own_inv hs rfl;refine .own _ _ _ _ _ (by rw [e1]) ?_;rw [hwid]; simpa [μ'] using h1
   . exact hs.keep K
  | ptr q k j=>
   simp only [ren0];split
   . rename_i hc;obtain ⟨rfl,rfl⟩:=hc;have h1:=ptr_inv hs rfl;refine .ptr _ _ _ _ (by rw [e1]) ?_;rw [hwid]; simpa [μ'] using h1
   . exact hs.keep K
  | _=>exact hs.keep K
 have r1:∀ {x:SV} {val:Value},RelS w (okOf A w μ S.h) μ S.h x val->RelS w (okOf A w μ' h') μ' h' (ren1 r (S.h r).g r' ((S.h r').g+1) x) val:=by
  intro x val hs;cases x with
  | agg cs=>
   cases hs with
   | agg _ vals hlen hone hrel=>exact .agg _ vals (by simpa using hlen) hone λj hj=>by simpa using r0 (hrel j (by simpa using hj))
  | _=>exact r0 hs
 have r2:∀ {x:SV} {val:Value},RelS w (okOf A w μ S.h) μ S.h x val->RelS w (okOf A w μ' h') μ' h' (ren2 r (S.h r).g r' ((S.h r').g+1) x) val:=by
  intro x val hs;cases x with
  | tup vs=>
   cases hs with
   | tup _ vals hlen hrel=>exact .tup _ vals (by simpa using hlen) λj hj=>by simpa using r1 (hrel j (by simpa using hj))
  | _=>exact r1 hs
 have hcells:∀ {xs:List SV} {flat:List Value},RelCells w (okOf A w μ S.h) μ S.h xs flat->RelCells w (okOf A w μ' h') μ' h' (xs.map (ren0 r (S.h r).g r' ((S.h r').g+1))) flat:=λhc=>
  ⟨by simpa using hc.1,λj hj=>⟨by simpa using r0 (hc.2 j (by simpa using hj)).1,(hc.2 j (by simpa using hj)).2⟩⟩
 refine ⟨⟨μ',⟨λq o ho=>?_,λq1 q2 b h1 h2 b1 b2=>?_,λq g wd v hv=>?_,λq o ho hq=>?_⟩,λt=>r2 (rel t)⟩,hR.below,hR.size,hR.defers,hR.new⟩
 . by_cases h2:q=r'
   . subst h2;rw [show (S.move r q).h q=h' q from rfl,e1] at ho;simp only [Option.some.injEq] at ho; subst ho;have:=(H.obj r _ hlive).keep K (λ_ _=>rfl)
     simpa [μ'] using this
   . have h1:q≠r:=λe=>by subst e; rw [show (S.move q r').h q=h' q from rfl,e2] at ho; cases ho
     rw [show (S.move r r').h q=h' q from rfl,e3 q h1 h2] at ho;have hμq:μ' q=μ q:=by simp [μ',upd_ne _ _ h2]
     rw [hμq];split at ho
     . cases hoq:(S.h q).o with
       | none=>rw [hoq] at ho; cases ho
       | some oq=>
        rw [hoq] at ho;simp only [Option.map_some,Option.some.injEq] at ho; subst ho;have hx:=H.obj q oq hoq;cases oq with
        | box T cs=>exact hx.keep K (λ_ _=>rfl)
        | arr T sz xs=>exact hx.keep K (λ_ _=>rfl)
        | sbox T cs=>
         obtain ⟨g,cells,k1,k2,k3,k4⟩:=hx;exact ⟨g,cells,k1,k2,k3,hcells k4⟩
        | rows T xs=>
         obtain ⟨flat,k1,k2⟩:=hx;exact ⟨flat,by simpa using k1,hcells k2⟩
     . exact (H.obj q o ho).keep K (λ_ _=>rfl)
 . obtain ⟨k1,k2,k3⟩:=hback q1 h1;obtain ⟨l1,l2,l3⟩:=hback q2 h2;rw [k2] at b1;rw [l2] at b2;have:=H.inj _ _ b k1 l1 b1 b2;by_cases c1:q1=r'<;>by_cases c2:q2=r'
   . rw [c1,c2]
   . rw [if_pos c1,if_neg c2] at this; exact absurd this.symm l3
   . rw [if_neg c1,if_pos c2] at this; exact absurd this k3
   . rw [if_neg c1,if_neg c2] at this; exact this
 . show g<(h' q).g\/((h' q).g=g/\(h' q).width=wd/\μ' q=v);by_cases h2:q=r'
   . subst h2;rw [e1];rcases H.giv q g wd v hv with k | ⟨k,_⟩
     . exact .inl (by simp only; omega)
     . exact .inl (by simp only; omega)
   . by_cases h1:q=r
     . subst h1;rw [e2];rcases H.giv q g wd v hv with k | ⟨k,_⟩
       . exact .inl (by simp only; omega)
       . exact .inl (by simp only; omega)
     . obtain ⟨k1,k2,_⟩:=hw q h1 h2;rw [k1,k2,show μ' q=μ q by simp [μ',upd_ne _ _ h2]];exact H.giv q g wd v hv
 . by_cases h2:q=r'
   . subst h2;rw [show (S.move r q).h q=h' q from rfl,e1] at ho;simp only [Option.some.injEq] at ho; subst ho;exact hclo
   . have h1:q≠r:=by omega
     rw [show (S.move r r').h q=h' q from rfl,e3 q h1 h2,if_neg (by omega)] at ho;exact H.clo q o ho hq
theorem WS_nil {sc:SC} {Q:Exit->St->Prop} (r j q:Nat) (T:TypeId) (sz:Option Nat) {T':TypeId} {cs:List SV} (hbox:(S.h r).o=some (.sbox T' cs)) (hj:cs[j]? =some .nil) (hfree:(S.h q).o=none)
 (hcl:1000<=r->1000<=q)
 (h:WS P n sc Q ⟨S.σ,upd (upd S.h q ⟨(S.h q).g+1,some (.arr T sz [])⟩) r ⟨(S.h r).g,some (.sbox T' (cs.set j (.own q ((S.h q).g+1) 0 0)))⟩⟩):WS P n sc Q S:=by
 refine h.weaken λA w0 a w hR=>?_;obtain ⟨μ,H,rel⟩:=hR.ex;have hrq:r≠q:=λe=>by rw [e,hfree] at hbox; cases hbox
 obtain ⟨H1,K1⟩:=H.change (w':=w) q ⟨(S.h q).g+1,some (.arr T sz [])⟩ (.slice none 0 0) (Nat.le_refl _) (λ_ _ _=>rfl) (λb _ hb=>by simp [blk] at hb)
  (λo ho _ _=>by
   simp only [Option.some.injEq] at ho; subst ho;exact ⟨[],⟨by simp,.inl ⟨rfl,rfl⟩⟩,RelFlat.nil sz⟩) (.inl (by simp))
 have hbox1:(upd S.h q ⟨(S.h q).g+1,some (.arr T sz [])⟩ r)=S.h r:=upd_ne _ _ hrq;have hμ1:(upd μ q (.slice none 0 0)) r=μ r:=upd_ne _ _ hrq;obtain ⟨H2,K2⟩:=H1.changeX (w':=w) r ⟨(S.h r).g,some (.sbox T' (cs.set j (.own q ((S.h q).g+1) 0 0)))⟩ (μ r) (Nat.le_refl _) (λ_ _ _=>rfl)
  (λb _ hb=>.inl ⟨by rw [hbox1,hbox]; simp,by rw [hμ1]; exact hb⟩)
  (λo ho K=>by
   simp only [Option.some.injEq] at ho; subst ho;have hx:=H1.obj r (.sbox T' cs) (by rw [hbox1]; exact hbox);rw [hμ1] at hx;obtain ⟨g,cells,k1,k2,k3,k4⟩:=hx;refine ⟨g,cells,k1,k2,k3,by rw [List.length_set]; exact k4.1,λi hi=>?_⟩;have hi':i<cs.length:=by simpa using hi
   have k5:=k4.2 i hi';rw [List.getElem_set];split
   . rename_i e;subst e;have hcj:cs[j]= .nil:=by rw [List.getElem?_eq_getElem hi'] at hj; exact Option.some.inj hj
     rw [hcj] at k5;refine ⟨?_,k5.2⟩;have hv:cells.toList.getD j undef= .slice none 0 0:=by
      have:=k5.1;generalize cells.toList.getD j undef=v at this;cases this; rfl
     rw [hv];refine .own _ _ _ _ _ (by rw [upd_ne _ _ (Ne.symm hrq)]; simp) ?_;rw [upd_ne _ _ (Ne.symm hrq),upd_same];exact ⟨rfl,rfl,rfl⟩
   . exact ⟨k5.1.keep K,k5.2⟩)
  (.inr ⟨by rw [hbox1],by rw [hbox1]; simp [HC.width,hbox,HObj.width],by rw [hμ1]⟩)
  (λo ho K h1 q' hq'=>by
   simp only [Option.some.injEq] at ho; subst ho;simp only [HObj.refs,List.mem_flatMap] at hq';obtain ⟨x,hx,hq'⟩:=hq';rcases List.mem_or_eq_of_mem_set hx with h2 | h2
   . exact H.clo r _ hbox h1 q' (List.mem_flatMap.2 ⟨x,h2,hq'⟩)
   . subst h2;simp only [svref,List.mem_singleton] at hq';rw [hq']; exact hcl h1)
 exact ⟨⟨_,H2,λt=>((rel t).keep K1).keep K2⟩,hR.below,hR.size,hR.defers,hR.new⟩
theorem WS_rows {sc:SC} {Q:Exit->St->Prop} (r:Nat) {T:TypeId} {xs:List V} (hobj:(S.h r).o=some (.arr T none xs))
 (h:WS P n sc Q ⟨S.σ,upd S.h r ⟨(S.h r).g,some (.rows T (xs.map .p))⟩⟩):WS P n sc Q S:=by
 refine h.weaken λA w0 a w hR=>?_;obtain ⟨μ,H,rel⟩:=hR.ex;obtain ⟨H1,K1⟩:=H.changeX (w':=w) r ⟨(S.h r).g,some (.rows T (xs.map .p))⟩ (μ r) (Nat.le_refl _) (λ_ _ _=>rfl) (λb _ hb=>.inl ⟨by rw [hobj]; simp,hb⟩)
  (λo ho K=>by
   simp only [Option.some.injEq] at ho; subst ho;obtain ⟨flat,f1,f2⟩:=H.obj r _ hobj;exact ⟨flat,by simpa [width_none] using f1,(RelCells.of_flat f2).keep K⟩)
  (.inr ⟨rfl,by simp [HC.width,hobj,HObj.width,width],rfl⟩)
  (λo ho _ _ q hq=>by
   simp only [Option.some.injEq] at ho; subst ho;simp only [HObj.refs,List.mem_flatMap,List.mem_map] at hq;obtain ⟨x,⟨v,_,rfl⟩,hq⟩:=hq;simp [svref] at hq)
 have hμ:upd μ r (μ r)=μ:=by funext t; simp only [upd]; split<;>simp_all
 exact ⟨⟨_,H1,λt=>(rel t).keep K1⟩,hR.below,hR.size,hR.defers,hR.new⟩
def dropH (D:Nat->Bool) (h:Nat->HC) (q:Nat):HC:=if D q then ⟨(h q).g+1,none⟩ else h q
theorem WS_drop {sc:SC} {Q:Exit->St->Prop} (D:Nat->Bool) (h:WS P n sc Q ⟨S.σ,dropH D S.h⟩):WS P n sc Q S:=by
 refine h.weaken λA w0 a w hR=>?_;obtain ⟨μ,H,rel⟩:=hR.ex;have hl:∀ q,(dropH D S.h q).o≠none->D q=false/\dropH D S.h q=S.h q:=by
  intro q hq;cases hd:D q with
  | true=>simp [dropH,hd] at hq
  | false=>exact ⟨rfl,by simp [dropH,hd]⟩
 have K:Keeps A w μ S.h w μ (dropH D S.h):=by
  refine ⟨λb hb=>⟨hb.1,hb.2.1,λq hq=>hb.2.2 q (by rw [<- (hl q hq).2]; exact hq)⟩,λ_ _ _=>rfl,λq=>?_⟩;cases hd:D q with
  | true=>exact .inl (by simp [dropH,hd])
  | false=>exact .inr ⟨by simp [dropH,hd],by simp [dropH,hd],rfl⟩
 refine ⟨⟨μ,⟨λq o ho=>?_,λq1 q2 b h1 h2=>?_,λq g wd v hv=>?_,λq o ho=>?_⟩,λt=>(rel t).keep K⟩,hR.below,hR.size,hR.defers,hR.new⟩
 . have ho':(dropH D S.h q).o=some o:=ho;have:=hl q (by rw [ho']; simp);rw [this.2] at ho';exact (H.obj q o ho').keep K λ_ _=>rfl
 . have e1:=hl q1 h1;have e2:=hl q2 h2;exact H.inj q1 q2 b (by rw [<- e1.2]; exact h1) (by rw [<- e2.2]; exact h2)
 . rcases H.giv q g wd v hv with k | ⟨k1,k2,k3⟩<;>cases hd:D q
   . exact .inl (by simpa [dropH,hd] using k)
   . exact .inl (by simp only [dropH,hd,if_true]; omega)
   . exact .inr ⟨by simpa [dropH,hd] using k1,by simpa [dropH,hd] using k2,k3⟩
   . exact .inl (by simp only [dropH,hd,if_true]; omega)
 . have ho':(dropH D S.h q).o=some o:=ho;have:=hl q (by rw [ho']; simp);rw [this.2] at ho';exact H.clo q o ho'
theorem maskH_lt (h:Nat->HC) {q:Nat} (hq:q<1000):maskH h q=⟨0,none⟩:=by simp [maskH,Nat.not_le_of_lt hq]
theorem maskH_ge (h:Nat->HC) {q:Nat} (hq:1000<=q):maskH h q=h q:=by simp [maskH,hq]
theorem callP {f:FuncId} {args:List V} {K:St->Prop} {dst:Option Nat} {X:Prop} {r:List RV} (h:Spec P f args (· =r)) (ho:r.any RV.isOwn=false) (k:K (S.put dst (pureSV r))):CallK P f args K S dst X:=
 .inl ⟨_,h,λ_ e=>by rw [e,pureSV_ret ho]; exact k⟩
def FrM (P:Program) (f:FuncId) (h:Nat->HC) (fp:List Nat) (args:List SV) (R:(Nat->HC)->List SV->Prop):Prop:=
 FrH P f h fp args λδ svs=>∃ g:Nat->HC,δ=fp.map (λq=>(q,g q))/\R g svs
def retPM (rs:List SRes) (fp:List Nat) (R:(Nat->HC)->List SV->Prop) (h2:Nat->HC) (S:St):Prop:=
 match retAllH S rs with
 | some (c,svs)=>c/\(∀ q,q+1000 ∉ fp->S.h (q+1000)=h2 (q+1000))/\R S.h svs
 | none=>False
def retQM (rs:List SRes) (fp:List Nat) (R:(Nat->HC)->List SV->Prop) (h2:Nat->HC):Exit->St->Prop
 | .normal,S=>retPM rs fp R h2 S
 | .ret,S=>retPM rs fp R h2 S
 | _,_=>False
theorem frM_at {f:FuncId} {fn:Func} {sc:SC} {rs:List SRes} (hf:P.funcs[f]? =some fn) (hs:slimF P fn=some (n,sc,rs)) {h:Nat->HC} {fp:List Nat} {args:List SV} {R:(Nat->HC)->List SV->Prop} (hargs:args.length<=n)
 (hoa:∀ x∈args,okSV x) (hfp:∀ r∈fp,1000<=r) (hWS:∀ h2,(∀ r∈fp,h2 r=h r)->WS P n sc (retQM rs fp R h2) (S0H h2 args)):FrM P f h fp args R:=by
 refine frH_at hf hs hargs hoa hfp λh2 hh=>(hWS h2 hh).mono λe S hq=>?_;have key:retPM rs fp R h2 S->retPF rs fp (λδ svs=>∃ g:Nat->HC,δ=fp.map (λq=>(q,g q))/\R g svs) h2 S:=by
  intro hq;unfold retPM at hq;unfold retPF;split at hq
  . obtain ⟨hc,hfr,hR⟩:=hq;refine ⟨hc,λq h1 hq=>?_,S.h,rfl,hR⟩;obtain ⟨q',rfl⟩:∃ q',q=q'+1000:=⟨q-1000,by omega⟩;exact hfr q' hq
  . exact hq
 cases e with
 | normal=>exact key hq
 | ret=>exact key hq
 | _=>exact hq
theorem mcall {f:FuncId} {args:List SV} {K:St->Prop} {dst:Option Nat} (fp:List Nat) {R:(Nat->HC)->List SV->Prop} (h:FrM P f S.h fp args R) (hfp:∀ x∈args,∀ r∈svref x,r∈fp)
 (k:∀ (H g:Nat->HC) svs,(∀ q,q ∉ fp->H q=S.h q)->(∀ q∈fp,H q=g q)->R g svs->K ((⟨S.σ,H⟩:St).put dst (packSV svs))):HCall P f args K S dst:=by
 refine ⟨fp,_,hfp,h,?_⟩;rintro δ svs ⟨g,rfl,hR⟩ _;exact k _ g svs (λq hq=>patch_ne λx hx e=>by
  obtain ⟨r,hr,rfl⟩:=List.mem_map.1 hx;exact hq (e ▸ hr)) (λq hq=>patch_mem hq) hR
theorem mcallD {f:FuncId} {args:List SV} {K:St->List Ent->Prop} {dst:Option Nat} {i:Nat} (fp:List Nat) {R:(Nat->HC)->List SV->Prop} (h:FrM P f S.h fp args R) (hfp:∀ x∈args,∀ r∈svref x,r∈fp)
 (hex:∃ g svs,R g svs)
 (k:∀ (H g:Nat->HC) svs,(∀ q,q ∉ fp->H q=S.h q)->(∀ q∈fp,H q=g q)->R g svs->K ((⟨S.σ,H⟩:St).put dst (packSV svs)) (callEnt i++fp.map λr=>(i,r,true))):HCallD P i f args K S dst:=by
 obtain ⟨g0,s0,h0⟩:=hex;refine ⟨fp,_,hfp,h,⟨_,s0,⟨g0,rfl,h0⟩,λx hx=>by obtain ⟨r,hr,rfl⟩:=List.mem_map.1 hx; exact hr⟩,?_⟩;rintro δ svs ⟨g,rfl,hR⟩ _;exact k _ g svs (λq hq=>patch_ne λx hx e=>by
  obtain ⟨r,hr,rfl⟩:=List.mem_map.1 hx;exact hq (e ▸ hr)) (λq hq=>patch_mem hq) hR
end
end Go.Vw
