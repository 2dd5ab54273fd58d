/- Rows of rows: that each operation on them does what the state says. A base for the claims of this seat; it names no program. -/
import Derived.Test.YtfdjbmamidmgfaaGreatVA
set_option linter.unusedVariables false
set_option linter.unusedSimpArgs false
namespace Go.Vw
open Go.RowKit (Below)
section
variable {w:World} {ok:Nat->Prop} {μ:Nat->Value} {hp:Nat->HC}
theorem RelCells.nil:RelCells w ok μ hp [] []:=⟨rfl,λj hj=>by simp at hj⟩
theorem RelCells.append {xs ys:List SV} {f g:List Value} (h:RelCells w ok μ hp xs f) (k:RelCells w ok μ hp ys g):RelCells w ok μ hp (xs++ys) (f++g):=by
 refine ⟨by simp [h.1,k.1],λj hj=>?_⟩;have hl:=h.1;by_cases hlt:j<xs.length
 . have:=h.2 j hlt;rw [List.getElem_append_left hlt]
   simpa [List.getD,List.getElem?_append_left (hl ▸ hlt:j<f.length)] using this
 . have hj':j-xs.length<ys.length:=by simp at hj; omega
   have:=k.2 (j-xs.length) hj';rw [List.getElem_append_right (by omega)]
   simpa [List.getD,List.getElem?_append_right (by omega:f.length<=j),hl] using this
theorem RelCells.take {xs:List SV} {f:List Value} (h:RelCells w ok μ hp xs f) (k:Nat):RelCells w ok μ hp (xs.take k) (f.take k):=by
 refine ⟨by simp [h.1],λj hj=>?_⟩;have hj':j<k/\j<xs.length:=by simp at hj; omega
 have:=h.2 j hj'.2
 simpa [List.getD,List.getElem?_take,hj'.1] using this
theorem RelCells.drop {xs:List SV} {f:List Value} (h:RelCells w ok μ hp xs f) (k:Nat):RelCells w ok μ hp (xs.drop k) (f.drop k):=by
 refine ⟨by simp [h.1],λj hj=>?_⟩;have hj':k+j<xs.length:=by simp at hj; omega
 have:=h.2 (k+j) hj'
 simpa [List.getD,List.getElem?_drop] using this
theorem RelCells.ones {xs:List SV} {f:List Value} (h:RelCells w ok μ hp xs f):∀ c∈f,c.oneCell'=true:=by
 intro c hc;obtain ⟨j,hj,rfl⟩:=List.mem_iff_getElem.1 hc;have:=(h.2 j (by rw [<- h.1]; exact hj)).2
 simpa [List.getD,hj] using this
theorem RelCells.of_flat {xs:List V} {f:List Value} (h:RelFlat w ok none xs f):RelCells w ok μ hp (xs.map .p) f:=by
 have hone:=h.ones;have hlen:=h.length;obtain ⟨a,h1,h2,h3,rfl⟩:=h;rw [flat_none a λc hc=>h3 c hc] at hone hlen ⊢;refine ⟨by simp [h1],λj hj=>?_⟩;have hj':j<xs.length:=by simpa using hj
 have hja:j<a.length:=by omega
 refine ⟨by simpa using RelS.p _ _ (h2 j hj'),?_⟩;have:=hone a[j] (List.getElem_mem hja)
 simpa [List.getD,hja] using this
theorem plains_eq:∀ {xs:List SV} {vs:List V},plains xs=some vs->xs=vs.map .p
 | [],_,h=>by simp only [plains,Option.some.injEq] at h; subst h; rfl
 | .p v::rest,_,h=>by
  simp only [plains,Option.map_eq_some_iff] at h;obtain ⟨vs',h,rfl⟩:=h;rw [List.map_cons,<-plains_eq h]
 | .any::_,_,h=>by simp [plains] at h
 | .own _ _ _ _::_,_,h=>by simp [plains] at h
 | .ptr _ _ _::_,_,h=>by simp [plains] at h
 | .tup _::_,_,h=>by simp [plains] at h
 | .bnd _ _ _::_,_,h=>by simp [plains] at h
 | .bool::_,_,h=>by simp [plains] at h
 | .raw _::_,_,h=>by simp [plains] at h
 | .agg _::_,_,h=>by simp [plains] at h
 | .nil::_,_,h=>by simp [plains] at h
theorem RelCells.flat {vs:List V} {f:List Value} (h:RelCells w ok μ hp (vs.map .p) f):RelFlat w ok none vs f:=by
 have hl:f.length=vs.length:=by simpa using h.1
 refine ⟨f,hl,λj hj=>?_,λv hv=>h.ones v hv,(flat_none f h.ones).symm⟩;have:=(h.2 j (by simpa using hj)).1;simp only [List.getElem_map] at this;cases this; assumption
theorem RelCells.pack {cs:List SV} {f:List Value} (h:RelCells w ok μ hp cs f):RelS w ok μ hp (svPack cs) (.agg f.toArray):=by
 unfold svPack;split
 . rename_i vs hvs;have:=plains_eq hvs;subst this;exact .p _ _ h.flat.agg
 . refine .agg cs _ (by simpa using h.1) (λc hc=>h.ones c (by simpa using hc)) λj hj=>?_
   simpa [Array.getD_eq_getD_getElem?,List.getD] using (h.2 j hj).1
theorem one_cells {val:Value} (h:val.oneCell'=true):val.cells.toList=[val]:=by cases val<;>simp_all [Value.oneCell',Value.cells]
theorem cell_one {x:SV} {val:Value} (h:RelS w ok μ hp x val) (hc:x.cell=true):val.oneCell'=true:=by
 cases h with
 | p v val hv=>
  simp only [SV.cell,Bool.not_eq_true'] at hc;exact hv.shape (sz:=none) hc
 | own_stale r g off len val hg hone=>exact hone
 | own r g off len val hg hs=>exact hs.one
 | nil=>rfl
 | _=>simp [SV.cell] at hc
theorem RelCells.one {x:SV} {val:Value} (h:RelS w ok μ hp x val) (hc:x.cell=true):RelCells w ok μ hp [x] [val]:=
 ⟨rfl,λj hj=>by
  have:j=0:=by simp at hj; omega
  subst this;exact ⟨by simpa [List.getD] using h,by simpa [List.getD] using cell_one h hc⟩⟩
theorem RelCells.of {x:SV} {val:Value} (h:RelS w ok μ hp x val) (hs:x.solid=true):RelCells w ok μ hp (svCells x) val.cells.toList:=by
 cases h with
 | p v val hv=>exact .of_flat (RelFlat.cells hv)
 | agg cs vals hlen hone hrel=>
  refine ⟨by simpa [svCells,Value.cells] using hlen,λj hj=>?_⟩;have hj':j<cs.length:=hj;have h1:=hrel j hj';have hv:j<vals.size:=by omega
  refine ⟨by simpa [svCells,Value.cells,Array.getD_eq_getD_getElem?,List.getD] using h1,?_⟩;have:=hone vals[j] (Array.getElem_mem hv)
  simpa [Value.cells,List.getD,hv] using this
 | own_stale r g off len val hg hone=>rw [one_cells hone]; exact .one (.own_stale r g off len val hg hone) rfl
 | own r g off len val hg hs=>
  have:=one_cells hs.one;rw [this]; exact .one (.own r g off len val hg hs) rfl
 | nil=>exact .one .nil rfl
 | _=>simp [SV.solid] at hs
theorem svFits_solid {sz:Option Nat} {x:SV} (h:svFits sz x):x.solid=true:=by
 cases sz<;>cases x<;>simp_all [svFits,SV.cell,SV.solid]
theorem svFits_shape {sz:Option Nat} {x:SV} {val:Value} (hf:svFits sz x) (h:RelS w ok μ hp x val):Shape sz val:=by
 cases sz with
 | none=>exact cell_one h hf
 | some n=>
  cases h with
  | p v val hv=>exact hv.shape (sz:=some n) hf
  | agg cs vals hlen hone hrel=>exact ⟨vals,rfl,by rw [hlen]; exact hf,hone⟩
  | _=>simp [svFits] at hf
theorem zeroFit_nil {v:Value} {x:V} (h:zeroFit v x=true) (w:World) (ok:Nat->Prop) (μ:Nat->Value) (hp:Nat->HC):RelCells w ok μ hp [nilZ x] [v]:=by
 have h0:=zeroFit_rel h w ok;unfold zeroFit at h;split at h
 . exact .one (.p _ _ h0.1) rfl
 . exact .one (.p _ _ h0.1) rfl
 . exact .one (.p _ _ h0.1) rfl
 . exact .one .nil rfl
 . cases h
theorem zerosFit_cells:∀ {vs:List Value} {xs:List V},zerosFit vs xs=true->∀ (w:World) (ok:Nat->Prop) (μ:Nat->Value) (hp:Nat->HC),RelCells w ok μ hp (xs.map nilZ) vs
 | [],[],_,w,ok,μ,hp=>RelCells.nil
 | v::vs,x::xs,h,w,ok,μ,hp=>by
  simp only [zerosFit,Bool.and_eq_true] at h;exact (zeroFit_nil h.1 w ok μ hp).append (zerosFit_cells h.2 w ok μ hp)
 | [],_::_,h,_,_,_,_=>by simp [zerosFit] at h
 | _::_,[],h,_,_,_,_=>by simp [zerosFit] at h
theorem zeroOf_cells {P:Program} {T:TypeId} {cs:List V} (h:zeroOf P T=some cs):
 ∃ i z,P.info? T=some i/\i.zero=some z/\∀ w ok μ hp,RelCells w ok μ hp (cs.map nilZ) z.cells.toList:=by
 unfold zeroOf at h;split at h
 . rename_i i cs' hi _;split at h
   . rename_i z hz;split at h
     . rename_i hf;simp only [Option.some.injEq] at h; subst h;exact ⟨i,z,hi,hz,zerosFit_cells hf⟩
     . cases h
   . cases h
 . cases h
theorem part_relX {cs:List SV} {flat:List Value} (h:RelCells w ok μ hp cs flat) {off:Nat} {sz:Option Nat} (hpk:partOkS cs off sz):
 ∃ val,RelS w ok μ hp (svPart cs off sz) val/\Shape sz val/\∀ i c,val.cells.toList[i]? =some c->flat[off+i]? =some c:=by
 cases sz with
 | none=>
  have hlt:off<cs.length:=hpk;obtain ⟨h1,h2⟩:=h.2 off hlt;have hf:off<flat.length:=by rw [h.1]; exact hlt
  refine ⟨_,by simp only [svPart]; rw [getD_lt _ _ hlt]; exact h1,h2,λi c hc=>?_⟩;rw [one_cells h2] at hc;cases i with
  | zero=>
   simp only [List.getElem?_cons_zero,Option.some.injEq] at hc;rw [<- hc]; simp [List.getD,hf]
  | succ i=>simp at hc
 | some k=>
  have h1:=(h.drop off).take k;simp only [partOkS] at hpk;have hl:=h.1;refine ⟨_,h1.pack,⟨_,rfl,by simp; omega,λc hc=>h1.ones c (by simpa using hc)⟩,λi c hc=>?_⟩;simp only [Value.cells,List.toList_toArray,List.getElem?_take,List.getElem?_drop] at hc;split at hc
  . exact hc
  . cases hc
end
section
variable {P:Program} {A:Nat->Prop} {w0:Base} {n:Nat} {o:Oper} {S:St}
theorem evN_rel {T:TypeId} {x:Operand} {sx:SX} (hx:slimX P T x=some sx) {a:Act} {w:World} {μ:Nat->Value}
 (rel:∀ t,RelS w (okOf A w μ S.h) μ S.h (S.σ t) (a.tmps.getD t undef)):RelS w (okOf A w μ S.h) μ S.h (S.evN sx) (a.eval x):=by
 unfold St.evN;split
 . rename_i sz;cases x with
   | const v=>
    simp only [slimX,Option.map_eq_some_iff] at hx;obtain ⟨c,hc,hcs⟩:=hx;simp only [SX.c.injEq] at hcs; subst hcs;have hv:v= .slice none 0 0:=by
     unfold cst at hc;split at hc
     . simp at hc
     . simp at hc
     . simp at hc
     . rfl
     . split at hc
       . split at hc<;>simp at hc
       . cases hc
     . cases hc
    subst hv;exact .nil
   | tmp t=>simp [slimX] at hx
   | func f=>simp [slimX] at hx
   | global g=>simp [slimX] at hx
 . exact ev_rel hx rel
theorem RelSt.alloc_X {a:Act} {w:World} (hR:RelSt A w0 n S a w) {μ:Nat->Value} (H:HeapOK A w w0 μ S.h)
 (rel:∀ t,RelS w (okOf A w μ S.h) μ S.h (S.σ t) (a.tmps.getD t undef)) (hd:∀ t,o.dst=some t->t<n) (d:Nat) (ob:HObj) (base:Value) (cells:Array Value) (T:TypeId) (x:SV)
 (hobj:∀ (μ':Nat->Value) (h':Nat->HC),Keeps A w μ S.h (w.alloc (.cells cells T)) μ' h'->RelObjX (w.alloc (.cells cells T)) (okOf A (w.alloc (.cells cells T)) μ' h') w0.B μ' h' base ob)
 (hbase:∀ b,blk base=some b->b=w.heap.size) (hclo:1000<=d->∀ q∈ob.refs,1000<=q)
 (u:Value) (hx:∀ (w':World) (ok:Nat->Prop),RelS w' ok (upd μ d base) (upd S.h d ⟨(S.h d).g+1,some ob⟩) x u):
 RelSt A w0 n ((S.heap (some (d,⟨(S.h d).g+1,some ob⟩))).put o.dst x) (a.put o.dst u) (w.alloc (.cells cells T)):=by
 obtain ⟨H',k⟩:=H.changeX (w':=w.alloc (.cells cells T)) d ⟨(S.h d).g+1,some ob⟩ base (by simp) (λb hb _=>heap_push_old hb)
  (λb _ hb=>.inr (by rw [hbase b hb]; exact Nat.le_refl _)) (λob' hob K=>by
   simp only [Option.some.injEq] at hob; subst hob;exact hobj _ _ K) (.inl (by simp)) (λob' hob _=>by
   simp only [Option.some.injEq] at hob; subst hob;exact hclo)
 exact RelSt.put' rel hR.size hR.defers hR.new H' k (hR.below.of_alloc _) hd (hx _ _)
theorem RelSt.write_X {a:Act} {w:World} (hR:RelSt A w0 n S a w) {μ:Nat->Value} (H:HeapOK A w w0 μ S.h)
 (rel:∀ t,RelS w (okOf A w μ S.h) μ S.h (S.σ t) (a.tmps.getD t undef)) (hd:∀ t,o.dst=some t->t<n) (r b:Nat) (ob:HObj) (cs:Array Value) (x:SV)
 (hlive:(S.h r).o≠none) (hb:blk (μ r)=some b) (hw:ob.width=(S.h r).width)
 (hobj:∀ (h':Nat->HC),Keeps A w μ S.h (w.setRow b cs) μ h'->RelObjX (w.setRow b cs) (okOf A (w.setRow b cs) μ h') w0.B μ h' (μ r) ob) (hclo:1000<=r->∀ q∈ob.refs,1000<=q)
 (u:Value) (hx:∀ (w':World) (ok:Nat->Prop) (h':Nat->HC),RelS w' ok μ h' x u):
 RelSt A w0 n ((S.heap (some (r,⟨(S.h r).g,some ob⟩))).put o.dst x) (a.put o.dst u) (w.setRow b cs):=by
 obtain ⟨ob0,hob0⟩:=Option.ne_none_iff_exists'.1 hlive;have hlt:=(H.obj r ob0 hob0).lt hb;have hμ:upd μ r (μ r)=μ:=by funext t; simp only [upd]; split<;>simp_all
 obtain ⟨H',k⟩:=H.changeX (w':=w.setRow b cs) r ⟨(S.h r).g,some ob⟩ (μ r) (by rw [size_setRow]; exact Nat.le_refl _)
  (λb' hb' hne=>setRow_other w b b' cs (λe=>hne hlive (by rw [hb,e])))
  (λb' _ hb'=>.inl ⟨hlive,hb'⟩) (λob' hob K=>by
   simp only [Option.some.injEq] at hob; subst hob;rw [hμ] at K ⊢;exact hobj _ K) (.inr ⟨rfl,by simpa [HC.width] using hw,rfl⟩) (λob' hob _=>by
   simp only [Option.some.injEq] at hob; subst hob;exact hclo)
 refine RelSt.put' rel hR.size hR.defers hR.new H' k (hR.below.of_setRow hlt.1 _) hd ?_;rw [hμ]; exact hx _ _ _
theorem clo_refs {d:Nat} {xs:List SV} (h:cloC d xs):1000<=d->∀ q∈xs.flatMap svref,1000<=q:=λh1 q hq=>by
 obtain ⟨x,hx,hq⟩:=List.mem_flatMap.1 hq;exact h h1 x hx q hq
theorem fill_rowsX {e:TypeId} {a:Act} {w:World} {μ:Nat->Value} (rel:∀ t,RelS w (okOf A w μ S.h) μ S.h (S.σ t) (a.tmps.getD t undef)):
 ∀ (parts:List (Nat × Operand)) (k:Nat) (xs:List SX) (cells:Array Value),inRow k parts=true->
  slimXs P (parts.map (·.2)) (parts.map λ_=>e)=some xs->(∀ x∈xs.map S.ev,x.cell=true)->k+parts.length<=cells.size->
  ∃ flat,RelCells w (okOf A w μ S.h) μ S.h (xs.map S.ev) flat/\xs.length=parts.length/\
   Instr.fill (λi=>some (i*width none,width none)) cells (parts.map λ(i,x)=>(i,a.eval x))=
    some (cells.toList.take k++flat++cells.toList.drop (k+parts.length)).toArray
 | [],k,xs,cells,_,h1,_,_=>by
  simp only [List.map_nil,slimXs,Option.some.injEq] at h1; subst h1;exact ⟨[],RelCells.nil,rfl,by simp [Instr.fill]⟩
 | (i,x)::rest,k,xs,cells,hrow,h1,hf,hle=>by
  simp only [inRow,Bool.and_eq_true,beq_iff_eq] at hrow;obtain ⟨rfl,hrow⟩:=hrow;simp only [List.map_cons,slimXs] at h1;split at h1
  . rename_i sx r hx hr;simp only [Option.some.injEq] at h1; subst h1;simp only [List.map_cons] at hf ⊢;simp only [List.headD_cons] at hx;have hv:=ev_rel hx rel;have hc:=hf (S.ev sx) (by simp);have hone:=RelCells.one hv hc;have hsz:=one_cells (cell_one hv hc);have hsz':(a.eval x).cells.size=1:=by rw [<- Array.length_toList,hsz]; rfl
    simp only [List.length_cons] at hle;rw [fill_cons _ cells i (a.eval x) _ (off:=i) (size:=1) (by simp [width]) hsz' (by omega)];obtain ⟨flat,f1,f2,f3⟩:=fill_rowsX rel rest (i+1) r (cells.toList.take i++(a.eval x).cells.toList++cells.toList.drop (i+1)).toArray hrow hr (λv hv=>hf v (List.mem_cons_of_mem _ hv)) (by simp [hsz]; omega);refine ⟨a.eval x::flat,hone.append f1,by simp [f2],?_⟩;rw [f3];apply congrArg; apply congrArg;have l1:(cells.toList.take i).length=i:=by simp; omega
    simp only [List.toList_toArray,hsz];have t1:(cells.toList.take i++[a.eval x]++cells.toList.drop (i+1)).take (i+1)=cells.toList.take i++[a.eval x]:=by
     rw [List.take_append_of_le_length (by simp only [List.length_append,l1,List.length_singleton]; omega)];rw [List.take_of_length_le (by simp only [List.length_append,l1,List.length_singleton]; omega)]
    have t2:(cells.toList.take i++[a.eval x]++cells.toList.drop (i+1)).drop (i+1+rest.length)=cells.toList.drop (i+(rest.length+1)):=by
     rw [List.drop_append,List.drop_of_length_le (by simp only [List.length_append,l1,List.length_singleton]; omega),List.nil_append,List.drop_drop];congr 1;simp only [List.length_append,l1,List.length_singleton]; omega
    rw [t1,t2];simp
  . cases h1
theorem okX_mkSl (hd:∀ t,o.dst=some t->t<n) {T e:TypeId} {len:Nat} {parts:Array (Nat × Operand)} {xs:List SX} {zv:V} {d:Nat}
 (ho:o.op= .buildSlice T len parts) (hT:P.underlying T=some (.slice e)) (hsz:szOf P e=some none) (hzv:zeroV P e=some zv)
 (hxs:slimXs P (parts.toList.map (·.2)) (parts.toList.map λ_=>e)=some xs) (hlen:len=parts.size) (hrow:inRow 0 parts.toList=true) (hsmall:len*width none<=2^24)
 (hf:∀ x∈xs.map S.ev,x.cell=true) (hclo:cloC d (xs.map S.ev)):
 OpOK P A w0 n o S ((S.heap (some (d,⟨(S.h d).g+1,some (.rows e (xs.map S.ev))⟩))).put o.dst (.own d ((S.h d).g+1) 0 xs.length)):=by
 intro a w hR;obtain ⟨μ,H,rel⟩:=hR.ex;obtain ⟨sz',i,z,z',hs',hi,hz,hzc,hsh,_⟩:=zeroV_spec hzv;rw [hsz,Option.some.injEq] at hs'; subst hs';subst hlen
 let base:Array Value:=(Array.range (parts.size*width none)).map ((if parts.size*width none=0 then #[] else z.cells)[· %(if parts.size*width none=0 then #[] else z.cells).size]!)
 have hbs:base.size=parts.size*width none:=by simp [base]
 obtain ⟨flat,f1,f2,f3⟩:=fill_rowsX (P:=P) (e:=e) rel parts.toList 0 xs base hrow hxs hf (by rw [hbs]; simp [width]);simp only [List.take_zero,List.nil_append,Nat.zero_add,Array.length_toList] at f3;rw [List.drop_of_length_le (by simp [hbs,width]),List.append_nil] at f3;have hr:=run_sz hsz w;have hrun:(execOp a.eval o).run P w= .ok (.value (.slice (some ⟨w.heap.size,0,none⟩) parts.size parts.size)) (w.alloc (.cells flat.toArray e)):=by
  by_cases h0:parts.size*width none=0
  . simp only [base,h0,if_true,Array.range_zero',Array.map_empty] at f3;simp [execOp,ho,Instr.buildSlice,run_underlying hT,hr,h0,newRow,f3,Array.range_zero']
  . simp only [base,h0,if_false] at f3;have hn:¬ (16777216<parts.size*width none):=by omega
    simp [execOp,ho,Instr.buildSlice,run_underlying hT,hr,h0,newRow,f3,run_zero hi hz,hn]
 have hfl:flat.length=xs.length:=by simpa using f1.1
 have hxl:xs.length=parts.size:=by simpa using f2
 have hm:xs.length<=maxLen:=by simp only [width,Option.getD_none,Nat.mul_one] at hsmall; simp only [maxLen]; omega
 refine ⟨_,_,hrun,.inl ⟨_,rfl,?_⟩⟩;refine hR.alloc_X H rel hd d (.rows e (xs.map S.ev)) (.slice (some ⟨w.heap.size,0,none⟩) parts.size parts.size) flat.toArray e _ (λμ' h' K=>?_) (λb hb=>by simpa [blk] using hb.symm) (clo_refs hclo) _ (λw' ok=>?_)
 . refine ⟨flat,?_,f1.keep K⟩;rw [List.length_map,<-hxl];have:=ownsRow_new (w:=w) (e:=e) (k:=xs.length) (size:=1) (B:=w0.B) (cells:=flat.toArray) (.inl hR.below.size) hm (by simpa using hfl)
   simpa using this
 . refine .own _ _ _ _ _ (by simp) ?_;simp only [upd_same,SubOf];exact ⟨0,parts.size,by simp [hxl],by omega,.inr ⟨by simp,by omega⟩⟩
theorem agg_inv {w:World} {ok:Nat->Prop} {μ:Nat->Value} {h:Nat->HC} {cs:List SV} {val:Value} (hs:RelS w ok μ h (.agg cs) val):RelCells w ok μ h cs val.cells.toList/\val= .agg val.cells:=by
 refine ⟨RelCells.of (x:=.agg cs) hs rfl,?_⟩;cases hs; rfl
theorem okX_box (hd:∀ t,o.dst=some t->t<n) {T:TypeId} {x:Operand} {sx:SX} {d:Nat} {cs:List SV} (ho:o.op= .box T x) (hx:slimX P T x=some sx) (hev:S.ev sx= .agg cs) (hdst:o.dst=some d)
 (hclo:cloC d cs):OpOK P A w0 n o S ((S.heap (some (d,⟨(S.h d).g+1,some (.sbox T cs)⟩))).put o.dst (.ptr d ((S.h d).g+1) 0)):=by
 intro a w hR;obtain ⟨μ,H,rel⟩:=hR.ex;have h1:=ev_rel hx rel;rw [hev] at h1;have h2:=(agg_inv h1).1;refine ⟨.value (.pointer (some ⟨w.heap.size,0,none⟩)),w.alloc (.cells (a.eval x).cells T),?_,.inl ⟨_,rfl,?_⟩⟩
 . simp [execOp,ho,Instr.box,newVar,newRow]
 . refine hR.alloc_X H rel hd d (.sbox T cs) (.pointer (some ⟨w.heap.size,0,none⟩)) (a.eval x).cells T _ (λμ' h' K=>?_) (λb hb=>by simpa [blk] using hb.symm) (clo_refs hclo) _ (λw' ok=>?_)
   . exact ⟨_,_,rfl,.inl hR.below.size,heap_alloc_at w _,h2.keep K⟩
   . exact .ptr _ _ _ _ (by simp) ⟨w.heap.size,by simp [blk],by simp⟩
theorem fill_structX {fs:Array Field} {a:Act} {w:World} {μ:Nat->Value} (rel:∀ t,RelS w (okOf A w μ S.h) μ S.h (S.σ t) (a.tmps.getD t undef)):
 ∀ (parts:List (Nat × Operand)) (ps:List (Nat × Nat × SX)) (zs:List SV) (cells:Array Value),slimParts P fs parts=some ps->
  fillOkS (ps.map λp=>(p.1,p.2.1)) (ps.map λp=>S.evN p.2.2)->RelCells w (okOf A w μ S.h) μ S.h zs cells.toList->
  (∀ f∈fs,f.offset+tsz P f.type<=zs.length)->
  ∃ cells',Instr.fill ((fs.map λf=>(f.offset,tsz P f.type))[·]?) cells (parts.map λ(i,x)=>(i,a.eval x))=some cells'/\
   RelCells w (okOf A w μ S.h) μ S.h (fillS zs (ps.map λp=>(p.1,p.2.1)) (ps.map λp=>S.evN p.2.2)) cells'.toList
 | [],ps,zs,cells,h1,h3,h4,_=>by
  simp only [slimParts,Option.some.injEq] at h1; subst h1;exact ⟨cells,rfl,by simpa [fillS] using h4⟩
 | (i,x)::rest,ps,zs,cells,h1,h3,h4,hof=>by
  simp only [slimParts] at h1;split at h1
  . rename_i f hf;split at h1
    . rename_i sz sx r hsz hx hr;simp only [Option.some.injEq] at h1; subst h1;simp only [List.map_cons,fillOkS] at h3 ⊢;obtain ⟨h31,h32,h33⟩:=h3;have hv:=evN_rel hx rel;have hc:=RelCells.of hv h32;have hl:=hc.1;have hz:=h4.1;simp only [Array.length_toList] at hl hz;have hmem:f∈fs:=Array.mem_of_getElem? hf;have hle:=hof f hmem;rw [cellsOf_sz hsz] at hle;have hfill:=fill_cons ((fs.map λf=>(f.offset,tsz P f.type))[·]?) cells i (a.eval x) (rest.map λ(i,x)=>(i,a.eval x)) (off:=f.offset) (size:=width sz)
       (by simp [hf,cellsOf_sz hsz]) (by rw [hl,h31]) (by omega)
      rw [hfill];simp only [fillS];refine fill_structX rel rest r _ _ hr h33 ?_ (λg hg=>?_)
      . exact ((h4.take f.offset).append hc).append (h4.drop (f.offset+width sz))
      . have:=hof g hg;simp only [List.length_append,List.length_take,List.length_drop,h31];omega
    . cases h1
  . cases h1
theorem okX_build (hd:∀ t,o.dst=some t->t<n) {T:TypeId} {parts:Array (Nat × Operand)} {fs:Array Field} {zs:List V} {ps:List (Nat × Nat × SX)}
 (ho:o.op= .build T parts) (hT:P.underlying T=some (.struct fs)) (hz:zeroOf P T=some zs) (hps:slimParts P fs parts.toList=some ps)
 (hof:(fs.toList.all λf=>(P.info? f.type).isSome && decide (f.offset+tsz P f.type<=zs.length))=true)
 (hok:fillOkS (ps.map λp=>(p.1,p.2.1)) (ps.map λp=>S.evN p.2.2)):
 OpOK P A w0 n o S (S.put o.dst (.agg (fillS (zs.map nilZ) (ps.map λp=>(p.1,p.2.1)) (ps.map λp=>S.evN p.2.2)))):=
 pure_ok hd λa w μ H rel=>by
  obtain ⟨i,z,hi,hz',hr⟩:=zeroOf_cells hz;have hof':∀ f∈fs,(P.info? f.type).isSome=true/\f.offset+tsz P f.type<=zs.length:=λf hf=>by
   have:=List.all_eq_true.1 hof f (by simpa using hf)
   simpa using this
  obtain ⟨cells',h1,h2⟩:=fill_structX (P:=P) (fs:=fs) rel parts.toList ps (zs.map nilZ) z.cells hps hok (hr w _ _ _) (λf hf=>by simpa using (hof' f hf).2);refine ⟨.agg cells',?_,.agg _ _ (by simpa using h2.1) (λc hc=>h2.ones c (by simpa using hc)) λj hj=>by simpa [Array.getD_eq_getD_getElem?,List.getD] using (h2.2 j hj).1⟩;have hpl:=run_places (P:=P) w fs.toList λf hf=>(hof' f (by simpa using hf)).1;have hpl':(fs.mapM (m:=Sem) λf=>Prod.mk f.offset <$> sizeOf f.type).run P w= .ok (fs.map λf=>(f.offset,tsz P f.type)) w:=by
   rw [Array.mapM_eq_mapM_toList,Sem.run_map,hpl];simp only [Result.andThen_ok];congr 1;apply Array.ext';simp
  have h1':Instr.fill ((fs.map λf=>(f.offset,tsz P f.type))[·]?) z.cells (parts.map λ(i,x)=>(i,a.eval x)).toList=some cells':=by
   rw [Array.toList_map]; exact h1
  simp only [Array.toList_map,Array.getElem?_map] at h1';simp [execOp,ho,Instr.build,run_zero hi hz',run_underlying hT,hpl',h1',Result.andThen]
theorem okX_load_sbox (hd:∀ t,o.dst=some t->t<n) {T T':TypeId} {x:Operand} {sx:SX} {sz:Option Nat} {r g j:Nat} {cs:List SV} {T1:TypeId} (ho:o.op= .load T x) (hsz:szOf P T=some sz) (hx:slimX P T1 x=some sx)
 (hev:S.ev sx= .ptr r g j) (hobj:(S.h r).o=some (.sbox T' cs)) (hg:g=(S.h r).g) (hpk:partOkS cs j sz):OpOK P A w0 n o S (S.put o.dst (svPart cs j sz)):=
 pure_ok hd λa w μ H rel=>by
  have h1:=ev_rel hx rel;rw [hev] at h1;obtain ⟨b,hb,hval⟩:=ptr_inv h1 hg;obtain ⟨b',cells,hbase,hB,hheap,hflat⟩:=H.obj r _ hobj;rw [hbase] at hb;simp only [blk,Option.some.injEq] at hb; subst hb;obtain ⟨val,v1,v2,v4⟩:=part_relX hflat hpk;have hw:(S.h r).width=1:=by simp [HC.width,hobj,HObj.width]
  rw [hw,Nat.mul_one] at hval;refine ⟨val,?_,v1⟩;rw [execOp,ho];simp only [hval];simp [run_loadAt_rel hsz v2 (rangeAt_of_row hheap j _ v4)]
theorem okX_load_rows (hd:∀ t,o.dst=some t->t<n) {T T':TypeId} {x:Operand} {sx:SX} {r g j:Nat} {xs:List SV} {T1:TypeId} (ho:o.op= .load T x) (hsz:szOf P T=some none) (hx:slimX P T1 x=some sx)
 (hev:S.ev sx= .ptr r g j) (hobj:(S.h r).o=some (.rows T' xs)) (hg:g=(S.h r).g) (hj:j<xs.length):OpOK P A w0 n o S (S.put o.dst (xs.getD j default)):=
 pure_ok hd λa w μ H rel=>by
  have h1:=ev_rel hx rel;rw [hev] at h1;obtain ⟨b,hb,hval⟩:=ptr_inv h1 hg;obtain ⟨flat,hown,hflat⟩:=H.obj r _ hobj;rcases hown.2 with ⟨hnil,hn⟩ | ⟨b',cap,cur,hbase,hB,hheap,hcap,hmax,hcur,htake⟩
  . rw [hnil] at hb; simp [blk] at hb
  rw [hbase] at hb;simp only [blk,Option.some.injEq] at hb; subst hb;obtain ⟨val,v1,v2,v3⟩:=part_relX (sz:=none) hflat (off:=j) hj;have hw:(S.h r).width=1:=by simp [HC.width,hobj,HObj.width]
  rw [hw,Nat.mul_one] at hval;refine ⟨val,?_,v1⟩;rw [execOp,ho];simp only [hval];have hr:w.rangeAt b' j val.cells.toList:=rangeAt_of_row hheap _ _ λi c hc=>by
   have:=v3 i c hc;rw [<- htake,List.getElem?_take] at this;split at this
   . exact this
   . cases this
  simp [run_loadAt_rel hsz v2 hr]
theorem okX_store_rows (hd:∀ t,o.dst=some t->t<n) {T T':TypeId} {x y:Operand} {sx sy:SX} {r g j:Nat} {xs:List SV} {T1 T2:TypeId} (ho:o.op= .store T x y)
 (hsz:szOf P T=some none) (hx:slimX P T1 x=some sx) (hy:slimX P T2 y=some sy) (hev:S.ev sx= .ptr r g j) (hobj:(S.h r).o=some (.rows T' xs)) (hg:g=(S.h r).g)
 (hf:(S.ev sy).cell=true) (hj:j<xs.length) (hclo:cloC r [S.ev sy]):
 OpOK P A w0 n o S ((S.heap (some (r,⟨g,some (.rows T' (xs.set j (S.ev sy)))⟩))).put o.dst (.tup [])):=by
 intro a w hR;obtain ⟨μ,H,rel⟩:=hR.ex;have h1:=ev_rel hx rel;rw [hev] at h1;obtain ⟨b,hb,hval⟩:=ptr_inv h1 hg;obtain ⟨flat,hown,hflat⟩:=H.obj r _ hobj;rcases hown.2 with ⟨hnil,hn⟩ | ⟨b',cap,cur,hbase,hB,hheap,hcap,hmax,hcur,htake⟩
 . rw [hnil] at hb; simp [blk] at hb
 rw [hbase] at hb;simp only [blk,Option.some.injEq] at hb; subst hb;have hv:=ev_rel hy rel;have hs:Shape none (a.eval y):=cell_one hv hf;have hcells:=one_cells hs;have hfl:=hflat.1;simp only [Nat.mul_one] at htake hcur;have hw:(S.h r).width=1:=by simp [HC.width,hobj,HObj.width]
 rw [hw,Nat.mul_one] at hval;have hst:=run_storeAt hsz hs hheap (off:=j) (by simp only [width_none]; omega);subst hg;have hrun:(execOp a.eval o).run P w= .ok .skip (w.setRow b' (cur.toList.take j++(a.eval y).cells.toList++cur.toList.drop (j+width none)).toArray):=by rw [execOp,ho]; simp [hval,hst]
 refine ⟨_,_,hrun,.inr ⟨rfl,?_⟩⟩;refine hR.write_X H rel hd r b' (.rows T' (xs.set j (S.ev sy))) _ _ (by rw [hobj]; simp) (by rw [hbase]; rfl) (by simp [HObj.width,hw]) (λh' K=>?_) (λh1 q hq=>?_) _ (λw' ok h'=>.tup _ _ rfl (by simp))
 . have hone:=RelCells.one (hv.keep K) hf;have hfk:=hflat.keep K;have t:=((hfk.take j).append hone).append (hfk.drop (j+1));have hset:xs.take j++[S.ev sy]++xs.drop (j+1)=xs.set j (S.ev sy):=by rw [List.set_eq_take_append_cons_drop]; simp [hj]
   rw [hset] at t;refine ⟨_,?_,t⟩;have hlt:=t.1;rw [hbase];have hlen:(xs.set j (S.ev sy)).length=xs.length:=by simp
   rw [hlen] at hlt ⊢;have:=ownsRow_write (k:=xs.length) (size:=1) (flat':=flat.take j++[a.eval y]++flat.drop (j+1)) hheap hB hcap hmax (by simpa using hcur) (by rw [Nat.mul_one]; exact hlt);have hcells':(flat.take j++[a.eval y]++flat.drop (j+1))++cur.toList.drop (xs.length*1)=
    cur.toList.take j++(a.eval y).cells.toList++cur.toList.drop (j+width none):=by
    rw [hcells,width_none,Nat.mul_one,<-htake,List.take_take,List.drop_take,Nat.min_eq_left (by omega)];simp only [List.append_assoc];rw [drop_take_drop _ (by omega)]
   rw [hcells'] at this;exact this
 . simp only [HObj.refs,List.mem_flatMap] at hq;obtain ⟨y',hy',hq⟩:=hq;rcases List.mem_or_eq_of_mem_set hy' with h2 | h2
   . exact H.clo r _ hobj h1 q (List.mem_flatMap.2 ⟨y',h2,hq⟩)
   . subst h2; exact hclo h1 _ (by simp) q hq
theorem store_cells (hd:∀ t,o.dst=some t->t<n) {T T':TypeId} {x y:Operand} {sx sy:SX} {sz:Option Nat} {r g j:Nat} {cs:List SV} {T1 T2:TypeId} (ho:o.op= .store T x y)
 (hsz:szOf P T=some sz) (hx:slimX P T1 x=some sx) (hy:slimX P T2 y=some sy) (hev:S.ev sx= .ptr r g j) (hg:g=(S.h r).g) (hlive:(S.h r).o≠none) (hw:(S.h r).width=1)
 (hcs:∀ w μ,HeapOK A w w0 μ S.h->∃ b cells,μ r= .pointer (some ⟨b,0,none⟩)/\w0.B b/\w.heap[b]? =some (.cells cells T' (0,0))/\RelCells w (okOf A w μ S.h) μ S.h cs cells.toList)
 (hrf:1000<=r->∀ x∈cs,∀ q∈svref x,∀ w μ,HeapOK A w w0 μ S.h->1000<=q)
 (hf:svFits sz (S.ev sy)) (hle:j+(svCells (S.ev sy)).length<=cs.length) (hclo:cloC r (svCells (S.ev sy))):
 OpOK P A w0 n o S ((S.heap (some (r,⟨g,some (.sbox T' (cs.take j++svCells (S.ev sy)++cs.drop (j+(svCells (S.ev sy)).length)))⟩))).put o.dst (.tup [])):=by
 intro a w hR;obtain ⟨μ,H,rel⟩:=hR.ex;have h1:=ev_rel hx rel;rw [hev] at h1;obtain ⟨b,hb,hval⟩:=ptr_inv h1 hg;obtain ⟨b',cells,hbase,hB,hheap,hflat⟩:=hcs w μ H;rw [hbase] at hb;simp only [blk,Option.some.injEq] at hb; subst hb;have hv:=ev_rel hy rel;have hs:=svFits_shape hf hv;have hc:=RelCells.of hv (svFits_solid hf);have hcl:=hc.1;have hfl:=hflat.1;simp only [Array.length_toList] at hcl hfl;rw [hw,Nat.mul_one] at hval;have hvs:(svCells (S.ev sy)).length=width sz:=by rw [<- hcl]; exact hs.size
 have hst:=run_storeAt hsz hs hheap (off:=j) (by omega);subst hg;have hrun:(execOp a.eval o).run P w= .ok .skip (w.setRow b' (cells.toList.take j++(a.eval y).cells.toList++cells.toList.drop (j+width sz)).toArray):=by rw [execOp,ho]; simp [hval,hst]
 refine ⟨_,_,hrun,.inr ⟨rfl,?_⟩⟩;refine hR.write_X H rel hd r b' (.sbox T' (cs.take j++svCells (S.ev sy)++cs.drop (j+(svCells (S.ev sy)).length))) _ _ hlive (by rw [hbase]; rfl) (by simp [HObj.width,hw]) (λh' K=>?_) (λh1 q hq=>?_) _ (λw' ok h'=>.tup _ _ rfl (by simp))
 . refine ⟨b',_,hbase,hB,setRow_heap w b' cells _ T' _ hheap,?_⟩;have t1:=(hflat.keep K).take j;have t2:=(hflat.keep K).drop (j+(svCells (S.ev sy)).length);rw [hvs] at t2 ⊢
   simpa using (t1.append (hc.keep K)).append t2
 . simp only [HObj.refs,List.mem_flatMap,List.mem_append] at hq;obtain ⟨y',hy',hq⟩:=hq;rcases hy' with (h2 | h2) | h2
   . exact hrf h1 y' (List.mem_of_mem_take h2) q hq w μ H
   . exact hclo h1 y' h2 q hq
   . exact hrf h1 y' (List.mem_of_mem_drop h2) q hq w μ H
theorem okX_store_sbox (hd:∀ t,o.dst=some t->t<n) {T T':TypeId} {x y:Operand} {sx sy:SX} {sz:Option Nat} {r g j:Nat} {cs:List SV} {T1 T2:TypeId} (ho:o.op= .store T x y)
 (hsz:szOf P T=some sz) (hx:slimX P T1 x=some sx) (hy:slimX P T2 y=some sy) (hev:S.ev sx= .ptr r g j) (hobj:(S.h r).o=some (.sbox T' cs)) (hg:g=(S.h r).g)
 (hf:svFits sz (S.ev sy)) (hle:j+(svCells (S.ev sy)).length<=cs.length) (hclo:cloC r (svCells (S.ev sy))):
 OpOK P A w0 n o S ((S.heap (some (r,⟨g,some (.sbox T' (cs.take j++svCells (S.ev sy)++cs.drop (j+(svCells (S.ev sy)).length)))⟩))).put o.dst (.tup [])):=
 store_cells hd ho hsz hx hy hev hg (by rw [hobj]; simp) (by simp [HC.width,hobj,HObj.width]) (λw μ H=>by
  obtain ⟨b',cells,hbase,hB,hheap,hflat⟩:=H.obj r _ hobj;exact ⟨b',cells,hbase,hB,hheap,hflat⟩) (λh1 x hx q hq w μ H=>H.clo r _ hobj h1 q (List.mem_flatMap.2 ⟨x,hx,hq⟩)) hf hle hclo
theorem okX_store_box (hd:∀ t,o.dst=some t->t<n) {T T':TypeId} {x y:Operand} {sx sy:SX} {sz:Option Nat} {r g j:Nat} {cs:List V} {T1 T2:TypeId} (ho:o.op= .store T x y)
 (hsz:szOf P T=some sz) (hx:slimX P T1 x=some sx) (hy:slimX P T2 y=some sy) (hev:S.ev sx= .ptr r g j) (hobj:(S.h r).o=some (.box T' cs)) (hg:g=(S.h r).g)
 (hf:svFits sz (S.ev sy)) (hle:j+(svCells (S.ev sy)).length<=cs.length) (hclo:cloC r (svCells (S.ev sy))):
 OpOK P A w0 n o S ((S.heap (some (r,⟨g,some (.sbox T' ((cs.map .p).take j++svCells (S.ev sy)++(cs.map .p).drop (j+(svCells (S.ev sy)).length)))⟩))).put o.dst (.tup [])):=
 store_cells hd ho hsz hx hy hev hg (by rw [hobj]; simp) (by simp [HC.width,hobj,HObj.width]) (λw μ H=>by
  obtain ⟨b',cells,hbase,hB,hheap,hflat⟩:=H.obj r _ hobj;exact ⟨b',cells,hbase,hB,hheap,.of_flat hflat⟩) (λh1 x hx q hq w μ H=>by
  obtain ⟨v,_,rfl⟩:=List.mem_map.1 hx;simp [svref] at hq) hf (by simpa using hle) hclo
theorem elemsX_rel {T:TypeId} {x:Operand} {sx:SX} (hx:slimX P T x=some sx) {c:Prop} {ys:List SV} (hel:S.elemsS (S.ev sx)=some (c,ys)) (hc:c)
 {a:Act} {w:World} {μ:Nat->Value} (H:HeapOK A w w0 μ S.h) (rel:∀ t,RelS w (okOf A w μ S.h) μ S.h (S.σ t) (a.tmps.getD t undef)):
 ∃ f,RelCells w (okOf A w μ S.h) μ S.h ys f/\((a.eval x= .slice none 0 0/\ys=[])\/∃ ad cap,a.eval x= .slice (some ad) ys.length cap/\∀ j v,f[j]? =some v->w.cell? (ad.add j)=some v):=by
 have h1:=ev_rel hx rel;cases hev:S.ev sx with
 | p v=>
  rw [hev] at hel h1;cases v with
  | sl sz' xs=>
   simp only [St.elemsS,Option.some.injEq,Prod.mk.injEq] at hel;obtain ⟨rfl,rfl⟩:=hel;subst hc;obtain ⟨f,f1,f2⟩:=(p_inv h1).flat;refine ⟨f,.of_flat f1,?_⟩;rcases f2 with ⟨a0,h2,rfl⟩ | ⟨g,off,cap,h2,h3,h4,h5⟩
   . cases a0 with
     | none=>exact .inl ⟨h2,rfl⟩
     | some a0=>
      refine .inr ⟨a0,0,h2,λj v hj=>?_⟩;have hl:=f1.length;rw [List.length_nil,Nat.zero_mul] at hl;rw [List.length_eq_zero_iff.1 hl] at hj;simp at hj
   . exact .inr ⟨⟨g,off,none⟩,cap,by simpa using h2,λj v hj=>by rw [Addr.add_lit]; exact h5 j v hj⟩
  | _=>simp [St.elemsS] at hel
 | own r g off len=>
  rw [hev] at hel h1;simp only [St.elemsS] at hel;split at hel
  . rename_i T' xs hobj;simp only [Option.some.injEq,Prod.mk.injEq] at hel;obtain ⟨rfl,rfl⟩:=hel;obtain ⟨hg,hle⟩:=hc;have h2:=own_inv h1 hg;obtain ⟨flat,hown,hflat⟩:=H.obj r _ hobj;have hw:(S.h r).width=1:=by simp [HC.width,hobj,HObj.width]
    rw [hw] at h2;have hf:=(hflat.drop off).take len;have hlen:((xs.drop off).take len).length=len:=by simp; omega
    rcases hown.2 with ⟨hnil,hn⟩ | ⟨b',cap,cur,hbase,hB,hheap,hcap,hmax,hcur,htake⟩
    . rw [hnil] at h2; simp only [SubOf] at h2;obtain ⟨hval,rfl,rfl⟩:=h2;exact ⟨_,hf,.inl ⟨hval,by simp⟩⟩
    . rw [hbase] at h2;simp only [SubOf] at h2;obtain ⟨b,c,hval,hlc,hc⟩:=h2;refine ⟨_,hf,.inr ⟨⟨b',b,none⟩,c,by rw [hlen]; exact hval,λj v hj=>?_⟩⟩;have hj0:=hj;rw [List.getElem?_take] at hj;split at hj
      . rename_i hjlt;rw [List.getElem?_drop] at hj;rcases hc with hc | ⟨hc,hc'⟩
        . have hl0:len=0:=by omega
          rw [hl0] at hjlt; omega
        . subst hc;rw [Addr.add_lit];have:=rangeAt_of_row hheap 0 flat (λi c hc=>by
           rw [<- htake,List.getElem?_take] at hc;split at hc
           . simpa using hc
           . cases hc)
          have:=this _ _ hj
          simpa using this
      . cases hj
  . cases hel
 | _=>rw [hev] at hel; simp [St.elemsS] at hel
theorem RelSt.app_X {a:Act} {w w':World} (hR:RelSt A w0 n S a w) {μ:Nat->Value} (H:HeapOK A w w0 μ S.h)
 (rel:∀ t,RelS w (okOf A w μ S.h) μ S.h (S.σ t) (a.tmps.getD t undef)) (hd:∀ t,o.dst=some t->t<n) {r:Nat} {T:TypeId} {ob:HObj} {xs':List SV} {flat':List Value} {v v':Value}
 (hobj:(S.h r).o=some ob) (hv:blk v=blk (μ r)) (hres:AppRes w w0.B T 1 xs'.length flat' v v' w') (hf:RelCells w (okOf A w μ S.h) μ S.h xs' flat') (hclo:1000<=r->∀ q∈xs'.flatMap svref,1000<=q):
 RelSt A w0 n ((S.heap (some (r,⟨(S.h r).g+1,some (.rows T xs')⟩))).put o.dst (.own r ((S.h r).g+1) 0 xs'.length)) (a.put o.dst v') w':=by
 have hlive:(S.h r).o≠none:=by rw [hobj]; simp
 have hBb:∀ b,blk (μ r)=some b->w0.B b:=λb hb=>((H.obj r _ hobj).lt hb).1;obtain ⟨H',k⟩:=H.changeX (w':=w') r ⟨(S.h r).g+1,some (.rows T xs')⟩ v' hres.grown.size
  (λb hb hne=>hres.grown.block b hb (λe=>hne hlive (by rw [<- hv,<-e])))
  (λb _ hb=>by
   rcases hres.at_ with h1 | h1
   . exact .inl ⟨hlive,by rw [<- hv,<-h1]; exact hb⟩
   . rw [h1] at hb; simp at hb; exact .inr (by omega))
  (λob hob K=>by
   simp only [Option.some.injEq] at hob; subst hob;exact ⟨flat',hres.own,hf.keep K⟩) (.inl (by simp)) (λob hob _=>by
   simp only [Option.some.injEq] at hob; subst hob;exact hclo)
 have hbelow:BelowX w0 w':=⟨hres.grown.os.trans hR.below.os,hres.grown.tape.trans hR.below.tape,hres.grown.output.trans hR.below.output,Nat.le_trans hR.below.size hres.grown.size,λb hb=>(hres.grown.block b (by
  have h1:¬ w0.w.heap.size<=b:=λe=>hb (.inl e);have:=hR.below.size;omega) (λe=>hb (hBb b (by rw [<- hv,<-e])))).trans (hR.below.block b hb)⟩
 refine RelSt.put' rel hR.size hR.defers hR.new H' k hbelow hd ?_;refine .own _ _ _ _ _ (by simp) ?_;simp only [upd_same];rcases hres.own.2 with ⟨hnil,hn⟩ | ⟨b',cap,cur,hbase,hB,hheap,hcap,hmax,hcur,htake⟩
 . rw [hnil,hn]; simp [SubOf]
 . rw [hbase];exact ⟨_,_,rfl,hcap,.inr ⟨by simp,by omega⟩⟩
theorem append_cells (hd:∀ t,o.dst=some t->t<n) {T e:TypeId} {c:Call} {x y:Operand} {sx sy:SX} {zv:V} {ti:TypeInfo} {T1 T2:TypeId} {r g len:Nat} {xs ys:List SV} {cy:Prop} {ob:HObj}
 (ho:o.op= .call c) (hc:c.callee= .builtin .append) (ha:c.args.toList=[x,y]) (ht:c.argTypes.toList=[T,T]) (hT:P.underlying T=some (.slice e))
 (hsz:szOf P e=some none) (hzv:zeroV P e=some zv) (hti:P.info? e=some ti) (hx:slimX P T1 x=some sx) (hy:slimX P T2 y=some sy)
 (hev:S.ev sx= .own r g 0 len) (hel:S.elemsS (S.ev sy)=some (cy,ys)) (hcy:cy) (hobj:(S.h r).o=some ob) (hwd:(S.h r).width=1)
 (hcs:∀ w μ,HeapOK A w w0 μ S.h->∃ flat,owns w w0.B e 1 (μ r) xs.length flat/\RelCells w (okOf A w μ S.h) μ S.h xs flat)
 (hrf:1000<=r->∀ x∈xs,∀ q∈svref x,∀ w μ,HeapOK A w w0 μ S.h->1000<=q) (hg:g=(S.h r).g) (hle:len<=xs.length)
 (hb:(len+ys.length)*ti.bytes<=2^47) (h47:len+ys.length<=2^47) (hclo:cloC r ys):
 OpOK P A w0 n o S ((S.heap (some (r,⟨g+1,some (.rows e (xs.take len++ys))⟩))).put o.dst (.own r (g+1) 0 (len+ys.length))):=by
 intro a w hR;obtain ⟨μ,H,rel⟩:=hR.ex;obtain ⟨sz',ti',z,z',hs',hi,hz,hzc,hsh,hrel⟩:=zeroV_spec hzv;rw [hsz,Option.some.injEq] at hs'; subst hs';rw [hti,Option.some.injEq] at hi; subst hi;obtain ⟨d,ti',_,hi',hsize,_⟩:=szOf_spec hsz;rw [hti,Option.some.injEq] at hi'; subst hi';have hzs:z.cells.size=width none:=by rw [<- hzc]; exact hsh.size
 have h1:=ev_rel hx rel;rw [hev] at h1;have h2:=own_inv h1 hg;rw [hwd] at h2;obtain ⟨flat,hown,hflat⟩:=hcs w μ H;obtain ⟨hpre,hblk⟩:=own_prefix (sz:=none) hown h2 hle;obtain ⟨f,f1,f2⟩:=elemsX_rel hy hel hcy H rel;have hfl:=f1.1;have hB:w0.B w.heap.size:=.inl hR.below.size;obtain ⟨v',w',hr,hres⟩:=run_app hT hti hz hsize hzs (by simp [width]) hB hpre o.type (a.eval y) ys.length f (by simpa [width] using hfl) f1.ones
  (by rcases f2 with ⟨h,rfl⟩ | h
      . exact .inl ⟨h,rfl⟩
      . exact .inr h) hb h47
 have ha':c.args=#[x,y]:=by apply Array.ext'; simpa using ha
 have ht':c.argTypes=#[T,T]:=by apply Array.ext'; simpa using ht
 have hrun:(execOp a.eval o).run P w= .ok (.value v') w':=by
  rw [execOp,ho];simp [resolve,hc,ha',ht',invoke,builtin,hr]
 subst hg;refine ⟨_,_,hrun,.inl ⟨_,rfl,?_⟩⟩;have hlen:(xs.take len++ys).length=len+ys.length:=by simp; omega
 have hf':RelCells w (okOf A w μ S.h) μ S.h (xs.take len++ys) (flat.take (len*width none)++f):=by
  rw [width_none,Nat.mul_one]; exact (hflat.take len).append f1
 rw [<- hlen] at hres ⊢;refine hR.app_X H rel hd hobj hblk hres hf' λh1 q hq=>?_;simp only [List.mem_flatMap,List.mem_append] at hq;obtain ⟨y',hy',hq⟩:=hq;rcases hy' with h2 | h2
 . exact hrf h1 y' (List.mem_of_mem_take h2) q hq w μ H
 . exact hclo h1 y' h2 q hq
theorem okX_slice (hd:∀ t,o.dst=some t->t<n) {T e:TypeId} {x:Operand} {sx:SX} {lo hi:Option Operand} {slo shi:Option SX} {r g off len:Nat} {l h:Int} {T1:TypeId}
 (ho:o.op= .slice T x lo hi none) (hT:P.underlying T=some (.slice e)) (hsz:szOf P e=some none) (hx:slimX P T1 x=some sx) (hlo:slimO P lo=some slo) (hhi:slimO P hi=some shi)
 (hev:S.ev sx= .own r g off len) (hl:lowV 0 (slo.map S.ev)=some l) (hh:lowV len (shi.map S.ev)=some h) (h0:0<=l) (h1:l<=h) (h2:h<=len)
 (hg:g=(S.h r).g) {T':TypeId} {xs:List SV} (hobj:(S.h r).o=some (.rows T' xs)):
 OpOK P A w0 n o S (S.put o.dst (.own r g (off+l.toNat) (h.toNat-l.toNat))):=
 pure_ok hd λa w μ H rel=>by
  have h3:=ev_rel hx rel;rw [hev] at h3;have h4:=own_inv h3 hg;have hw:(S.h r).width=width none:=by simp [HC.width,hobj,HObj.width,width]
  rw [hw] at h4;obtain ⟨flat,hown,hflat⟩:=H.obj r _ hobj;rcases hown.2 with ⟨hnil,hn⟩ | ⟨b',cap,cur,hbase,hB,hheap,hcap,hmax,hcur,htake⟩
  . rw [hnil] at h4; simp only [SubOf] at h4;obtain ⟨hval,rfl,rfl⟩:=h4;have hl0:l.toNat=0:=by omega
    have hh0:h.toNat=0:=by omega
    have hb:=bounds_run (P:=P) (A:=A) (S:=S) (cap:=0) hlo hhi true hl hh h0 h1 h2 (by simp) rel;rw [hl0,hh0] at hb;refine ⟨.slice none 0 0,?_,.own _ _ _ _ _ hg (by rw [hnil]; simp [SubOf,hl0,hh0])⟩;rw [execOp,ho];simp [hval,Instr.sliceAt,Instr.slice,run_underlying hT,hb,run_sz hsz]
  . rw [hbase] at h4;simp only [SubOf] at h4;obtain ⟨bo,c,hval,hlc,hc⟩:=h4;have hb:=bounds_run (P:=P) (A:=A) (S:=S) (cap:=c) hlo hhi true hl hh h0 h1 h2 hlc rel;refine ⟨.slice (if c=l.toNat then some ⟨b',bo,none⟩ else some ⟨b',bo+l.toNat*width none,none⟩) (h.toNat-l.toNat) (c-l.toNat),?_,.own _ _ _ _ _ hg ?_⟩
    . rw [execOp,ho];simp [hval,Instr.sliceAt,Instr.slice,run_underlying hT,hb,run_sz hsz,Addr.add_lit]
    . rw [hbase,hw];simp only [SubOf];by_cases hcl:c=l.toNat
      . rw [if_pos hcl];refine ⟨_,_,rfl,by omega,?_⟩;rcases hc with hc | ⟨hc,hc'⟩
        . exact .inl (by omega)
        . by_cases h0:cap=0
          . refine .inr ⟨?_,by omega⟩;have e0:off=0:=by omega
            have e1:l.toNat=0:=by omega
            rw [hc,e0,e1]
          . exact .inl (by omega)
      . rw [if_neg hcl];rcases hc with hc | ⟨hc,hc'⟩
        . omega
        . subst hc;exact ⟨_,_,rfl,by omega,.inr ⟨by simp [Nat.add_mul],by omega⟩⟩
theorem okX_fieldAddr (hd:∀ t,o.dst=some t->t<n) {T T':TypeId} {x:Operand} {sx:SX} {f:Nat} {fs:Array Field} {fl:Field} {sz:Option Nat} {r g j:Nat} {cs:List SV} {T1:TypeId}
 (ho:o.op= .fieldAddr T x f) (hx:slimX P T1 x=some sx) (hT:P.underlying T=some (.struct fs)) (hf:fs[f]? =some fl) (hsz:szOf P fl.type=some sz) (hpos:sz≠some 0)
 (hev:S.ev sx= .ptr r g j) (hobj:(S.h r).o=some (.sbox T' cs)) (hg:g=(S.h r).g):OpOK P A w0 n o S (S.put o.dst (.ptr r g (j+fl.offset))):=
 pure_ok hd λa w μ H rel=>by
  have h1:=ev_rel hx rel;rw [hev] at h1;obtain ⟨b,hb,hval⟩:=ptr_inv h1 hg;have hw:(S.h r).width=1:=by simp [HC.width,hobj,HObj.width]
  rw [hw,Nat.mul_one] at hval;refine ⟨.pointer (some ⟨b,j+fl.offset,none⟩),?_,.ptr _ _ _ _ hg ⟨b,hb,by rw [hw]; simp⟩⟩;rw [execOp,ho];simp [hval,field_run hT hf hsz hpos]
theorem okX_field (hd:∀ t,o.dst=some t->t<n) {T:TypeId} {x:Operand} {sx:SX} {f:Nat} {fs:Array Field} {fl:Field} {sz:Option Nat} {cs:List SV} {T1:TypeId}
 (ho:o.op= .field T x f) (hx:slimX P T1 x=some sx) (hT:P.underlying T=some (.struct fs)) (hf:fs[f]? =some fl) (hsz:szOf P fl.type=some sz)
 (hev:S.ev sx= .agg cs) (hpk:partOkS cs fl.offset sz):OpOK P A w0 n o S (S.put o.dst (svPart cs fl.offset sz)):=
 pure_ok hd λa w μ H rel=>by
  have h1:=ev_rel hx rel;rw [hev] at h1;obtain ⟨hc,hval⟩:=agg_inv h1;generalize hvals:(a.eval x).cells=vals at hc hval;have hl:=hc.1;simp only [Array.length_toList] at hl;cases sz with
  | none=>
   obtain ⟨pv,v1,v2,v4⟩:=part_relX hc hpk;have h0:=v4 0 pv (by rw [one_cells v2]; rfl);refine ⟨pv,?_,v1⟩;simp only [Nat.add_zero,Array.getElem?_toList] at h0;rw [execOp,ho];simp [hval,Instr.field,run_underlying hT,hf,asAgg,part,run_isAgg hsz,h0]
  | some k=>
   have h1:=((hc.drop fl.offset).take k);refine ⟨.agg (vals.extract fl.offset (fl.offset+k)),?_,?_⟩
   . rw [execOp,ho];simp [hval,Instr.field,run_underlying hT,hf,asAgg,part,run_isAgg hsz,run_sz hsz,width]
   . have:=h1.pack;have e:(List.take k (List.drop fl.offset vals.toList)).toArray=vals.extract fl.offset (fl.offset+k):=by
      apply Array.ext';simp [List.drop_take]
     rw [e] at this;exact this
theorem okX_indexAddr (hd:∀ t,o.dst=some t->t<n) {T e T':TypeId} {x y:Operand} {sx sy:SX} {xs:List SV} {k:IntKind} {i:Int} {r g off len:Nat} {T1 T2:TypeId}
 (ho:o.op= .indexAddr T x y) (hT:P.underlying T=some (.slice e)) (hsz:szOf P e=some none) (hx:slimX P T1 x=some sx) (hy:slimX P T2 y=some sy)
 (hev:S.ev sx= .own r g off len) (hev':S.ev sy= .p (.i k i)) (hobj:(S.h r).o=some (.rows T' xs)) (hg:g=(S.h r).g) (h0:0<=i) (hlt:i<len):
 OpOK P A w0 n o S (S.put o.dst (.ptr r g (off+i.toNat))):=
 pure_ok hd λa w μ H rel=>by
  have h1:=ev_rel hx rel;rw [hev] at h1;have h2:=own_inv h1 hg;have h3:=ev_rel hy rel;rw [hev'] at h3;have h4:=p_inv h3;have hyv:a.eval y= .int k i:=by generalize a.eval y=yv at h4; cases h4; rfl
  have hw:(S.h r).width=width none:=by simp [HC.width,hobj,HObj.width,width]
  rw [hw] at h2;obtain ⟨flat,hown,hflat⟩:=H.obj r _ hobj;rcases hown.2 with ⟨hnil,hn⟩ | ⟨b',cap,cur,hbase,hB,hheap,hcap,hmax,hcur,htake⟩
  . rw [hnil] at h2; simp only [SubOf] at h2; omega
  . rw [hbase] at h2;simp only [SubOf] at h2;obtain ⟨b,c,hval,hlc,hc⟩:=h2;rcases hc with hc | ⟨hc,hc'⟩
    . omega
    . subst hc;refine ⟨.pointer (some ⟨b',(off+i.toNat)*width none,none⟩),?_,.ptr _ _ _ _ hg ⟨b',by rw [hbase]; rfl,by rw [hw]⟩⟩;rw [execOp,ho];simp [hval,hyv,Instr.indexAt,asIntOf,run_underlying hT,run_sz hsz,h0,hlt,Addr.add_lit,Nat.add_mul]
def Sound (P:Program) (A:Nat->Prop) (w0:Base) (n:Nat) (o:Oper) (S:St):AR->Prop
 | .v c x δ=>c->OpOK P A w0 n o S ((S.heap δ).put o.dst x)
 | _=>True
theorem pos_of {sz:Option Nat} (h:(sz != some 0)=true):0<width sz:=width_pos_list (by simpa using h)
theorem slimXs_length:∀ {xs:List Operand} {ts:List TypeId} {sx:List SX},slimXs P xs ts=some sx->sx.length=xs.length
 | [],_,_,h=>by simp only [slimXs,Option.some.injEq] at h; subst h; rfl
 | x::xs,ts,_,h=>by
  simp only [slimXs] at h;split at h
  . rename_i a r hx hr;simp only [Option.some.injEq] at h; subst h;simp [slimXs_length hr]
  . cases h
theorem callX_sound {c:Call} {so:SO} (ho:o.op= .call c) (hs:slimCall P o c=some so) (hd:∀ t,o.dst=some t->t<n):Sound P A w0 n o S (aopX S o.dst so):=by
 unfold slimCall at hs;split at hs
 . split at hs
   . simp only [Option.some.injEq] at hs; subst hs; trivial
   . cases hs
 . split at hs
   . split at hs
     . simp only [Option.map_eq_some_iff] at hs; obtain ⟨sx,hx,rfl⟩:=hs; trivial
     . simp only [Option.map_eq_some_iff] at hs; obtain ⟨sx,hx,rfl⟩:=hs; trivial
     . cases hs
   . cases hs
 . rename_i hc;split at hs
   . rename_i x y T T' ha ht;split at hs
     . rename_i e _ hT hT';split at hs
       . rename_i sz zv ti sx sy hsz hzv hti hx hy;split at hs
         . rename_i hcond;simp only [Option.some.injEq] at hs; subst hs;simp only [Bool.and_eq_true,beq_iff_eq] at hcond;obtain ⟨rfl,hpos⟩:=hcond;simp only [aopX];split
           . rename_i r g off len cy ys hev hel;split
             . rename_i T' xs hobj;rintro ⟨hcy,rfl,hg,rfl,rfl,hle,hb,h47,hclo⟩;refine append_cells (T:=T) (xs:=xs) hd ho hc ha ht hT hsz hzv hti hx hy hev hel hcy hobj (by simp [HC.width,hobj,HObj.width]) (λw μ H=>H.obj r _ hobj) (λh1 x hx q hq w μ H=>H.clo r _ hobj h1 q (List.mem_flatMap.2 ⟨x,hx,hq⟩)) hg hle hb h47 hclo
             . rename_i T' sz' xs hobj;rintro ⟨hcy,rfl,rfl,hg,rfl,rfl,hle,hb,h47,hclo⟩;refine append_cells (T:=T) (xs:=xs.map .p) hd ho hc ha ht hT hsz hzv hti hx hy hev hel hcy hobj (by simp [HC.width,hobj,HObj.width,width]) (λw μ H=>?_) (λh1 x hx q hq w μ H=>by
                obtain ⟨v,_,rfl⟩:=List.mem_map.1 hx;simp [svref] at hq) hg (by simpa using hle) hb h47 hclo
               obtain ⟨flat,f1,f2⟩:=H.obj r _ hobj;exact ⟨flat,by simpa [width_none] using f1,.of_flat f2⟩
             . trivial
           . trivial
         . cases hs
       . cases hs
     . split at hs
       . split at hs
         . simp only [Option.some.injEq] at hs; subst hs; trivial
         . cases hs
       . cases hs
     . cases hs
   . cases hs
 . split at hs
   . split at hs
     . split at hs
       . split at hs
         . simp only [Option.some.injEq] at hs; subst hs; trivial
         . cases hs
       . cases hs
     . cases hs
   . cases hs
 . split at hs
   . split at hs
     . simp only [Option.some.injEq] at hs; subst hs; trivial
     . cases hs
   . cases hs
 . split at hs
   . split at hs
     . simp only [Option.some.injEq] at hs; subst hs; trivial
     . cases hs
   . cases hs
 . cases hs
set_option maxHeartbeats 1000000 in
theorem opX_sound {so:SO} (hs:slimOp P o=some so) (hd:∀ t,o.dst=some t->t<n):Sound P A w0 n o S (aopX S o.dst so):=by
 cases so with
 | box T sx=>
  unfold slimOp slimMv slimCall at hs;split at hs
  case h_4=>
   rename_i T' x ho;simp only [Option.map_eq_some_iff,SO.box.injEq] at hs;obtain ⟨sx',hx,rfl,rfl⟩:=hs;simp only [aopX];split
   . rename_i cs d hev hdst; intro hclo; exact okX_box hd ho hx hev hdst hclo
   . trivial
  all_goals (exfalso; revert hs; (repeat' split)<;>simp)
 | build zs ps=>
  unfold slimOp slimMv slimCall at hs;split at hs
  case h_6=>
   rename_i T parts ho;split at hs
   . rename_i fs hT;split at hs
     . rename_i zs' ps' hz hps;split at hs
       . rename_i hof;simp only [Option.some.injEq,SO.build.injEq] at hs;obtain ⟨rfl,rfl⟩:=hs;intro hok;exact okX_build hd ho hT hz hps hof hok
       . cases hs
     . cases hs
   . cases hs
  all_goals (exfalso; revert hs; (repeat' split)<;>simp)
 | mkSl T sz xs=>
  unfold slimOp slimMv slimCall at hs;split at hs
  case h_7=>
   rename_i T' len parts ho;split at hs
   . rename_i e hT;split at hs
     . rename_i sz' zv xs' hsz hzv hxs;split at hs
       . rename_i hcond;simp only [Option.some.injEq,SO.mkSl.injEq] at hs;obtain ⟨rfl,rfl,rfl⟩:=hs;simp only [Bool.and_eq_true,beq_iff_eq,decide_eq_true_eq] at hcond;obtain ⟨⟨⟨hpos,hlen⟩,hrow⟩,hsmall⟩:=hcond;simp only [aopX];split
         . rename_i d hdst;rintro ⟨rfl,hf,hclo⟩;exact okX_mkSl hd ho hT hsz hzv hxs hlen hrow hsmall hf hclo
         . trivial
       . cases hs
     . cases hs
   . cases hs
  all_goals (exfalso; revert hs; (repeat' split)<;>simp)
 | load sz sx=>
  unfold slimOp slimMv slimCall at hs;split at hs
  case h_8=>
   rename_i T x ho;split at hs
   . rename_i sz' sx' hsz hx;simp only [Option.some.injEq,SO.load.injEq] at hs;obtain ⟨rfl,rfl⟩:=hs;simp only [aopX];split
     . rename_i r g j hev;split
       . rename_i T' xs hobj; rintro ⟨hg,rfl,hj⟩; exact okX_load_rows hd ho hsz hx hev hobj hg hj
       . rename_i T' cs hobj; rintro ⟨hg,hpk⟩; exact okX_load_sbox hd ho hsz hx hev hobj hg hpk
       . trivial
     . trivial
   . cases hs
  all_goals (exfalso; revert hs; (repeat' split)<;>simp)
 | store sz sx sy=>
  unfold slimOp slimMv slimCall at hs;split at hs
  case h_9=>
   rename_i T x y ho;split at hs
   . rename_i sz' sx' sy' hsz hx hy;simp only [Option.some.injEq,SO.store.injEq] at hs;obtain ⟨rfl,rfl,rfl⟩:=hs;simp only [aopX];split
     . rename_i r g j hev;split
       . rename_i T' xs hobj; rintro ⟨hg,rfl,hf,hj,hclo⟩; exact okX_store_rows hd ho hsz hx hy hev hobj hg hf hj hclo
       . rename_i T' cs hobj; rintro ⟨hg,hf,hle,hclo⟩; exact okX_store_sbox hd ho hsz hx hy hev hobj hg hf hle hclo
       . rename_i T' cs hobj; rintro ⟨hg,hf,hle,hclo⟩; exact okX_store_box hd ho hsz hx hy hev hobj hg hf hle hclo
       . trivial
     . trivial
   . cases hs
  all_goals (exfalso; revert hs; (repeat' split)<;>simp)
 | slice sz sx lo hi=>
  unfold slimOp slimMv slimCall at hs;split at hs
  case h_15=>
   rename_i T x lo' hi' ho;split at hs
   . rename_i e sx' slo shi hT hx hlo hhi;split at hs
     . rename_i sz' hsz;simp only [Option.some.injEq,SO.slice.injEq] at hs;obtain ⟨rfl,rfl,rfl,rfl⟩:=hs;simp only [aopX];split
       . rename_i r g off len l hev hl;split
         . rename_i T' xs h hobj hh; rintro ⟨hg,he,h0,h1,h2⟩;simp only [Option.some.injEq] at he; subst he;exact okX_slice hd ho hT hsz hx hlo hhi hev hl hh h0 h1 h2 hg hobj
         . trivial
       . trivial
     . cases hs
   . rename_i sx' slo shi hT hx hlo hhi;simp only [Option.some.injEq,SO.slice.injEq] at hs;obtain ⟨rfl,rfl,rfl,rfl⟩:=hs;simp only [aopX];split
     . split
       . rintro ⟨_,he,_⟩; cases he
       . trivial
     . trivial
   . cases hs
  all_goals (exfalso; revert hs; (repeat' split)<;>simp)
 | fieldAddr off sz sx=>
  unfold slimOp slimMv slimCall at hs;split at hs
  case h_16=>
   rename_i T x f ho;split at hs
   . rename_i fs sx' hT hx;split at hs
     . rename_i fl hf;split at hs
       . rename_i sz' hsz;split at hs
         . rename_i hpos;simp only [Option.some.injEq,SO.fieldAddr.injEq] at hs;obtain ⟨rfl,rfl,rfl⟩:=hs;simp only [aopX];split
           . rename_i r g j hev;split
             . rename_i T' cs hobj; intro hg; exact okX_fieldAddr hd ho hx hT hf hsz (by simpa using hpos) hev hobj hg
             . trivial
           . trivial
         . cases hs
       . cases hs
     . cases hs
   . cases hs
  all_goals (exfalso; revert hs; (repeat' split)<;>simp)
 | field off sz sx=>
  unfold slimOp slimMv slimCall at hs;split at hs
  case h_17=>
   rename_i T x f ho;split at hs
   . rename_i fs sx' hT hx;split at hs
     . rename_i fl hf;split at hs
       . rename_i sz' hsz;simp only [Option.some.injEq,SO.field.injEq] at hs;obtain ⟨rfl,rfl,rfl⟩:=hs;simp only [aopX];split
         . rename_i cs hev; intro hpk; exact okX_field hd ho hx hT hf hsz hev hpk
         . trivial
       . cases hs
     . cases hs
   . cases hs
  all_goals (exfalso; revert hs; (repeat' split)<;>simp)
 | indexAddr sz sx si=>
  unfold slimOp slimMv slimCall at hs;split at hs
  case h_18=>
   rename_i T x i ho;split at hs
   . rename_i e hT;split at hs
     . rename_i sz' sx' si' hsz hx hi;simp only [Option.some.injEq,SO.indexAddr.injEq] at hs;obtain ⟨rfl,rfl,rfl⟩:=hs;simp only [aopX];split
       . rename_i r g off len k m hev hev';split
         . rename_i T' xs hobj; rintro ⟨hg,rfl,h0,hlt⟩; exact okX_indexAddr hd ho hT hsz hx hi hev hev' hobj hg h0 hlt
         . trivial
       . trivial
     . cases hs
   . cases hs
  all_goals (exfalso; revert hs; (repeat' split)<;>simp)
 | append T sz bytes sx sy=>
  have ⟨c,ho,hc⟩:∃ c,o.op= .call c/\slimCall P o c=some (.append T sz bytes sx sy):=by
   unfold slimOp slimMv at hs;split at hs
   case h_22=>rename_i c ho; exact ⟨c,ho,hs⟩
   all_goals (exfalso; revert hs; (repeat' split)<;>simp)
  exact callX_sound ho hc hd
 | _=>trivial
theorem slimXs_rel {a:Act} {w:World} {μ:Nat->Value} (rel:∀ t,RelS w (okOf A w μ S.h) μ S.h (S.σ t) (a.tmps.getD t undef)):
 ∀ {xs:List Operand} {ts:List TypeId} {sx:List SX},slimXs P xs ts=some sx->∀ j (hj:j<sx.length),RelS w (okOf A w μ S.h) μ S.h (S.ev (sx[j])) ((xs.map a.eval).getD j undef)
 | [],_,_,h,j,hj=>by simp only [slimXs,Option.some.injEq] at h; subst h; simp at hj
 | x::xs,ts,_,h,j,hj=>by
  simp only [slimXs] at h;split at h
  . rename_i s r hx hr;simp only [Option.some.injEq] at h; subst h;cases j with
    | zero=>simpa [List.getD] using ev_rel hx rel
    | succ j=>simpa [List.getD] using slimXs_rel rel hr j (by simpa using hj)
  . cases h
theorem pack_rel {w:World} {ok:Nat->Prop} {μ:Nat->Value} {h:Nat->HC}:∀ {svs:List SV} {vs:List Value},vs.length=svs.length->
 (∀ j (hj:j<svs.length),RelS w ok μ h (svs[j]) (vs.getD j undef))->RelS w ok μ h (packSV svs) (packed vs)
 | [x],[v],_,h=>by simpa [packed,packSV] using h 0 (by simp)
 | [],[],_,_=>.tup _ _ rfl (by simp)
 | r1::r2::rest,v1::v2::vr,hl,h=>by
  simp only [packSV,packed];refine .tup _ _ (by simpa using hl) λj hj=>?_;have:=h j hj
  simpa [Array.getD_eq_getD_getElem?,List.getD] using this
 | [_],[],hl,_=>by simp at hl
 | [_],_::_::_,hl,_=>by simp at hl
 | [],_::_,hl,_=>by simp at hl
 | _::_::_,[],hl,_=>by simp at hl
 | _::_::_,[_],hl,_=>by simp at hl
theorem callX_wp {c:Call} {fx:Operand} {args:List SX} {sf:SX} (ho:o.op= .call c) (hcal:c.callee= .value fx) (hf:slimX P 0 fx=some sf) (hargs:slimXs P c.args.toList c.argTypes.toList=some args)
 (hd:∀ t,o.dst=some t->t<n) {id0:FuncId} {caps:List V} (hev:S.ev sf= .p (.clo id0 caps)) {K:St->Prop} (h:HCall P id0 (args.map S.ev++caps.map .p) K S o.dst)
 {a:Act} {w:World} (hR:RelSt A w0 n S a w)
 {K':Act->World->Prop} {Q:Exit->Act->World->Prop} (hk:∀ S' a' w',K S'->RelSt A w0 n S' a' w'->K' a' w'):o.wp P a w K' Q:=by
 obtain ⟨μ,H,rel⟩:=hR.ex;obtain ⟨fp,R,hfp,hFr,hK⟩:=h;have hfv:=p_of hf hev rel;have ⟨cv,hcv,hcl,hcr⟩:∃ cv:Array Value,a.eval fx= .func (.func id0) #[] cv/\cv.size=caps.length/\∀ j (h:j<caps.length),RelV w (okOf A w μ S.h) (caps[j]) (cv.getD j undef):=by
  generalize a.eval fx=fv at hfv;cases hfv with
  | clo _ _ vals hlen hr=>exact ⟨vals,rfl,hlen,hr⟩
 have hrun:(execOp a.eval o).run P w=(callFunc id0 (c.args.map a.eval++cv)).run P w:=by
  simp only [execOp,ho,resolve,hcal,hcv,Deferred.ofValue,Sem.run_bind,Sem.run_pure,Result.andThen_ok,invoke];simp
 have hal:args.length=c.args.size:=by simpa using slimXs_length hargs
 have hcx:=hFr S.h (λ_ _=>rfl) A w0 w μ (c.args.map a.eval++cv) H hR.new hR.below.size (by simp [hal,hcl]) (λj hj=>by
  by_cases hjl:j<args.length
  . have:=slimXs_rel rel hargs j hjl;rw [List.getElem_append_left (by simpa using hjl),List.getElem_map];have hja:j<c.args.size:=by omega
    simpa [Array.getD_eq_getD_getElem?,List.getD,Array.getElem?_append,hja] using this
  . have hj2:j-args.length<caps.length:=by simp at hj; omega
    have:=hcr (j-args.length) hj2;rw [List.getElem_append_right (by simpa using hjl)];have hja:¬ j<c.args.size:=by omega
    simp only [List.getElem_map,List.length_map];refine .p _ _ ?_
    simpa [Array.getD_eq_getD_getElem?,Array.getElem?_append,hja,hal] using this)
 have fin:∀ e w',(∃ h' svs vs μ',(∃ δ,R δ svs/\(∀ x∈δ,x.1∈fp)/\h'=patch S.h δ)/\e=Ending.returned (packed vs)/\HeapOK A w' w0 μ' h'/\Keeps A w μ S.h w' μ' h'/\BelowH w0.B w w'/\vs.length=svs.length/\
  ∀ j (hj:j<svs.length),RelS w' (okOf A w' μ' h') μ' h' (svs[j]) (vs.getD j undef))->∃ vs,e= .returned (packed vs)/\K' (a.put o.dst (packed vs)) w':=by
  rintro e w' ⟨h',svs,vs,μ',⟨δ,hr,hin,rfl⟩,rfl,H',hkeep,hb,hl,hrel⟩;refine ⟨vs,rfl,hk _ _ _ (hK δ svs hr hin) ?_⟩;exact RelSt.put' rel hR.size hR.defers hR.new H' hkeep ⟨hb.os.trans hR.below.os,hb.tape.trans hR.below.tape,hb.output.trans hR.below.output,Nat.le_trans hR.below.size hb.size,
   λk hk=>(hb.block k hk).trans (hR.below.block k hk)⟩ hd (pack_rel hl hrel)
 unfold Oper.wp;rw [hrun];rcases hcx with ⟨hc1,hc2⟩ | ⟨v,hc1,hres⟩
 . rw [hc1];simp only [Oper.upon];refine hc2.mono ?_;rintro e w' hres;obtain ⟨vs,rfl,hq⟩:=fin e w' hres;exact hq
 . rw [hc1];obtain ⟨vs,he,hq⟩:=fin _ _ hres;simp only [Ending.returned.injEq] at he;subst he;exact hq
end
end Go.Vw
