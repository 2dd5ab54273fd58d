/- How an argument of type api.Int (a sign and a row of limbs) is read. It names no program. -/
import Derived.Test.YtfdjbmamidmgfaaL1
import Derived.RowKit
set_option linter.unusedVariables false
set_option linter.unusedSimpArgs false
namespace Go.Vw
open Go.ChangeShapes Go.WideShapes
open Go.RowKit (Below)
section
variable {H:Type} {enc:TypeId × Value->H} {P:Program} {w:World}
theorem open_sign {b0:Nat} {t tb tr e:TypeId} {f0 f1:Field} {k:IntKind} {v:Value} {d:DataW H} {ps:List MemPlace}
 (ht:P.underlying t=some (.struct #[f0,f1])) (h0:f0.offset=0/\f0.type=tb) (h1:f1.offset=1/\f1.type=tr) (hC:P.cellsOf t=2) (hc0:P.cellsOf tb=1) (hc1:P.cellsOf tr=1)
 (hts:P.cellTypes P.depth t=some [tb,tr]) (hb:P.underlying tb=some .bool) (hr:P.underlying tr=some (.slice e)) (he:P.underlying e=some (.int k)) (hce:P.cellsOf e=1)
 (hval:Value.okWide P w .any b0 t v) (hd:DataW.Trod enc P w 0 (fun _=>true) true t v d ps):
 ∃ (n:Bool) (zs:List Int) (y:DataW H),RelV w (fun b=>b<w.heap.size) (.agg [.b n,.sl none (zs.map fun z=>V.i k z)]) v/\(∀ z∈zs,(Lit.int k z).wf=true)/\
  d= .agg [.lit (.bool n),y]/\(zs=[]\/∃ spare,y= .slice (lits k zs) spare):=by
 have hval':=hval;simp only [Value.okWide,ht] at hval';obtain ⟨cs,rfl,hcs,ts,hts',_,hcell⟩:=hval';rw [hts] at hts';cases hts';rw [hC] at hcs;obtain ⟨fuel,hf⟩:=hd;obtain ⟨y0,y1,n,hx,_,t0,t1⟩:=trod_struct2 ht hf;simp only [Prod.mk.injEq] at hx;obtain ⟨rfl,rfl⟩:=hx;rw [h0.1,h0.2,hc0] at t0;rw [h1.1,h1.2,hc1] at t1
 match cs,hcs with
 | ⟨[v0,v1]⟩,_=>
  simp only [Value.cells,List.drop_zero,List.take_succ_cons,List.take_zero,List.drop_succ_cons] at t0 t1;obtain ⟨b,hv0,hy0⟩:=DataW.trod_bool hb t0;simp only [List.cons.injEq,and_true] at hv0;subst hv0;subst hy0;have hv1:Value.okWide P w .any b0 tr v1:=by
   obtain ⟨u,hu,hc⟩:=hcell 1 v1 (by simp);simp at hu;subst hu
   simpa [Value.okWide,hr] using hc
  have hone:v1.cells=#[v1]:=by
   obtain ⟨a,len,cap,rfl⟩:=okWide_slice hr hv1;rfl
  obtain ⟨zs,rel,wf,hd⟩:=open_row (enc:=enc) (d:=y1.1) (ps:=y1.2) hr he hce hv1 ⟨n,by rw [hone]; exact t1⟩;refine ⟨b,zs,y1.1,.agg _ _ rfl (fun c hc=>?_) (fun j hj=>?_),wf,rfl,hd⟩
  . rcases List.mem_cons.1 (Array.mem_toList_iff.2 hc) with rfl | h
    . rfl
    . rcases List.mem_cons.1 h with rfl | h
      . obtain ⟨a,len,cap,rfl⟩:=okWide_slice hr hv1;rfl
      . cases h
  . match j,hj with
    | 0,_=>exact .b _
    | 1,_=>exact rel
theorem argRel5 {ok:Nat->Prop} {v0 v1 v2 v3 v4:V} {a0 a1 a2 a3 a4:Value} (h0:RelV w ok v0 a0) (h1:RelV w ok v1 a1) (h2:RelV w ok v2 a2) (h3:RelV w ok v3 a3) (h4:RelV w ok v4 a4):ArgRel w ok [v0,v1,v2,v3,v4] #[a0,a1,a2,a3,a4]:=by
 refine ⟨rfl,fun j hj=>?_⟩
 match j,hj with
 | 0,_=>exact h0
 | 1,_=>exact h1
 | 2,_=>exact h2
 | 3,_=>exact h3
 | 4,_=>exact h4
end
end Go.Vw
