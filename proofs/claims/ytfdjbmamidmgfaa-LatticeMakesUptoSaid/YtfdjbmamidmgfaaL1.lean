/- From a contract on plain values to a statement's row: how arguments are read, and what is left as it was. It names no program. -/
import Derived.Test.YtfdjbmamidmgfaaVB
import Derived.ChangeSlices
import Derived.ChangeMaps5
import Derived.OpenShut
import Derived.Carry
set_option linter.unusedVariables false
set_option linter.unusedSimpArgs false
namespace Go.Vw
open Go.ChangeShapes Go.WideShapes
open Go.RowKit (Below)
section
variable {H:Type} {enc:TypeId × Value->H} {P:Program} {w:World}
theorem open_row {b0:Nat} {t e:TypeId} {k:IntKind} {v:Value} {d:DataW H} {ps:List MemPlace} (ht:P.underlying t=some (.slice e)) (he:P.underlying e=some (.int k)) (hc:P.cellsOf e=1)
 (hval:Value.okWide P w .any b0 t v) (hd:DataW.Trod enc P w 0 (fun _=>true) true t v d ps):
 ∃ zs:List Int,RelV w (fun b=>b<w.heap.size) (.sl none (zs.map fun z=>V.i k z)) v/\(∀ z∈zs,(Lit.int k z).wf=true)/\(zs=[]\/∃ spare,d= .slice (lits k zs) spare):=by
 obtain ⟨a0,len,cap,rfl⟩:=okWide_slice ht hval;obtain ⟨fuel,hf⟩:=hd;rcases open_ints ht he hc hf with ⟨hcs,hx⟩ | ⟨a,len',cap',zs,hcs,_,hl,hm,hz,hx,hcell,hwz⟩
 . simp [Value.cells] at hcs;obtain ⟨rfl,rfl,rfl⟩:=hcs;exact ⟨[],.nil _,by simp,.inl rfl⟩
 . simp [Value.cells] at hcs;obtain ⟨rfl,rfl,rfl⟩:=hcs;simp only [Prod.mk.injEq] at hx;obtain ⟨rfl,rfl⟩:=hx;simp only [if_true] at hz;simp only [Value.okWide,ht,Cell.okWide,Cell.ok,World.has] at hval;obtain ⟨_,_,_,hspot,row,cells,hshape,_⟩:=hval;obtain ⟨blk,off,spot⟩:=a;simp only at hspot; subst hspot;have hb:blk<w.heap.size:=by
    simp only [World.shape?] at hshape;by_cases h:blk<w.heap.size
    . exact h
    . simp [Array.getElem?_eq_none (Nat.le_of_not_lt h)] at hshape
   refine ⟨zs.take len,.sl none _ blk off len cap (fun j=>.int k (zs.getD j 0)) (by simp; omega) hb hl (fun j hj=>?_) (fun j _=>rfl) (fun j hj=>?_),fun z hz=>hwz z (List.mem_of_mem_take hz),.inr ⟨_,rfl⟩⟩
   . have hj':j<len/\j<zs.length:=by simp at hj; omega
     simp only [List.getElem_map,List.getElem_take];rw [show zs.getD j 0=zs[j] by simp [List.getD,hj'.2]];exact .i _ _
   . have hj':j<len/\j<zs.length:=by simp at hj; omega
     intro i v hi;simp only [Value.cells] at hi;cases i with
     | zero=>
      simp at hi; subst hi;have:=hcell j hj'.2;rw [Addr.add_mid] at this
      simpa [width] using this
     | succ i=>simp at hi
theorem nats_of {zs:List Int} (h:∀ z∈zs,(Lit.int .u64 z).wf=true):∃ l:List Nat,zs=l.map (fun x:Nat=>(x:Int))/\∀ x∈l,x<18446744073709551616:=by
 induction zs with
 | nil=>exact ⟨[],rfl,by simp⟩
 | cons z r ih=>
  obtain ⟨l,rfl,hl⟩:=ih fun x hx=>h x (by simp [hx]);have hz:=h z (by simp);simp [Lit.wf,IntKind.min,IntKind.max,IntKind.signed,IntKind.bits] at hz;refine ⟨z.toNat::l,by simp; omega,fun x hx=>?_⟩;rcases List.mem_cons.1 hx with rfl | hx
  . omega
  . exact hl x hx
theorem Spec.said {f : FuncId} {fn : Func} {args : List V} (h : Spec P f args (· = [.pure (.b true)])) (hf : P.funcs[f]? = some fn) (hb : fn.body.isSome = true) (hname : (fn.name == "runtime.NumGoroutine") = false)
 {vals:Array Value} (hrel:ArgRel w (fun b=>b<w.heap.size) args vals):Calls P f vals w fun e w'=>e= .returned (.bool true)/\Below w.heap.size w w':=by
 rcases h w (fun b=>b<w.heap.size) vals (fun _ h=>h) hrel with ⟨_,hc⟩ | ⟨v,hv,_⟩
 . refine hc.mono ?_;rintro e w' ⟨rvs,vs,rfl,rfl,hbel,hret⟩;refine ⟨?_,hbel⟩;have h0:=hret.rel 0 _ rfl;have hl:=hret.len
   match vs,hl with
   | [x],_=>
    have h0':RelV w' (okR (fun b=>b<w.heap.size) w w' [.pure (.b true)] [x]) (.b true) x:=h0;cases h0'; rfl
 . rw [enters_run hf hb hname] at hv;cases hv
theorem argRel0 {ok:Nat->Prop}:ArgRel w ok [] #[]:=⟨rfl,fun j hj=>by simp at hj⟩
theorem argRel1 {ok:Nat->Prop} {v0:V} {a0:Value} (h0:RelV w ok v0 a0):ArgRel w ok [v0] #[a0]:=by
 refine ⟨rfl,fun j hj=>?_⟩
 match j,hj with
 | 0,_=>exact h0
theorem argRel2 {ok:Nat->Prop} {v0 v1:V} {a0 a1:Value} (h0:RelV w ok v0 a0) (h1:RelV w ok v1 a1):ArgRel w ok [v0,v1] #[a0,a1]:=by
 refine ⟨rfl,fun j hj=>?_⟩
 match j,hj with
 | 0,_=>exact h0
 | 1,_=>exact h1
theorem argRel3 {ok:Nat->Prop} {v0 v1 v2:V} {a0 a1 a2:Value} (h0:RelV w ok v0 a0) (h1:RelV w ok v1 a1) (h2:RelV w ok v2 a2):ArgRel w ok [v0,v1,v2] #[a0,a1,a2]:=by
 refine ⟨rfl,fun j hj=>?_⟩
 match j,hj with
 | 0,_=>exact h0
 | 1,_=>exact h1
 | 2,_=>exact h2
theorem argRel4 {ok:Nat->Prop} {v0 v1 v2 v3:V} {a0 a1 a2 a3:Value} (h0:RelV w ok v0 a0) (h1:RelV w ok v1 a1) (h2:RelV w ok v2 a2) (h3:RelV w ok v3 a3):ArgRel w ok [v0,v1,v2,v3] #[a0,a1,a2,a3]:=by
 refine ⟨rfl,fun j hj=>?_⟩
 match j,hj with
 | 0,_=>exact h0
 | 1,_=>exact h1
 | 2,_=>exact h2
 | 3,_=>exact h3
end
end Go.Vw
