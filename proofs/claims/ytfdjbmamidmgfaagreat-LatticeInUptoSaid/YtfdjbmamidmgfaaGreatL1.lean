/- From a contract on plain values to a statement's row: how arguments are read, and what is left as it was. It names no program. -/
import Derived.Test.YtfdjbmamidmgfaaGreatVB
import Derived.ChangeSlices
import Derived.ChangeMaps5
import Derived.OpenShut
import Derived.Carry
set_option linter.unusedVariables false
set_option linter.unusedSimpArgs false
namespace Go.Vw
open Go.ChangeShapes Go.WideShapes
open Go.RowKit (Below)
section
variable {H:Type} {enc:TypeId × Value->H} {P:Program} {w:World}
theorem nats_of {zs:List Int} (h:∀ z∈zs,(Lit.int .u64 z).wf=true):∃ l:List Nat,zs=l.map (λx:Nat=>(x:Int))/\∀ x∈l,x<18446744073709551616:=by
 induction zs with
 | nil=>exact ⟨[],rfl,by simp⟩
 | cons z r ih=>
  obtain ⟨l,rfl,hl⟩:=ih λx hx=>h x (by simp [hx]);have hz:=h z (by simp);simp [Lit.wf,IntKind.min,IntKind.max,IntKind.signed,IntKind.bits] at hz;refine ⟨z.toNat::l,by simp; omega,λx hx=>?_⟩;rcases List.mem_cons.1 hx with rfl | hx
  . omega
  . exact hl x hx
theorem Spec.said {f : FuncId} {fn : Func} {args : List V} (h : Spec P f args (· = [.pure (.b true)])) (hf : P.funcs[f]? = some fn) (hb : fn.body.isSome = true) (hname : (fn.name == "runtime.NumGoroutine") = false)
 {vals:Array Value} (hrel:ArgRel w (λb=>b<w.heap.size) args vals):Calls P f vals w λe w'=>e= .returned (.bool true)/\Below w.heap.size w w':=by
 rcases h w (λb=>b<w.heap.size) vals (λ_ h=>h) hrel with ⟨_,hc⟩ | ⟨v,hv,_⟩
 . refine hc.mono ?_;rintro e w' ⟨rvs,vs,rfl,rfl,hbel,hret⟩;refine ⟨?_,hbel⟩;have h0:=hret.rel 0 _ rfl;have hl:=hret.len
   match vs,hl with
   | [x],_=>
    have h0':RelV w' (okR (λb=>b<w.heap.size) w w' [.pure (.b true)] [x]) (.b true) x:=h0;cases h0'; rfl
 . rw [enters_run hf hb hname] at hv;cases hv
theorem argRel2 {ok:Nat->Prop} {v0 v1:V} {a0 a1:Value} (h0:RelV w ok v0 a0) (h1:RelV w ok v1 a1):ArgRel w ok [v0,v1] #[a0,a1]:=by
 refine ⟨rfl,λj hj=>?_⟩
 match j,hj with
 | 0,_=>exact h0
 | 1,_=>exact h1
end
end Go.Vw
