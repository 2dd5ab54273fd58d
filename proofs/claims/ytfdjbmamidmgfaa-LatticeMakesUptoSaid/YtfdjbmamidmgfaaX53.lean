/- The law LatticeMakes returns true for every argument of at most 1048576 values and letters. -/
import Derived.Test.YtfdjbmamidmgfaaML
import Derived.Test.YtfdjbmamidmgfaaL6
import Derived.Test.YtfdjbmamidmgfaaL1
import Derived.Test.YtfdjbmamidmgfaaL2
import Derived.Test.YtfdjbmamidmgfaaRows
import Derived.WalkKit
import Derived.ProofKit
import Derived.JoinedCond
import Derived.OpenShut
import Derived.Carry
import Derived.KernelRfl
set_option linter.unusedVariables false
set_option linter.unusedSimpArgs false
namespace Go.Proofs.Ytfdjbmamidmgfaa.latticeMakes
open Go.ChangeShapes Go.WideShapes Go.ChangeAt Go.RowKit Go.Vw Go.ChangeMaps
theorem own:ownKnob Try.prog.godebug=none:=by kernel_rfl
theorem laidOut:laidOutB Try.prog=true:=by kernel_rfl
theorem cells30:Try.prog.cellsOf 68=1:=by kernel_rfl
theorem cells3:Try.prog.cellsOf 3=1:=by kernel_rfl
theorem one_le {H:Type} (d:DataW H):1<=Rows.uptoBulk d:=by
 cases d with
 | lit l=>cases l<;>simp [Rows.uptoBulk]
 | nil=>simp [Rows.uptoBulk]
 | ptr d=>simp [Rows.uptoBulk]
 | slice elems spare=>simp [Rows.uptoBulk]
 | agg parts=>simp [Rows.uptoBulk]
 | iface t d=>simp [Rows.uptoBulk]
 | map entries=>simp [Rows.uptoBulk]
 | held h=>simp [Rows.uptoBulk]
theorem cellsR:Try.prog.cellsOf 22=1:=by kernel_rfl
theorem cells43:Try.prog.cellsOf 27=2:=by kernel_rfl
theorem cells4:Try.prog.cellsOf 4=1:=by kernel_rfl
theorem cells22:Try.prog.cellsOf 25=1:=by kernel_rfl
theorem types43:Try.prog.cellTypes Try.prog.depth 27=some [4,25]:=by kernel_rfl
theorem agg_le {H:Type} (n:Bool) (y:DataW H):Rows.uptoBulk y<=Rows.uptoBulk (.agg [.lit (.bool n),y]):=by
 simp only [Rows.uptoBulk,Rows.uptoBulkAll];omega
theorem length_le {H:Type} (l:List (DataW H)):l.length<=Rows.uptoBulkAll l:=by
 induction l with
 | nil=>simp [Rows.uptoBulkAll]
 | cons x r ih=>have:=one_le x; simp only [Rows.uptoBulkAll,List.length_cons]; omega
theorem part_le {H:Type} {d:DataW H} {l:List (DataW H)} (h:d∈l):Rows.uptoBulk d<=Rows.uptoBulkAll l:=by
 induction l with
 | nil=>cases h
 | cons x r ih=>
  simp only [Rows.uptoBulkAll];cases List.mem_cons.1 h with
  | inl e=>subst e; omega
  | inr e=>have:=ih e; omega
theorem mem_le {H:Type} {d:DataW H} {elems spare:List (DataW H)} (h:d∈elems):Rows.uptoBulk d<=Rows.uptoBulk (.slice elems spare):=by
 have h1:=part_le h;simp only [Rows.uptoBulk];omega
theorem slice_le {H:Type} (elems spare:List (DataW H)):elems.length<=Rows.uptoBulk (.slice elems spare):=by
 have h1:=length_le elems;simp only [Rows.uptoBulk];omega
set_option maxRecDepth 100000 in
theorem contract (H:Type) (enc:TypeId × Value->H) (W:World) (base:Nat) (args:Array Value) (ds gs:List (DataW H)) (before:List MemPlace)
 (hval:∀ (j:Nat) t v,Try.f6.params[j]? =some t->args[j]? =some v->Value.okWide Try.prog W .any base t v)
 (hW:DataW.Whole enc Try.prog Try.f6.params.toList Rows.latticeMakesSpec.vars false W args.toList ds gs before) (hk:Rows.uptoSmall H (ds++gs)=true):
 Calls Try.prog 6 args W fun e W'=>∃ v,e= .returned v/\Rows.latticeMakesSpec.post enc Try.prog Try.f6 false true false false W args v W':=by
 have hW':=hW;obtain ⟨p,q,hA0,hV,rfl,hfz,hnd⟩:=hW;have hA:DataW.TrodAll enc Try.prog W 0 (fun _=>true) true Try.f6.params.toList args.toList ds p:=hA0;rw [Try.params6] at hA hval;obtain ⟨v0,vs0,d0,ds0,p0,q0,hargs,rfl,rfl,h0,r0⟩:=trodAll_cons hA;obtain ⟨v1,vs1,d1,ds1,p1,q1,rfl,rfl,rfl,h1,r1⟩:=trodAll_cons r0;obtain ⟨rfl,rfl,rfl⟩:=trodAll_nil r1;obtain rfl:args=#[v0,v1]:=by cases args; simp_all
 obtain ⟨rfl,rfl⟩:=trodVars_none hV;obtain ⟨L0,rel0,wf0,hd0⟩:=open_mat Try.underlying41 cellsR Try.underlying22 Try.underlying27 ⟨rfl,rfl⟩ ⟨rfl,rfl⟩ cells43 cells4 cells22 Try.underlying4 Try.underlying25 Try.underlying68 cells30 (hval 0 41 v0 (by simp) (by simp)) h0;obtain ⟨M0,rfl,hm0⟩:=mats_of wf0;obtain ⟨l1,rel1,wf1,hd1⟩:=open_row Try.underlying42 Try.underlying3 cells3 (hval 1 42 v1 (by simp) (by simp)) h1;clear hA0;simp only [List.append_nil] at hW' hk;have hbulk:Rows.uptoBulkAll ([d0,d1]:List (DataW H))<=1048576:=by simpa [Rows.uptoSmall] using hk
 have b0:M0.length<=1048576/\∀ M∈M0,M.length<=1048576/\∀ p∈M,p.2.length<=1048576:=by
  rcases hd0 with h | ⟨elems,spare,rfl,hl,hp⟩
  . have:M0=[]:=by simpa using h
    rw [this]; simp
  . have e1:=part_le (H:=H) (d:=.slice elems spare) (l:=[.slice elems spare,d1]) (by simp);have e2:=slice_le (H:=H) elems spare;simp only [List.length_map] at hl;refine ⟨by omega,fun M hM=>?_⟩;rcases hp _ (List.mem_map.2 ⟨M,hM,rfl⟩) with h | ⟨el,sq,hmem,hl2,hp2⟩
    . have:M=[]:=by simpa using h
      rw [this]; simp
    . have e7:=mem_le (spare:=spare) hmem;have e8:=slice_le (H:=H) el sq;simp only [List.length_map] at hl2;refine ⟨by omega,fun p hpM=>?_⟩;rcases hp2 _ (List.mem_map.2 ⟨p,hpM,rfl⟩) with h | ⟨sp,hmem2⟩
      . have:p.2=[]:=by simpa using h
        rw [this]; simp
      . have e3:=mem_le (spare:=sq) hmem2;dsimp only at e3;have e4:=agg_le (H:=H) p.1 (.slice (lits .u64 (p.2.map fun x:Nat=>(x:Int))) sp);have e5:=slice_le (H:=H) (lits .u64 (p.2.map fun x:Nat=>(x:Int))) sp;have e6:(lits (H:=H) .u64 (p.2.map fun x:Nat=>(x:Int))).length=p.2.length:=by simp [lits]
        omega
 have rel0':RelV W (fun b=>b<W.heap.size) (.sl none (mL M0)) v0:=by rw [mats_eq] at rel0; exact rel0
 have mw0:MW M0:=⟨by omega,fun M hM=>⟨by have:=(b0.2 M hM).1; omega,fun p hp=>⟨hm0 M hM p hp,by have:=(b0.2 M hM).2 p hp; omega⟩⟩⟩;have b1:l1.length<=1048576:=by
  rcases hd1 with h | ⟨spare,rfl⟩
  . rw [h]; simp
  . have e1:=part_le (H:=H) (d:=.slice (lits .i64 l1) spare) (l:=[d0,.slice (lits .i64 l1) spare]) (by simp);have e2:=slice_le (H:=H) (lits .i64 l1) spare;have e3:(lits (H:=H) .i64 l1).length=l1.length:=by simp [lits]
    omega
 have rel1':=rel1;have w1:∀ x∈l1,-9223372036854775808<=x/\x<=9223372036854775807:=fun x hx=>by simpa [Lit.wf,IntKind.min,IntKind.max,IntKind.signed,IntKind.bits] using wf1 x hx
 have spec:=law_LatticeMakes M0 mw0 l1 b1 w1;refine (spec.said Try.func6 (by kernel_rfl) (by kernel_rfl) (argRel2 rel0' rel1')).mono fun e W' ⟨he,hb⟩=>?_;subst he;have t0:=Below.trod laidOut (by kernel_rfl) (of_decide_eq_true (by kernel_rfl)) h0 hb (fun x hx=>hW'.lt x (by simp [hx]));have t1:=Below.trod laidOut (by kernel_rfl) (of_decide_eq_true (by kernel_rfl)) h1 hb (fun x hx=>hW'.lt x (by simp [hx]));refine ⟨_,rfl,_,_,_,[],_,[],hW',?_,trodAll_cons_mk t0 (trodAll_cons_mk t1 (trodAll_mk0)),rfl,hb.frame _,fun h=>by cases h⟩;exact trodAll_mk1 (shut_bool Try.underlying4 true)
set_option maxRecDepth 100000 in
theorem lifted (os:Os) (started:os.Started) (H:Type) (enc:TypeId × Value->H) (F:Stop.Interp):
 ReturnsInHanded {} Try.checked os 6 .any ((Rows.OpenSpec.upto Rows.latticeMakesSpec).pre6 enc Try.prog Try.f6 Rows.latticeMakesUptoRow.domain false) (((Rows.OpenSpec.upto Rows.latticeMakesSpec).at F).post enc Try.prog Try.f6 false true false false):=by
 refine returnsInHanded_of_cond (C:=Try.checked) (s:=Rows.OpenSpec.upto Rows.latticeMakesSpec) (k:=Rows.uptoSmall) rfl own started (by kernel_rfl) Try.func6
  (OpenSpec.witness (enc:=enc) (C:=Try.checked) (s:=Rows.OpenSpec.upto Rows.latticeMakesSpec) (k:=Rows.uptoSmall) rfl false ⟨#[],#[.slice none 0 0,.slice none 0 0],[]⟩ 8 (by kernel_rfl) (by kernel_rfl) (by kernel_rfl)
   (x:=([.nil,.nil],[],[])) (by kernel_rfl) rfl (by kernel_rfl)) ?_
 intro W base args ds gs before hval hW _ hk _;exact contract H enc W base args ds gs before hval hW hk
theorem closed:joinedFacts Try.pinned.checked.prog 6 Try.f6 (Rows.OpenSpec.upto Rows.latticeMakesSpec).bare Rows.latticeMakesUptoRow=true:=by
 unfold joinedFacts;refine (Bool.and_eq_true _ _).mpr ⟨?_,by kernel_rfl⟩;refine (Bool.and_eq_true _ _).mpr ⟨?_,by kernel_rfl⟩;refine (Bool.and_eq_true _ _).mpr ⟨?_,by kernel_rfl⟩;refine (Bool.and_eq_true _ _).mpr ⟨?_,by kernel_rfl⟩;refine (Bool.and_eq_true _ _).mpr ⟨?_,made_beq⟩;refine (Bool.and_eq_true _ _).mpr ⟨?_,final_beq⟩;refine (Bool.and_eq_true _ _).mpr ⟨?_,enters⟩;kernel_rfl
theorem named:Try.pinned.checked.prog.funcNamed Rows.latticeMakesUptoRow.func=some 6:=by kernel_rfl
theorem inst:Try.f6.isInstance Try.pinned.checked.prog Rows.latticeMakesUptoRow.origin Rows.latticeMakesUptoRow.targs:=of_decide_eq_true (by kernel_rfl)
theorem wrap:Try.f6.isWrapper Try.pinned.checked.prog Rows.latticeMakesUptoRow.wrapper Rows.latticeMakesUptoRow.mainSum:=by
 unfold Func.isWrapper;rw [if_neg (by decide +kernel)];exact ⟨rfl,rfl⟩
theorem over:Rows.latticeMakesUptoRow.holds Try.pinned (Rows.OpenSpec.upto Rows.latticeMakesSpec):=
 OpenClaim.holds_of_cond 6 Try.f6 rfl rfl rfl rfl rfl rfl rfl ⟨rfl,rfl,rfl,rfl,rfl⟩ rfl rfl rfl rfl rfl named Try.func6 closed inst wrap
  (fun os started H enc _ F=>lifted os started H enc F)
theorem proved:Rows.LatticeMakesUptoSaid:=
 over
end Go.Proofs.Ytfdjbmamidmgfaa.latticeMakes
