/- The law LatticeIn returns true for every argument of at most 1048576 values and letters. -/
import Derived.Test.YtfdjbmamidmgfaaGreatML
import Derived.Test.YtfdjbmamidmgfaaGreatL6
import Derived.Test.YtfdjbmamidmgfaaGreatL5
import Derived.Test.YtfdjbmamidmgfaaGreatL1
import Derived.Test.YtfdjbmamidmgfaaGreatL2
import Derived.Test.YtfdjbmamidmgfaaGreatRows
import Derived.WalkKit
import Derived.ProofKit
import Derived.JoinedCond
import Derived.OpenShut
import Derived.Carry
import Derived.KernelRfl
set_option linter.unusedVariables false
set_option linter.unusedSimpArgs false
namespace Go.Proofs.YtfdjbmamidmgfaaGreat.latticeIn
open Go.ChangeShapes Go.WideShapes Go.ChangeAt Go.RowKit Go.Vw Go.ChangeMaps
theorem own:ownKnob Tryz.prog.godebug=none:=by kernel_rfl
theorem laidOut:laidOutB Tryz.prog=true:=by kernel_rfl
theorem cells30:Tryz.prog.cellsOf 118=1:=by kernel_rfl
theorem cells3:Tryz.prog.cellsOf 3=1:=by kernel_rfl
theorem one_le {H:Type} (d:DataW H):1<=Rows.uptoBulk d:=by
 cases d with
 | lit l=>cases l<;>simp [Rows.uptoBulk]
 | nil=>simp [Rows.uptoBulk]
 | ptr d=>simp [Rows.uptoBulk]
 | slice elems spare=>simp [Rows.uptoBulk]
 | agg parts=>simp [Rows.uptoBulk]
 | iface t d=>simp [Rows.uptoBulk]
 | map entries=>simp [Rows.uptoBulk]
 | held h=>simp [Rows.uptoBulk]
theorem cellsR:Tryz.prog.cellsOf 22=1:=by kernel_rfl
theorem cells43:Tryz.prog.cellsOf 28=2:=by kernel_rfl
theorem cells4:Tryz.prog.cellsOf 4=1:=by kernel_rfl
theorem cells22:Tryz.prog.cellsOf 26=1:=by kernel_rfl
theorem types43:Tryz.prog.cellTypes Tryz.prog.depth 28=some [4,26]:=by kernel_rfl
theorem agg_le {H:Type} (n:Bool) (y:DataW H):Rows.uptoBulk y<=Rows.uptoBulk (.agg [.lit (.bool n),y]):=by
 simp only [Rows.uptoBulk,Rows.uptoBulkAll];omega
theorem length_le {H:Type} (l:List (DataW H)):l.length<=Rows.uptoBulkAll l:=by
 induction l with
 | nil=>simp [Rows.uptoBulkAll]
 | cons x r ih=>have:=one_le x; simp only [Rows.uptoBulkAll,List.length_cons]; omega
theorem part_le {H:Type} {d:DataW H} {l:List (DataW H)} (h:d∈l):Rows.uptoBulk d<=Rows.uptoBulkAll l:=by
 induction l with
 | nil=>cases h
 | cons x r ih=>
  simp only [Rows.uptoBulkAll];cases List.mem_cons.1 h with
  | inl e=>subst e; omega
  | inr e=>have:=ih e; omega
theorem mem_le {H:Type} {d:DataW H} {elems spare:List (DataW H)} (h:d∈elems):Rows.uptoBulk d<=Rows.uptoBulk (.slice elems spare):=by
 have h1:=part_le h;simp only [Rows.uptoBulk];omega
theorem slice_le {H:Type} (elems spare:List (DataW H)):elems.length<=Rows.uptoBulk (.slice elems spare):=by
 have h1:=length_le elems;simp only [Rows.uptoBulk];omega
set_option maxRecDepth 100000 in
theorem contract (H:Type) (enc:TypeId × Value->H) (W:World) (base:Nat) (args:Array Value) (ds gs:List (DataW H)) (before:List MemPlace)
 (hval:∀ (j:Nat) t v,Tryz.f11.params[j]? =some t->args[j]? =some v->Value.okWide Tryz.prog W .any base t v)
 (hW:DataW.Whole enc Tryz.prog Tryz.f11.params.toList Rows.latticeInSpec.vars false W args.toList ds gs before) (hk:Rows.uptoSmall H (ds++gs)=true):
 Calls Tryz.prog 11 args W λe W'=>∃ v,e= .returned v/\Rows.latticeInSpec.post enc Tryz.prog Tryz.f11 false true false false W args v W':=by
 have hW':=hW;obtain ⟨p,q,hA0,hV,rfl,hfz,hnd⟩:=hW;have hA:DataW.TrodAll enc Tryz.prog W 0 (λ_=>true) true Tryz.f11.params.toList args.toList ds p:=hA0;rw [Tryz.params11] at hA hval;obtain ⟨v0,vs0,d0,ds0,p0,q0,hargs,rfl,rfl,h0,r0⟩:=trodAll_cons hA;obtain ⟨v1,vs1,d1,ds1,p1,q1,rfl,rfl,rfl,h1,r1⟩:=trodAll_cons r0;obtain ⟨rfl,rfl,rfl⟩:=trodAll_nil r1;obtain rfl:args=#[v0,v1]:=by cases args; simp_all
 obtain ⟨rfl,rfl⟩:=trodVars_none hV;obtain ⟨L0,rel0,wf0,hd0⟩:=open_mat Tryz.underlying57 cellsR Tryz.underlying22 Tryz.underlying28 ⟨rfl,rfl⟩ ⟨rfl,rfl⟩ cells43 cells4 cells22 Tryz.underlying4 Tryz.underlying26 Tryz.underlying118 cells30 (hval 0 57 v0 (by simp) (by simp)) h0;obtain ⟨M0,rfl,hm0⟩:=mats_of wf0;obtain ⟨L1,rel1,wf1,hd1⟩:=open_poly Tryz.underlying22 Tryz.underlying28 ⟨rfl,rfl⟩ ⟨rfl,rfl⟩ cells43 cells4 cells22 Tryz.underlying4 Tryz.underlying26 Tryz.underlying118 cells30 (hval 1 22 v1 (by simp) (by simp)) h1;obtain ⟨M1,rfl,hm1⟩:=polys_of wf1;clear hA0;simp only [List.append_nil] at hW' hk;have hbulk:Rows.uptoBulkAll ([d0,d1]:List (DataW H))<=1048576:=by simpa [Rows.uptoSmall] using hk
 have b0:M0.length<=1048576/\∀ M∈M0,M.length<=1048576/\∀ p∈M,p.2.length<=1048576:=by
  rcases hd0 with h | ⟨elems,spare,rfl,hl,hp⟩
  . have:M0=[]:=by simpa using h
    rw [this]; simp
  . have e1:=part_le (H:=H) (d:=.slice elems spare) (l:=[.slice elems spare,d1]) (by simp);have e2:=slice_le (H:=H) elems spare;simp only [List.length_map] at hl;refine ⟨by omega,λM hM=>?_⟩;rcases hp _ (List.mem_map.2 ⟨M,hM,rfl⟩) with h | ⟨el,sq,hmem,hl2,hp2⟩
    . have:M=[]:=by simpa using h
      rw [this]; simp
    . have e7:=mem_le (spare:=spare) hmem;have e8:=slice_le (H:=H) el sq;simp only [List.length_map] at hl2;refine ⟨by omega,λp hpM=>?_⟩;rcases hp2 _ (List.mem_map.2 ⟨p,hpM,rfl⟩) with h | ⟨sp,hmem2⟩
      . have:p.2=[]:=by simpa using h
        rw [this]; simp
      . have e3:=mem_le (spare:=sq) hmem2;dsimp only at e3;have e4:=agg_le (H:=H) p.1 (.slice (lits .u64 (p.2.map λx:Nat=>(x:Int))) sp);have e5:=slice_le (H:=H) (lits .u64 (p.2.map λx:Nat=>(x:Int))) sp;have e6:(lits (H:=H) .u64 (p.2.map λx:Nat=>(x:Int))).length=p.2.length:=by simp [lits]
        omega
 have rel0':RelV W (λb=>b<W.heap.size) (.sl none (mL M0)) v0:=by rw [mats_eq] at rel0; exact rel0
 have mw0:MW M0:=⟨by omega,λM hM=>⟨by have:=(b0.2 M hM).1; omega,λp hp=>⟨hm0 M hM p hp,by have:=(b0.2 M hM).2 p hp; omega⟩⟩⟩;have b1:M1.length<=1048576/\∀ p∈M1,p.2.length<=1048576:=by
  rcases hd1 with h | ⟨elems,spare,rfl,hl,hp⟩
  . have:M1=[]:=by simpa using h
    rw [this]; simp
  . have e1:=part_le (H:=H) (d:=.slice elems spare) (l:=[d0,.slice elems spare]) (by simp);have e2:=slice_le (H:=H) elems spare;simp only [List.length_map] at hl;refine ⟨by omega,λp hpM=>?_⟩;rcases hp _ (List.mem_map.2 ⟨p,hpM,rfl⟩) with h | ⟨sp,hmem⟩
    . have:p.2=[]:=by simpa using h
      rw [this]; simp
    . have e3:=mem_le (spare:=spare) hmem;dsimp only at e3;have e4:=agg_le (H:=H) p.1 (.slice (lits .u64 (p.2.map λx:Nat=>(x:Int))) sp);have e5:=slice_le (H:=H) (lits .u64 (p.2.map λx:Nat=>(x:Int))) sp;have e6:(lits (H:=H) .u64 (p.2.map λx:Nat=>(x:Int))).length=p.2.length:=by simp [lits]
      omega
 have rel1':RelV W (λb=>b<W.heap.size) (.sl (some 2) (zL M1)) v1:=by rw [polys_eq] at rel1; exact rel1
 have pw1:PW (2^24) M1:=⟨by omega,λp hp=>⟨hm1 p hp,by have:=b1.2 p hp; omega⟩⟩;have spec:=law_LatticeIn M0 mw0 M1 pw1;refine (spec.said Tryz.func11 (by kernel_rfl) (by kernel_rfl) (argRel2 rel0' rel1')).mono λe W' ⟨he,hb⟩=>?_;subst he;have t0:=Below.trod laidOut (by kernel_rfl) (of_decide_eq_true (by kernel_rfl)) h0 hb (λx hx=>hW'.lt x (by simp [hx]));have t1:=Below.trod laidOut (by kernel_rfl) (of_decide_eq_true (by kernel_rfl)) h1 hb (λx hx=>hW'.lt x (by simp [hx]));refine ⟨_,rfl,_,_,_,[],_,[],hW',?_,trodAll_cons_mk t0 (trodAll_cons_mk t1 (trodAll_mk0)),rfl,hb.frame _,λh=>by cases h⟩;exact trodAll_mk1 (shut_bool Tryz.underlying4 true)
set_option maxRecDepth 100000 in
theorem lifted (os:Os) (started:os.Started) (H:Type) (enc:TypeId × Value->H) (F:Stop.Interp):
 ReturnsInHanded {} Tryz.checked os 11 .any ((Rows.OpenSpec.upto Rows.latticeInSpec).pre6 enc Tryz.prog Tryz.f11 Rows.latticeInUptoRow.domain false) (((Rows.OpenSpec.upto Rows.latticeInSpec).at F).post enc Tryz.prog Tryz.f11 false true false false):=by
 refine returnsInHanded_of_cond (C:=Tryz.checked) (s:=Rows.OpenSpec.upto Rows.latticeInSpec) (k:=Rows.uptoSmall) rfl own started (by kernel_rfl) Tryz.func11
  (OpenSpec.witness (enc:=enc) (C:=Tryz.checked) (s:=Rows.OpenSpec.upto Rows.latticeInSpec) (k:=Rows.uptoSmall) rfl false ⟨#[],#[.slice none 0 0,.slice none 0 0],[]⟩ 8 (by kernel_rfl) (by kernel_rfl) (by kernel_rfl)
   (x:=([.nil,.nil],[],[])) (by kernel_rfl) rfl (by kernel_rfl)) ?_
 intro W base args ds gs before hval hW _ hk _;exact contract H enc W base args ds gs before hval hW hk
theorem closed:joinedFacts Tryz.pinned.checked.prog 11 Tryz.f11 (Rows.OpenSpec.upto Rows.latticeInSpec).bare Rows.latticeInUptoRow=true:=by
 unfold joinedFacts;refine (Bool.and_eq_true _ _).mpr ⟨?_,by kernel_rfl⟩;refine (Bool.and_eq_true _ _).mpr ⟨?_,by kernel_rfl⟩;refine (Bool.and_eq_true _ _).mpr ⟨?_,by kernel_rfl⟩;refine (Bool.and_eq_true _ _).mpr ⟨?_,by kernel_rfl⟩;refine (Bool.and_eq_true _ _).mpr ⟨?_,made_beq⟩;refine (Bool.and_eq_true _ _).mpr ⟨?_,final_beq⟩;refine (Bool.and_eq_true _ _).mpr ⟨?_,enters⟩;kernel_rfl
theorem named:Tryz.pinned.checked.prog.funcNamed Rows.latticeInUptoRow.func=some 11:=by kernel_rfl
theorem inst:Tryz.f11.isInstance Tryz.pinned.checked.prog Rows.latticeInUptoRow.origin Rows.latticeInUptoRow.targs:=of_decide_eq_true (by kernel_rfl)
theorem wrap:Tryz.f11.isWrapper Tryz.pinned.checked.prog Rows.latticeInUptoRow.wrapper Rows.latticeInUptoRow.mainSum:=by
 unfold Func.isWrapper;rw [if_neg (by decide +kernel)];exact ⟨rfl,rfl⟩
theorem over:Rows.latticeInUptoRow.holds Tryz.pinned (Rows.OpenSpec.upto Rows.latticeInSpec):=
 OpenClaim.holds_of_cond 11 Tryz.f11 rfl rfl rfl rfl rfl rfl rfl ⟨rfl,rfl,rfl,rfl,rfl⟩ rfl rfl rfl rfl rfl named Tryz.func11 closed inst wrap
  (λos started H enc _ F=>lifted os started H enc F)
theorem proved:Rows.LatticeInUptoSaid:=
 over
end Go.Proofs.YtfdjbmamidmgfaaGreat.latticeIn
