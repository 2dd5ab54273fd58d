/- How an argument of type [][]api.Int is read. It names no program. -/
import Derived.Test.YtfdjbmamidmgfaaGreatL5
set_option linter.unusedVariables false
set_option linter.unusedSimpArgs false
namespace Go.Vw
open Go.ChangeShapes Go.WideShapes
open Go.RowKit (Below)
section
variable {H:Type} {enc:TypeId × Value->H} {P:Program} {w:World}
theorem open_prow {tp t tb tr e:TypeId} {f0 f1:Field} {k:IntKind} {fuel:Nat} {c1:Value} {y:DataW H × List MemPlace} (htp:P.underlying tp=some (.slice t))
 (ht:P.underlying t=some (.struct #[f0,f1])) (h0:f0.offset=0/\f0.type=tb) (h1:f1.offset=1/\f1.type=tr) (hC:P.cellsOf t=2) (hc0:P.cellsOf tb=1) (hc1:P.cellsOf tr=1)
 (hb:P.underlying tb=some .bool) (hr:P.underlying tr=some (.slice e)) (he:P.underlying e=some (.int k)) (hce:P.cellsOf e=1)
 (hf:DataW.trod enc P w 0 (λ_=>true) true fuel tp [c1]=some y):
 ∃ L:List (Bool × List Int),RelV w (λb=>b<w.heap.size) (.sl (some 2) (L.map λp=>V.agg [.b p.1,.sl none (p.2.map λz=>V.i k z)])) c1/\(∀ p∈L,∀ z∈p.2,(Lit.int k z).wf=true)/\
  (L=[]\/∃ elems spare,y.1= .slice elems spare/\elems.length=L.length/\∀ p∈L,p.2=[]\/∃ sp,DataW.agg [.lit (.bool p.1),.slice (lits k p.2) sp]∈elems)/\c1.oneCell'=true:=by
 rcases DataW.trod_slice htp hf with ⟨hcs,hx⟩ | ⟨a,len,cap,elems,rest,n,_,hcs,hx,_,hl,hm,hlen,hel,hrest,_⟩
 . simp only [List.cons.injEq,and_true] at hcs;subst hcs;exact ⟨[],.nil _,by simp,.inl rfl,rfl⟩
 . simp only [List.cons.injEq,and_true] at hcs;subst hcs;subst hx;rcases Nat.eq_zero_or_pos cap with hcap | hcap
   . subst hcap;obtain rfl:len=0:=by omega
     exact ⟨[],.void _ _,by simp,.inl rfl,rfl⟩
   . have hfirst:a.spot=none/\a.block<w.heap.size:=by
      have key:∃ cs,w.cells? 0 (a.add (0*P.cellsOf t)) (P.cellsOf t)=some cs:=by
       by_cases hl0:0<len
       . have h:=hel 0 hl0;rw [List.getElem?_eq_getElem (by omega),Option.bind_eq_some_iff] at h;obtain ⟨cs,g1,_⟩:=h;exact ⟨cs,g1⟩
       . obtain rfl:len=0:=by omega
         obtain ⟨r1,r2⟩:=hrest rfl;have h:=r2 0 (by omega);rw [List.getElem?_eq_getElem (by omega),Option.bind_eq_some_iff] at h;obtain ⟨cs,g1,_⟩:=h;exact ⟨cs,g1⟩
      obtain ⟨cs,g1⟩:=key;rw [hC] at g1;obtain ⟨c0,c1,rfl,k0,k1⟩:=cells_two g1;rw [Nat.zero_mul,add_zero'] at k0;exact cell_at k0
     obtain ⟨blk,off,spot⟩:=a;obtain ⟨hspot,hbl⟩:=hfirst;simp only at hspot hbl;subst hspot;have each:∀ i,i<len->∃ q:(Bool × List Int) × Value × Value,w.cell? ⟨blk,off+i*2,none⟩=some q.2.1/\w.cell? ⟨blk,off+i*2+1,none⟩=some q.2.2/\
      RelV w (λb=>b<w.heap.size) (.agg [.b q.1.1,.sl none (q.1.2.map λz=>V.i k z)]) (.agg #[q.2.1,q.2.2])/\(∀ z∈q.1.2,(Lit.int k z).wf=true)/\
      (q.1.2=[]\/∃ sp,DataW.agg [.lit (.bool q.1.1),.slice (lits k q.1.2) sp]∈elems.map (·.1))/\Shape (some 2) (.agg #[q.2.1,q.2.2]):=by
      intro i hi;have h:=hel i hi;rw [hC,List.getElem?_eq_getElem (by omega)] at h;rw [Option.bind_eq_some_iff] at h;obtain ⟨cs,g1,g2⟩:=h;obtain ⟨c0,c1,rfl,k0,k1⟩:=cells_two g1;obtain ⟨m,zs,rel,wf,⟨y,hy,hd⟩,hsh⟩:=open_pair ht h0 h1 hc0 hc1 hb hr he hce g2;refine ⟨((m,zs),c0,c1),?_,?_,rel,wf,?_,hsh⟩
      . rw [Addr.add_mid] at k0; exact k0
      . rw [Addr.add_mid,Addr.add_mid] at k1; exact k1
      . rcases hd with hd | ⟨sp,hd⟩
        . exact .inl hd
        . refine .inr ⟨sp,?_⟩;have hm:(elems[i]'(by omega)).1∈elems.map (·.1):=List.mem_map.2 ⟨_,List.getElem_mem _,rfl⟩;rw [hy,hd] at hm;exact hm
     obtain ⟨q,hq⟩:∃ q:Nat->(Bool × List Int) × Value × Value,∀ i (h:i<len),w.cell? ⟨blk,off+i*2,none⟩=some (q i).2.1/\w.cell? ⟨blk,off+i*2+1,none⟩=some (q i).2.2/\
      RelV w (λb=>b<w.heap.size) (.agg [.b (q i).1.1,.sl none ((q i).1.2.map λz=>V.i k z)]) (.agg #[(q i).2.1,(q i).2.2])/\(∀ z∈(q i).1.2,(Lit.int k z).wf=true)/\
      ((q i).1.2=[]\/∃ sp,DataW.agg [.lit (.bool (q i).1.1),.slice (lits k (q i).1.2) sp]∈elems.map (·.1))/\Shape (some 2) (.agg #[(q i).2.1,(q i).2.2]):=by
      refine ⟨λi=>if h:i<len then Classical.choose (each i h) else default,λi h=>?_⟩;simp only [dif_pos h];exact Classical.choose_spec (each i h)
     refine ⟨(List.range len).map λi=>(q i).1,.sl (some 2) _ blk off len cap (λj=>.agg #[(q j).2.1,(q j).2.2]) (by simp) hbl hl (λj hj=>?_) (λj hj=>?_) (λj hj=>?_),?_,.inr ⟨_,_,rfl,by simp [hlen],?_⟩,rfl⟩
     . have hj':j<len:=by simpa using hj
       simp only [List.getElem_map,List.getElem_range];exact (hq j hj').2.2.1
     . exact (hq j (by simpa using hj)).2.2.2.2.2
     . have hj':j<len:=by simpa using hj
       obtain ⟨r0,r1,_⟩:=hq j hj';intro i u hi;simp only [Value.cells] at hi
       match i with
       | 0=>simp at hi; subst hi; simpa [width] using r0
       | 1=>simp at hi; subst hi; simpa [width] using r1
       | i+2=>simp at hi
     . intro p hp;obtain ⟨i,hi,rfl⟩:=List.mem_map.1 hp;exact (hq i (List.mem_range.1 hi)).2.2.2.1
     . intro p hp;obtain ⟨i,hi,rfl⟩:=List.mem_map.1 hp;exact (hq i (List.mem_range.1 hi)).2.2.2.2.1
theorem cells_one {a:Addr} {cs:List Value} (h:w.cells? 0 a 1=some cs):∃ c0,cs=[c0]/\w.cell? a=some c0:=by
 unfold World.cells? at h;rw [if_pos (Nat.zero_le _)] at h;simp only [List.range_succ,List.range_zero,List.nil_append,List.mapM_cons,List.mapM_nil,add_zero',Option.bind_eq_bind,Option.pure_def] at h;cases h0:w.cell? a with
 | none=>rw [h0] at h; simp at h
 | some c0=>rw [h0] at h; simp at h; exact ⟨c0,h.symm,rfl⟩
theorem open_mat {b0:Nat} {tm tp t tb tr e:TypeId} {f0 f1:Field} {k:IntKind} {v:Value} {d:DataW H} {ps:List MemPlace} (htm:P.underlying tm=some (.slice tp)) (hCp:P.cellsOf tp=1) (htp:P.underlying tp=some (.slice t))
 (ht:P.underlying t=some (.struct #[f0,f1])) (h0:f0.offset=0/\f0.type=tb) (h1:f1.offset=1/\f1.type=tr) (hC:P.cellsOf t=2) (hc0:P.cellsOf tb=1) (hc1:P.cellsOf tr=1)
 (hb:P.underlying tb=some .bool) (hr:P.underlying tr=some (.slice e)) (he:P.underlying e=some (.int k)) (hce:P.cellsOf e=1)
 (hval:Value.okWide P w .any b0 tm v) (hd:DataW.Trod enc P w 0 (λ_=>true) true tm v d ps):
 ∃ Ls:List (List (Bool × List Int)),RelV w (λb=>b<w.heap.size) (.sl none (Ls.map λL=>.sl (some 2) (L.map λp=>V.agg [.b p.1,.sl none (p.2.map λz=>V.i k z)]))) v/\(∀ L∈Ls,∀ p∈L,∀ z∈p.2,(Lit.int k z).wf=true)/\
  (Ls=[]\/∃ elems spare,d= .slice elems spare/\elems.length=Ls.length/\∀ L∈Ls,L=[]\/∃ el sp,DataW.slice el sp∈elems/\el.length=L.length/\∀ p∈L,p.2=[]\/∃ sp',DataW.agg [.lit (.bool p.1),.slice (lits k p.2) sp']∈el):=by
 obtain ⟨a0,len,cap,rfl⟩:=okWide_slice htm hval;obtain ⟨fuel,hf⟩:=hd;rcases DataW.trod_slice htm hf with ⟨hcs,hx⟩ | ⟨a,len',cap',elems,rest,n,_,hcs,hx,_,hl,hm,hlen,hel,_,_⟩
 . simp [Value.cells] at hcs;obtain ⟨rfl,rfl,rfl⟩:=hcs;exact ⟨[],.nil _,by simp,.inl rfl⟩
 . simp [Value.cells] at hcs;obtain ⟨rfl,rfl,rfl⟩:=hcs;simp only [Prod.mk.injEq] at hx;obtain ⟨rfl,rfl⟩:=hx;simp only [Value.okWide,htm,Cell.okWide,Cell.ok,World.has] at hval;obtain ⟨_,_,_,hspot,row,cells,hshape,_⟩:=hval;obtain ⟨blk,off,spot⟩:=a;simp only at hspot; subst hspot;have hbl:blk<w.heap.size:=by
    simp only [World.shape?] at hshape;by_cases h:blk<w.heap.size
    . exact h
    . simp [Array.getElem?_eq_none (Nat.le_of_not_lt h)] at hshape
   have each:∀ i,i<len->∃ q:List (Bool × List Int) × Value,w.cell? ⟨blk,off+i,none⟩=some q.2/\RelV w (λb=>b<w.heap.size) (.sl (some 2) (q.1.map λp=>V.agg [.b p.1,.sl none (p.2.map λz=>V.i k z)])) q.2/\(∀ p∈q.1,∀ z∈p.2,(Lit.int k z).wf=true)/\
    (q.1=[]\/∃ el sp,DataW.slice el sp∈elems.map (·.1)/\el.length=q.1.length/\∀ p∈q.1,p.2=[]\/∃ sp',DataW.agg [.lit (.bool p.1),.slice (lits k p.2) sp']∈el)/\q.2.oneCell'=true:=by
    intro i hi;have h:=hel i hi;rw [hCp,List.getElem?_eq_getElem (by omega)] at h;rw [Option.bind_eq_some_iff] at h;obtain ⟨cs,g1,g2⟩:=h;obtain ⟨c0,rfl,k0⟩:=cells_one g1;obtain ⟨L,rel,wf,hd,hone⟩:=open_prow htp ht h0 h1 hC hc0 hc1 hb hr he hce g2;refine ⟨(L,c0),?_,rel,wf,?_,hone⟩
    . rw [Addr.add_mid,Nat.mul_one] at k0; exact k0
    . rcases hd with hd | ⟨el,sp,hy,hl2,hp⟩
      . exact .inl hd
      . refine .inr ⟨el,sp,?_,hl2,hp⟩;have hm:(elems[i]'(by omega)).1∈elems.map (·.1):=List.mem_map.2 ⟨_,List.getElem_mem _,rfl⟩;rw [hy] at hm;exact hm
   obtain ⟨q,hq⟩:∃ q:Nat->List (Bool × List Int) × Value,∀ i (h:i<len),w.cell? ⟨blk,off+i,none⟩=some (q i).2/\RelV w (λb=>b<w.heap.size) (.sl (some 2) ((q i).1.map λp=>V.agg [.b p.1,.sl none (p.2.map λz=>V.i k z)])) (q i).2/\(∀ p∈(q i).1,∀ z∈p.2,(Lit.int k z).wf=true)/\
    ((q i).1=[]\/∃ el sp,DataW.slice el sp∈elems.map (·.1)/\el.length=(q i).1.length/\∀ p∈(q i).1,p.2=[]\/∃ sp',DataW.agg [.lit (.bool p.1),.slice (lits k p.2) sp']∈el)/\(q i).2.oneCell'=true:=by
    refine ⟨λi=>if h:i<len then Classical.choose (each i h) else default,λi h=>?_⟩;simp only [dif_pos h];exact Classical.choose_spec (each i h)
   refine ⟨(List.range len).map λi=>(q i).1,.sl none _ blk off len cap (λj=>(q j).2) (by simp) hbl hl (λj hj=>?_) (λj hj=>?_) (λj hj=>?_),?_,.inr ⟨_,_,rfl,by simp [hlen],?_⟩⟩
   . have hj':j<len:=by simpa using hj
     simp only [List.getElem_map,List.getElem_range];exact (hq j hj').2.1
   . exact (hq j (by simpa using hj)).2.2.2.2
   . have hj':j<len:=by simpa using hj
     obtain ⟨r0,_,_,_,hone⟩:=hq j hj';intro i u hi;have e:(q j).2.cells.toList=[(q j).2]:=by
      generalize (q j).2=x at hone;cases x<;>simp_all [Value.oneCell',Value.cells]
     rw [e] at hi
     match i with
     | 0=>simp at hi; subst hi; simpa [width] using r0
     | i+1=>simp at hi
   . intro L hL;obtain ⟨i,hi,rfl⟩:=List.mem_map.1 hL;exact (hq i (List.mem_range.1 hi)).2.2.1
   . intro L hL;obtain ⟨i,hi,rfl⟩:=List.mem_map.1 hL;exact (hq i (List.mem_range.1 hi)).2.2.2.1
end
theorem mats_of {Ls:List (List (Bool × List Int))} (h:∀ L∈Ls,∀ p∈L,∀ z∈p.2,(Lit.int .u64 z).wf=true):∃ Ms:List (List (Bool × List Nat)),Ls=Ms.map (λM=>M.map λp=>(p.1,p.2.map λx:Nat=>(x:Int)))/\∀ M∈Ms,∀ p∈M,∀ x∈p.2,x<18446744073709551616:=by
 induction Ls with
 | nil=>exact ⟨[],rfl,by simp⟩
 | cons L r ih=>
  obtain ⟨Ms,rfl,hM⟩:=ih λK hK=>h K (by simp [hK]);obtain ⟨M,rfl,hb⟩:=polys_of (h L (by simp));refine ⟨M::Ms,rfl,λK hK=>?_⟩;rcases List.mem_cons.1 hK with rfl | hK
  . exact hb
  . exact hM K hK
end Go.Vw
