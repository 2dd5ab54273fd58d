/- How an argument of type []api.Int (a row of signs and rows of limbs) is read. It names no program. -/
import Derived.Test.YtfdjbmamidmgfaaGreatL3
import Derived.ChangeArms
import Derived.ChangeSame
set_option linter.unusedVariables false
set_option linter.unusedSimpArgs false
namespace Go.Vw
open Go.ChangeShapes Go.WideShapes
open Go.RowKit (Below)
section
variable {H:Type} {enc:TypeId × Value->H} {P:Program} {w:World}
theorem cell_at {a:Addr} {v:Value} (h:w.cell? a=some v):a.spot=none/\a.block<w.heap.size:=by
 unfold World.cell? at h;split at h
 . rename_i hh;refine ⟨?_,?_⟩
   . cases hs:a.spot with
     | none=>rfl
     | some x=>rw [hs] at h; simp at h
   . by_cases hb:a.block<w.heap.size
     . exact hb
     . simp [Array.getElem?_eq_none (Nat.le_of_not_lt hb)] at hh
 . cases h
theorem add_zero' (a:Addr):a.add 0=a:=by simp [Addr.add]
theorem open_inner {tr e:TypeId} {k:IntKind} {fuel:Nat} {c1:Value} {y:DataW H × List MemPlace} (hr:P.underlying tr=some (.slice e)) (he:P.underlying e=some (.int k)) (hce:P.cellsOf e=1)
 (h:DataW.trod enc P w 0 (λ_=>true) true fuel tr [c1]=some y):
 ∃ zs:List Int,RelV w (λb=>b<w.heap.size) (.sl none (zs.map λz=>V.i k z)) c1/\(∀ z∈zs,(Lit.int k z).wf=true)/\(zs=[]\/∃ spare,y.1= .slice (lits k zs) spare)/\c1.oneCell'=true:=by
 rcases open_ints hr he hce h with ⟨hcs,hx⟩ | ⟨a,len,cap,zs,hcs,_,hl,hm,hz,hx,hcell,hwz⟩
 . simp only [List.cons.injEq,and_true] at hcs;subst hcs;exact ⟨[],.nil _,by simp,.inl rfl,rfl⟩
 . simp only [List.cons.injEq,and_true] at hcs;subst hcs;subst hx;simp only [if_true] at hz;rcases Nat.eq_zero_or_pos cap with h0 | h0
   . subst h0;obtain rfl:len=0:=by omega
     exact ⟨[],.void _ _,by simp,.inl rfl,rfl⟩
   . obtain ⟨hs,hb⟩:=cell_at (hcell 0 (by omega));rw [add_zero'] at hs hb;obtain ⟨blk,off,spot⟩:=a;simp only at hs hb;subst hs;refine ⟨zs.take len,.sl none _ blk off len cap (λj=>.int k (zs.getD j 0)) (by simp; omega) hb hl (λj hj=>?_) (λj _=>rfl) (λj hj=>?_),λz hz=>hwz z (List.mem_of_mem_take hz),.inr ⟨_,rfl⟩,rfl⟩
     . have hj':j<len/\j<zs.length:=by simp at hj; omega
       simp only [List.getElem_map,List.getElem_take];rw [show zs.getD j 0=zs[j] by simp [List.getD,hj'.2]];exact .i _ _
     . have hj':j<len/\j<zs.length:=by simp at hj; omega
       intro i v hi;simp only [Value.cells] at hi;cases i with
       | zero=>
        simp at hi; subst hi;have:=hcell j hj'.2;rw [Addr.add_mid] at this
        simpa [width] using this
       | succ i=>simp at hi
theorem cells_two {a:Addr} {cs:List Value} (h:w.cells? 0 a 2=some cs):∃ c0 c1,cs=[c0,c1]/\w.cell? a=some c0/\w.cell? (a.add 1)=some c1:=by
 unfold World.cells? at h;rw [if_pos (Nat.zero_le _)] at h;simp only [List.range_succ,List.range_zero,List.nil_append,List.singleton_append,List.mapM_cons,List.mapM_nil,add_zero',Option.bind_eq_bind,Option.pure_def] at h;cases h0:w.cell? a with
 | none=>rw [h0] at h; simp at h
 | some c0=>
  cases h1:w.cell? (a.add 1) with
  | none=>rw [h0,h1] at h; simp at h
  | some c1=>
   rw [h0,h1] at h;simp at h;exact ⟨c0,c1,h.symm,rfl,rfl⟩
theorem open_pair {t tb tr e:TypeId} {f0 f1:Field} {k:IntKind} {fuel:Nat} {c0 c1:Value} {x:DataW H × List MemPlace}
 (ht:P.underlying t=some (.struct #[f0,f1])) (h0:f0.offset=0/\f0.type=tb) (h1:f1.offset=1/\f1.type=tr) (hc0:P.cellsOf tb=1) (hc1:P.cellsOf tr=1)
 (hb:P.underlying tb=some .bool) (hr:P.underlying tr=some (.slice e)) (he:P.underlying e=some (.int k)) (hce:P.cellsOf e=1)
 (h:DataW.trod enc P w 0 (λ_=>true) true fuel t [c0,c1]=some x):
 ∃ (n:Bool) (zs:List Int),RelV w (λb=>b<w.heap.size) (.agg [.b n,.sl none (zs.map λz=>V.i k z)]) (.agg #[c0,c1])/\(∀ z∈zs,(Lit.int k z).wf=true)/\
  (∃ y,x.1= .agg [.lit (.bool n),y]/\(zs=[]\/∃ spare,y= .slice (lits k zs) spare))/\Shape (some 2) (.agg #[c0,c1]):=by
 obtain ⟨y0,y1,n,hx,_,t0,t1⟩:=trod_struct2 ht h;rw [h0.1,h0.2,hc0] at t0;rw [h1.1,h1.2,hc1] at t1;simp only [List.drop_zero,List.take_succ_cons,List.take_zero,List.drop_succ_cons] at t0 t1;obtain ⟨b,hv0,hy0⟩:=DataW.trod_bool hb t0;simp only [List.cons.injEq,and_true] at hv0;subst hv0;obtain ⟨zs,rel,wf,hd,hone⟩:=open_inner hr he hce t1;have hall:∀ c∈(#[Value.bool b,c1]:Array Value),c.oneCell'=true:=λc hc=>by
  rcases List.mem_cons.1 (Array.mem_toList_iff.2 hc) with rfl | h
  . rfl
  . rcases List.mem_cons.1 h with rfl | h
    . exact hone
    . cases h
 refine ⟨b,zs,.agg _ _ rfl hall (λj hj=>?_),wf,⟨y1.1,by rw [hx,hy0],hd⟩,⟨_,rfl,rfl,hall⟩⟩
 match j,hj with
 | 0,_=>exact .b _
 | 1,_=>exact rel
theorem open_poly {b0:Nat} {tp t tb tr e:TypeId} {f0 f1:Field} {k:IntKind} {v:Value} {d:DataW H} {ps:List MemPlace} (htp:P.underlying tp=some (.slice t))
 (ht:P.underlying t=some (.struct #[f0,f1])) (h0:f0.offset=0/\f0.type=tb) (h1:f1.offset=1/\f1.type=tr) (hC:P.cellsOf t=2) (hc0:P.cellsOf tb=1) (hc1:P.cellsOf tr=1)
 (hb:P.underlying tb=some .bool) (hr:P.underlying tr=some (.slice e)) (he:P.underlying e=some (.int k)) (hce:P.cellsOf e=1)
 (hval:Value.okWide P w .any b0 tp v) (hd:DataW.Trod enc P w 0 (λ_=>true) true tp v d ps):
 ∃ L:List (Bool × List Int),RelV w (λb=>b<w.heap.size) (.sl (some 2) (L.map λp=>V.agg [.b p.1,.sl none (p.2.map λz=>V.i k z)])) v/\(∀ p∈L,∀ z∈p.2,(Lit.int k z).wf=true)/\
  (L=[]\/∃ elems spare,d= .slice elems spare/\elems.length=L.length/\∀ p∈L,p.2=[]\/∃ sp,DataW.agg [.lit (.bool p.1),.slice (lits k p.2) sp]∈elems):=by
 obtain ⟨a0,len,cap,rfl⟩:=okWide_slice htp hval;obtain ⟨fuel,hf⟩:=hd;rcases DataW.trod_slice htp hf with ⟨hcs,hx⟩ | ⟨a,len',cap',elems,rest,n,_,hcs,hx,_,hl,hm,hlen,hel,_,_⟩
 . simp [Value.cells] at hcs;obtain ⟨rfl,rfl,rfl⟩:=hcs;exact ⟨[],.nil _,by simp,.inl rfl⟩
 . simp [Value.cells] at hcs;obtain ⟨rfl,rfl,rfl⟩:=hcs;simp only [Prod.mk.injEq] at hx;obtain ⟨rfl,rfl⟩:=hx;simp only [Value.okWide,htp,Cell.okWide,Cell.ok,World.has] at hval;obtain ⟨_,_,_,hspot,row,cells,hshape,_⟩:=hval;obtain ⟨blk,off,spot⟩:=a;simp only at hspot; subst hspot;have hbl:blk<w.heap.size:=by
    simp only [World.shape?] at hshape;by_cases h:blk<w.heap.size
    . exact h
    . simp [Array.getElem?_eq_none (Nat.le_of_not_lt h)] at hshape
   have each:∀ i,i<len->∃ q:(Bool × List Int) × Value × Value,w.cell? ⟨blk,off+i*2,none⟩=some q.2.1/\w.cell? ⟨blk,off+i*2+1,none⟩=some q.2.2/\
    RelV w (λb=>b<w.heap.size) (.agg [.b q.1.1,.sl none (q.1.2.map λz=>V.i k z)]) (.agg #[q.2.1,q.2.2])/\(∀ z∈q.1.2,(Lit.int k z).wf=true)/\
    (q.1.2=[]\/∃ sp,DataW.agg [.lit (.bool q.1.1),.slice (lits k q.1.2) sp]∈elems.map (·.1))/\Shape (some 2) (.agg #[q.2.1,q.2.2]):=by
    intro i hi;have h:=hel i hi;rw [hC,List.getElem?_eq_getElem (by omega)] at h;rw [Option.bind_eq_some_iff] at h;obtain ⟨cs,g1,g2⟩:=h;obtain ⟨c0,c1,rfl,k0,k1⟩:=cells_two g1;obtain ⟨m,zs,rel,wf,⟨y,hy,hd⟩,hsh⟩:=open_pair ht h0 h1 hc0 hc1 hb hr he hce g2;refine ⟨((m,zs),c0,c1),?_,?_,rel,wf,?_,hsh⟩
    . rw [Addr.add_mid] at k0; exact k0
    . rw [Addr.add_mid,Addr.add_mid] at k1; exact k1
    . rcases hd with hd | ⟨sp,hd⟩
      . exact .inl hd
      . refine .inr ⟨sp,?_⟩;have hm:(elems[i]'(by omega)).1∈elems.map (·.1):=List.mem_map.2 ⟨_,List.getElem_mem _,rfl⟩;rw [hy,hd] at hm;exact hm
   obtain ⟨q,hq⟩:∃ q:Nat->(Bool × List Int) × Value × Value,∀ i (h:i<len),w.cell? ⟨blk,off+i*2,none⟩=some (q i).2.1/\w.cell? ⟨blk,off+i*2+1,none⟩=some (q i).2.2/\
    RelV w (λb=>b<w.heap.size) (.agg [.b (q i).1.1,.sl none ((q i).1.2.map λz=>V.i k z)]) (.agg #[(q i).2.1,(q i).2.2])/\(∀ z∈(q i).1.2,(Lit.int k z).wf=true)/\
    ((q i).1.2=[]\/∃ sp,DataW.agg [.lit (.bool (q i).1.1),.slice (lits k (q i).1.2) sp]∈elems.map (·.1))/\Shape (some 2) (.agg #[(q i).2.1,(q i).2.2]):=by
    refine ⟨λi=>if h:i<len then Classical.choose (each i h) else default,λi h=>?_⟩;simp only [dif_pos h];exact Classical.choose_spec (each i h)
   refine ⟨(List.range len).map λi=>(q i).1,.sl (some 2) _ blk off len cap (λj=>.agg #[(q j).2.1,(q j).2.2]) (by simp) hbl hl (λj hj=>?_) (λj hj=>?_) (λj hj=>?_),?_,.inr ⟨_,_,rfl,by simp [hlen],?_⟩⟩
   . have hj':j<len:=by simpa using hj
     simp only [List.getElem_map,List.getElem_range];exact (hq j hj').2.2.1
   . exact (hq j (by simpa using hj)).2.2.2.2.2
   . have hj':j<len:=by simpa using hj
     obtain ⟨r0,r1,_⟩:=hq j hj';intro i u hi;simp only [Value.cells] at hi
     match i with
     | 0=>simp at hi; subst hi; simpa [width] using r0
     | 1=>simp at hi; subst hi; simpa [width] using r1
     | i+2=>simp at hi
   . intro p hp;obtain ⟨i,hi,rfl⟩:=List.mem_map.1 hp;exact (hq i (List.mem_range.1 hi)).2.2.2.1
   . intro p hp;obtain ⟨i,hi,rfl⟩:=List.mem_map.1 hp;exact (hq i (List.mem_range.1 hi)).2.2.2.2.1
end
theorem polys_of {L:List (Bool × List Int)} (h:∀ p∈L,∀ z∈p.2,(Lit.int .u64 z).wf=true):∃ M:List (Bool × List Nat),L=M.map (λp=>(p.1,p.2.map λx:Nat=>(x:Int)))/\∀ p∈M,∀ x∈p.2,x<18446744073709551616:=by
 induction L with
 | nil=>exact ⟨[],rfl,by simp⟩
 | cons q r ih=>
  obtain ⟨M,rfl,hM⟩:=ih λp hp=>h p (by simp [hp]);obtain ⟨l,hl,hb⟩:=nats_of (h q (by simp));refine ⟨(q.1,l)::M,?_,λp hp=>?_⟩
  . simp only [List.map_cons];rw [<- hl]
  . rcases List.mem_cons.1 hp with rfl | hp
    . exact hb
    . exact hM p hp
end Go.Vw
