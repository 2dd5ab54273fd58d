/- The rules of the walk over slim code, contracts, drawn regions (second part). A base for the claims of this seat; it names no program. -/
import Derived.Test.YtfdjbmamidmgfaaGreatVX
import Derived.Still
import Derived.Scope
import Derived.Laws.Externs
import Derived.IntWalk
set_option linter.unusedVariables false
set_option linter.unusedSimpArgs false
namespace Go.Vw
open Go.RowKit (Below)
section
variable {P:Program} {A:Nat->Prop} {w0:Base} {n:Nat} {o:Oper} {S:St}
theorem sound_call {c:Call} {so:SO} (ho:o.op= .call c) (hs:slimCall P o c=some so) (hd:∀ t,o.dst=some t->t<n) (pd:List Nat) (hcall:∀ f args,so≠.call f args):Sound P A w0 n o S (aop pd S o.dst so):=by
 unfold slimCall at hs;split at hs
 . split at hs
   . simp only [Option.some.injEq] at hs; exact absurd hs.symm (hcall _ _)
   . cases hs
 . rename_i hc;split at hs
   . rename_i x T ha ht;split at hs
     . rename_i e hT;simp only [Option.map_eq_some_iff] at hs;obtain ⟨sx,hx,rfl⟩:=hs;simp only [aop];split
       . rename_i sz xs hev; intro _; exact ok_len hd ho hc ha ht hT hx hev
       . intro h; cases h
       . rename_i r g off len hev; rintro ⟨_,hg⟩; exact ok_len_own hd ho hc ha ht hT hx hev hg
       . trivial
     . rename_i hT;simp only [Option.map_eq_some_iff] at hs;obtain ⟨sx,hx,rfl⟩:=hs;simp only [aop];split
       . intro h; cases h
       . rename_i s hev; intro _; exact ok_len_str hd ho hc ha ht hT hx hev
       . rintro ⟨h,_⟩; cases h
       . trivial
     . cases hs
   . cases hs
 . rename_i hc;split at hs
   . rename_i x y T T' ha ht;split at hs
     . rename_i e _ hT hT';split at hs
       . rename_i sz zv ti sx sy hsz hzv hti hx hy;split at hs
         . rename_i hcond;simp only [Option.some.injEq] at hs; subst hs;simp only [Bool.and_eq_true,beq_iff_eq] at hcond;obtain ⟨rfl,hpos⟩:=hcond;simp only [aop];split
           . rename_i r g off len cy ys d hev hel hdst;split
             . rename_i T' sz' xs hobj;split
               . rintro ⟨hcy,hg,rfl,rfl,rfl,hle,hb,h47⟩;exact ok_append (T:=T) hd ho hc ha ht hT hsz hzv hti (pos_of hpos) hx hy hev hel hcy hobj hg hle hb h47 true
               . rintro ⟨hcy,hg,rfl,rfl,rfl,hle,hb,h47⟩;exact ok_append (T:=T) hd ho hc ha ht hT hsz hzv hti (pos_of hpos) hx hy hev hel hcy hobj hg hle hb h47 false
             . trivial
           . trivial
         . cases hs
       . cases hs
     . rename_i e kn hT hT';split at hs
       . rename_i sz zv ti sx sy hsz hzv hti hx hy;split at hs
         . rename_i hpos;simp only [Option.some.injEq] at hs; subst hs;simp only [aop];split
           . rename_i r g off len kq m d hev hel hdst;split
             . rename_i T' sz' xs hobj;split
               . rintro ⟨h0,hg,rfl,rfl,rfl,hle,hb,h47⟩;exact ok_appendZ (T:=T) hd ho hc ha ht hT hT' hsz hzv hti (pos_of hpos) hx hy hev hel h0 hobj hg hle hb h47 true
               . rintro ⟨h0,hg,rfl,rfl,rfl,hle,hb,h47⟩;exact ok_appendZ (T:=T) hd ho hc ha ht hT hT' hsz hzv hti (pos_of hpos) hx hy hev hel h0 hobj hg hle hb h47 false
             . trivial
           . trivial
         . cases hs
       . cases hs
     . cases hs
   . cases hs
 . rename_i hc;split at hs
   . rename_i x y T T' ha ht;split at hs
     . rename_i hTT;simp only [beq_iff_eq] at hTT; subst hTT;split at hs
       . rename_i e hT;split at hs
         . rename_i sz sx sy hsz hx hy;simp only [Option.some.injEq] at hs; subst hs;simp only [aop];split
           . rename_i r g off len cy ys hev hel;split
             . rename_i T' sz' xs hobj;rintro ⟨hcy,hg,rfl,hle⟩;exact ok_copy (T:=T) hd ho hc ha ht hT hsz hx hy hev hel hcy hobj hg hle
             . trivial
           . trivial
         . cases hs
       . cases hs
     . cases hs
   . cases hs
 . rename_i hc;split at hs
   . rename_i x y ha;split at hs
     . rename_i sx sy hx hy;simp only [Option.some.injEq] at hs; subst hs;simp only [aop];split
       . rename_i k i k' i' hev hev'; intro _; exact ok_mm (isMax:=true) hd ho hc ha hx hy hev hev'
       . trivial
     . cases hs
   . cases hs
 . rename_i hc;split at hs
   . rename_i x y ha;split at hs
     . rename_i sx sy hx hy;simp only [Option.some.injEq] at hs; subst hs;simp only [aop];split
       . rename_i k i k' i' hev hev'; intro _; exact ok_mm (isMax:=false) hd ho hc ha hx hy hev hev'
       . trivial
     . cases hs
   . cases hs
 . cases hs
theorem isNilC_spec {x:Operand} (h:isNilC x=true):x= .const (.slice none 0 0):=by
 unfold isNilC at h;split at h
 . rfl
 . cases h
theorem mv_sound {T:TypeId} {x:Operand} {so:SO} (hs:slimMv P T x=some so) (hd:∀ t,o.dst=some t->t<n) (pd:List Nat) (ho:o.op= .move x\/o.op= .assign x):Sound P A w0 n o S (aop pd S o.dst so):=by
 unfold slimMv at hs;split at hs
 . rename_i hn;have hx:=isNilC_spec hn;split at hs
   . rename_i e hT;split at hs
     . rename_i sz hsz;simp only [Option.some.injEq] at hs; subst hs;simp only [aop];split
       . rename_i d hdst;split
         . intro _ a w hR;obtain ⟨μ,H,rel⟩:=hR.ex;obtain ⟨H',K⟩:=H.change (w':=w) d ⟨(S.h d).g+1,some (.arr e sz [])⟩ (.slice none 0 0) (Nat.le_refl _) (λ_ _ _=>rfl) (λb _ hb=>by simp [blk] at hb)
            (λob hob _ _=>by
             simp only [Option.some.injEq] at hob; subst hob;exact ⟨[],⟨by simp,.inl ⟨rfl,rfl⟩⟩,⟨[],rfl,by simp,by simp,rfl⟩⟩) (.inl (by simp))
           refine ⟨.value (.slice none 0 0),w,by subst hx; rcases ho with h | h<;>simp [execOp,h,Act.eval],.inl ⟨_,rfl,?_⟩⟩;exact RelSt.put' rel hR.size hR.defers hR.new H' K hR.below hd (.own _ _ _ _ _ (by simp) (by simp [SubOf]))
         . intro _;refine pure_ok hd λa w μ H rel=>⟨.slice none 0 0,by subst hx; rcases ho with h | h<;>simp [execOp,h,Act.eval],.p _ _ (.nil _)⟩
       . trivial
     . cases hs
   . cases hs
 . split at hs
   . simp only [Option.some.injEq] at hs; subst hs;intro _;exact pure_ok hd λa w μ H rel=>⟨.nilFunc,by rcases ho with h | h<;>simp [execOp,h,Act.eval],.any _⟩
   . simp only [Option.map_eq_some_iff] at hs;obtain ⟨sx,hx,rfl⟩:=hs;intro _; exact ok_mv hd ho hx
theorem run_equal_nil {T e:TypeId} (hT:P.underlying T=some (.slice e)) (d:Nat) (a:Option Addr) (m c:Nat) (w:World):
 (Op.equalIn (d+1) T (.slice a m c) (.slice none 0 0)).run P w= .ok a.isNone w:=by
 cases a<;>simp only [Op.equalIn,Sem.run_bind,run_underlying hT,Result.andThen_ok,Sem.run_pure]<;>rfl
theorem run_isNil {T e:TypeId} (hT:P.underlying T=some (.slice e)) (x y:Operand) (val:Value) (a:Option Addr) (m c:Nat) (hv:val= .slice a m c) (w:World) {op:BinOp} (hop:op= .eql\/op= .neq):
 (eqGuard op T x y val (.slice none 0 0)).run P w= .ok () w/\(binOp op T val (.slice none 0 0)).run P w= .ok (.bool (if op= .eql then a.isNone else !a.isNone)) w:=by
 subst hv;have:=run_equal_nil hT 9999 a m c w;rcases hop with rfl | rfl
 . refine ⟨by simp [eqGuard],?_⟩;show (do pure (.bool (<- Op.equalIn (9999+1) T (.slice a m c) (.slice none 0 0))):Sem Value).run P w=_;rw [Sem.run_bind,this];rfl
 . refine ⟨by simp [eqGuard],?_⟩;show (do pure (.bool (!(<- Op.equalIn (9999+1) T (.slice a m c) (.slice none 0 0)))):Sem Value).run P w=_;rw [Sem.run_bind,this];rfl
set_option maxHeartbeats 1000000 in
theorem op_sound {so:SO} (hs:slimOp P o=some so) (hd:∀ t,o.dst=some t->t<n) (pd:List Nat) (hcall:∀ f args,so≠.call f args):Sound P A w0 n o S (aop pd S o.dst so):=by
 unfold slimOp at hs;split at hs
 . rename_i x ho;exact mv_sound hs hd pd (.inl ho)
 . rename_i x ho;exact mv_sound hs hd pd (.inr ho)
 . rename_i c a b ho;split at hs
   . rename_i sc sa sb hc ha hb;simp only [Option.some.injEq] at hs; subst hs;simp only [aop];split
     . rename_i t hev; intro _; exact ok_pick hd ho hc ha hb hev
     . trivial
   . cases hs
 . rename_i T x ho;simp only [Option.map_eq_some_iff] at hs;obtain ⟨sx,hx,rfl⟩:=hs;simp only [aop];split
   . rename_i v d hev hdst; intro _; exact ok_box hd ho hx hev hdst
   . trivial
 . rename_i T ho;simp only [Option.map_eq_some_iff] at hs;obtain ⟨zs,hz,rfl⟩:=hs;simp only [aop];split
   . rename_i d hdst; intro _; exact ok_alloc hd ho hz hdst
   . trivial
 . rename_i T parts ho;split at hs
   . rename_i fs hT;split at hs
     . rename_i zs ps hz hps;split at hs
       . rename_i hof;simp only [Option.some.injEq] at hs; subst hs;simp only [aop];split
         . rename_i vs hev; intro hok; exact ok_build hd ho hT hz hps hof hev hok
         . trivial
       . cases hs
     . cases hs
   . cases hs
 . rename_i T len parts ho;split at hs
   . rename_i e hT;split at hs
     . rename_i sz zv xs hsz hzv hxs;split at hs
       . rename_i hcond;simp only [Option.some.injEq] at hs; subst hs;simp only [Bool.and_eq_true,beq_iff_eq,decide_eq_true_eq] at hcond;obtain ⟨⟨⟨hpos,hlen⟩,hrow⟩,hsmall⟩:=hcond;simp only [aop];split
         . rename_i vs d hev hdst;split
           . intro hf; exact ok_mkSl_own hd ho hT hsz hzv hxs hlen hrow hsmall (pos_of hpos) hev hf
           . intro hf; exact ok_mkSl hd ho hT hsz hzv hxs hlen hrow hsmall hev hf
         . trivial
       . cases hs
     . cases hs
   . cases hs
 . rename_i T x ho;split at hs
   . rename_i sz sx hsz hx;simp only [Option.some.injEq] at hs; subst hs;simp only [aop];split
     . rename_i sz' v hev; intro h; subst h; exact ok_load_ref hd ho hsz hx hev
     . rename_i r g j hev;split
       . rename_i T' cs hobj; rintro ⟨hg,hp⟩; exact ok_load_box hd ho hsz hx hev hobj hg hp
       . rename_i T' sz' xs hobj; rintro ⟨hg,rfl,hj⟩; exact ok_load_arr hd ho hsz hx hev hobj hg hj
       . trivial
     . trivial
   . cases hs
 . rename_i T x y ho;split at hs
   . rename_i sz sx sy hsz hx hy;simp only [Option.some.injEq] at hs; subst hs;simp only [aop];split
     . rename_i r g j v hev hev';split
       . rename_i T' cs hobj; rintro ⟨hg,hf,hle⟩; exact ok_store_box hd ho hsz hx hy hev hev' hobj hg hf hle
       . rename_i T' sz' xs hobj; rintro ⟨hg,rfl,hf,hj⟩; exact ok_store_arr hd ho hsz hx hy hev hev' hobj hg hf hj
       . trivial
     . trivial
   . cases hs
 . rename_i op T x y Ty ho;split at hs
   . rename_i sx sy hT hx hy;split at hs
     . simp only [Option.some.injEq] at hs; subst hs;simp only [aop];split
       . rename_i b c hev hev'; intro _; exact ok_eqb (neg:=false) hd ho rfl hT hx hy hev hev'
       . trivial
     . simp only [Option.some.injEq] at hs; subst hs;simp only [aop];split
       . rename_i b c hev hev'; intro _; exact ok_eqb (neg:=true) hd ho rfl hT hx hy hev hev'
       . trivial
     . cases hs
   . rename_i e sx _ hT hx _;split at hs
     . rename_i hn;have hy:=isNilC_spec hn;have key:∀ neg:Bool,(op=if neg then .neq else .eql)->Sound P A w0 n o S (aop pd S o.dst (.isNil neg sx)):=by
        intro neg hop;simp only [aop];split
        . rename_i sz v vs hev;intro _;refine pure_ok hd λa w μ H rel=>?_;have h1:=ev_rel hx rel;rw [hev] at h1;have h2:=p_inv h1;generalize hv:a.eval x=val at*
          cases h2 with
          | sl _ _ b off len cap val _ _ _ _ _ _=>
           obtain ⟨r1,r2⟩:=run_isNil hT x y _ (some ⟨b,off,none⟩) len cap rfl w (op:=op) (by cases neg<;>simp [hop]);have hyv:a.eval y= .slice none 0 0:=by rw [hy]; rfl
           refine ⟨_,by simp only [execOp,ho,hv,hyv,Sem.run_bind,r1,Result.andThen_ok,r2]; rfl,?_⟩;cases neg<;>simp [hop]<;>exact .p _ _ (.b _)
        . rename_i sz hev;intro _;refine pure_ok hd λa w μ H rel=>?_;have h1:=ev_rel hx rel;rw [hev] at h1;have h2:=p_inv h1;generalize hv:a.eval x=val at*
          have:∃ a m c,val= .slice a m c:=by cases h2<;>exact ⟨_,_,_,rfl⟩
          obtain ⟨aa,m,c,hval⟩:=this;obtain ⟨r1,r2⟩:=run_isNil hT x y val aa m c hval w (op:=op) (by cases neg<;>simp [hop]);have hyv:a.eval y= .slice none 0 0:=by rw [hy]; rfl
          refine ⟨_,by simp only [execOp,ho,hv,hyv,Sem.run_bind,r1,Result.andThen_ok,r2]; rfl,.bool _⟩
        . trivial
       split at hs
       . simp only [Option.some.injEq] at hs; subst hs; exact key false rfl
       . simp only [Option.some.injEq] at hs; subst hs; exact key true rfl
       . cases hs
     . cases hs
   . rename_i sx sy _ _ hx hy;simp only [Option.some.injEq] at hs; subst hs;simp only [aop];split
     . rename_i a b hev hev';split
       . rename_i c v hb; intro hc; exact ok_bin hd ho hx hy hev hev' hb hc
       . trivial
     . trivial
   . cases hs
 . rename_i op T x ho;simp only [Option.map_eq_some_iff] at hs;obtain ⟨sx,hx,rfl⟩:=hs;simp only [aop];split
   . rename_i a hev;split
     . rename_i v hb; intro _; exact ok_un hd ho hx hev hb
     . trivial
   . trivial
 . rename_i src dst x ho;split at hs
   . rename_i sx k' k hx hsrc hdst;simp only [Option.some.injEq] at hs; subst hs;simp only [aop];split
     . rename_i k'' i hev; intro _; exact ok_conv hd ho hsrc hdst hx hev
     . trivial
   . rename_i sx e hx hsrc hdst;split at hs
     . rename_i he;simp only [Option.some.injEq] at hs; subst hs;simp only [aop];split
       . rename_i s hev; intro hsz; exact ok_s2b hd ho hsrc hdst he hx hev hsz
       . trivial
     . cases hs
   . rename_i sx e hx hsrc hdst;split at hs
     . rename_i he;simp only [Option.some.injEq] at hs; subst hs;simp only [aop];split
       . rename_i c xs hel; rintro ⟨hc,l,hl⟩; exact ok_b2s hd ho hsrc hdst he hx hel hc hl
       . trivial
     . cases hs
   . cases hs
 . rename_i f first caps ho
   split at hs
   . rename_i hf;simp only [Option.map_eq_some_iff] at hs;obtain ⟨sx,hx,rfl⟩:=hs;simp only [aop];split
     . rename_i vs hev; intro _; exact ok_makeFn hd ho (by simpa using hf) hx hev
     . trivial
   . split at hs
     . rename_i x hfst hcz;simp only [Option.map_eq_some_iff] at hs;obtain ⟨sx,hx,rfl⟩:=hs;simp only [aop];split
       . rename_i r g j hev; rintro ⟨hg,rfl⟩; exact ok_makeB hd ho hfst (by simpa using hcz) hx hev hg
       . trivial
     . cases hs
 . rename_i T l c ho;split at hs
   . rename_i e hT;split at hs
     . rename_i sz zv ti sl hsz hzv hti hl;split at hs
       . rename_i hcond;simp only [Option.some.injEq] at hs; subst hs;simp only [Bool.and_eq_true] at hcond;obtain ⟨⟨hsame,hpos⟩,_⟩:=hcond;simp only [aop];split
         . rename_i k m d hev hdst;split
           . rintro ⟨h0,hb,h47⟩; exact ok_make_pure hd ho hT hsz hzv hti hl hsame (pos_of hpos) hev h0 hb h47
           . rintro ⟨h0,hb,h47⟩; exact ok_make hd ho hT hsz hzv hti hl hsame (pos_of hpos) hev h0 hb h47
         . trivial
       . cases hs
     . cases hs
   . cases hs
 . rename_i T x lo hi ho;split at hs
   . rename_i e sx slo shi hT hx hlo hhi;split at hs
     . rename_i sz hsz;simp only [Option.some.injEq] at hs; subst hs;simp only [aop];split
       . rename_i sz' xs hev;split
         . rename_i l h hl hh; rintro ⟨he,h0,h1,h2⟩;simp only [Option.some.injEq] at he; subst he;exact ok_slice hd ho hT hsz hx hlo hhi hev hl hh h0 h1 h2 rfl
         . trivial
       . split
         . rintro ⟨he,_⟩; cases he
         . trivial
       . rename_i r g off len hev;split
         . rename_i T' sz' xs l h hobj hl hh; rintro ⟨hg,he,h0,h1,h2⟩;simp only [Option.some.injEq] at he; subst he;exact ok_slice_own hd ho hT hsz hx hlo hhi hev hl hh h0 h1 h2 hg hobj
         . trivial
       . trivial
     . cases hs
   . rename_i sx slo shi hT hx hlo hhi;simp only [Option.some.injEq] at hs; subst hs;simp only [aop];split
     . split
       . rintro ⟨he,_⟩; cases he
       . trivial
     . rename_i s hev;split
       . rename_i l h hl hh; rintro ⟨_,h0,h1,h2⟩;exact ok_slice_str hd ho hT hx hlo hhi hev hl hh h0 h1 h2
       . trivial
     . split
       . rintro ⟨_,he,_⟩; cases he
       . trivial
     . trivial
   . cases hs
 . rename_i T x f ho;split at hs
   . rename_i fs sx hT hx;split at hs
     . rename_i fl hf;split at hs
       . rename_i sz hsz;split at hs
         . rename_i hpos;simp only [Option.some.injEq] at hs; subst hs;simp only [aop];split
           . rename_i r g j hev;split
             . rename_i T' cs hobj; intro hg; exact ok_fieldAddr_ptr hd ho hx hT hf hsz (by simpa using hpos) hev hobj hg
             . trivial
           . rename_i k v hev; rintro ⟨hagg,hp⟩; exact ok_fieldAddr_ref hd ho hx hT hf hsz (by simpa using hpos) hev hagg hp
           . trivial
         . cases hs
       . cases hs
     . cases hs
   . cases hs
 . rename_i T x f ho;split at hs
   . rename_i fs sx hT hx;split at hs
     . rename_i fl hf;split at hs
       . rename_i sz hsz;simp only [Option.some.injEq] at hs; subst hs;simp only [aop];split
         . rename_i v hev; rintro ⟨hagg,hp⟩; exact ok_field hd ho hx hT hf hsz hev hagg hp
         . trivial
       . cases hs
     . cases hs
   . cases hs
 . rename_i T x i ho;split at hs
   . rename_i e hT;split at hs
     . rename_i sz sx si hsz hx hi;simp only [Option.some.injEq] at hs; subst hs;simp only [aop];split
       . rename_i sz' xs k m hev hev'; rintro ⟨rfl,h0,hlt⟩; exact ok_indexAddr hd ho hT hsz hx hi hev hev' h0 hlt
       . rename_i r g off len k m hev hev';split
         . rename_i T' sz' xs hobj; rintro ⟨hg,rfl,h0,hlt⟩; exact ok_indexAddr_own hd ho hT hsz hx hi hev hev' hobj hg h0 hlt
         . trivial
       . trivial
     . cases hs
   . cases hs
 . rename_i T x i ho;split at hs
   . rename_i sx si hT hx hi;simp only [Option.some.injEq] at hs; subst hs;simp only [aop];split
     . rename_i s k m hev hev'; rintro ⟨h0,hlt⟩; exact ok_index hd ho hT hx hi hev hev' h0 hlt
     . trivial
   . cases hs
 . rename_i x j ho;simp only [Option.map_eq_some_iff] at hs;obtain ⟨sx,hx,rfl⟩:=hs;simp only [aop];split
   . rename_i vs hev; intro hj; exact ok_extract hd ho hx hev hj
   . trivial
 . rename_i x ho;simp only [Option.map_eq_some_iff] at hs;obtain ⟨sx,hx,rfl⟩:=hs;simp only [aop];split
   . rename_i r g j hev; intro hg; exact ok_nilCheck_ptr hd ho hx hev hg
   . rename_i sz v hev; intro _; exact ok_nilCheck_ref hd ho hx hev
   . rename_i f c hev; intro _; exact ok_nilCheck_clo hd ho hx hev
   . trivial
 . rename_i c ho;exact sound_call ho hs hd pd hcall
 . cases hs
end
end Go.Vw
namespace Go.Vw
open Go.RowKit (Below)
theorem RelObj.lower {w:World} {ok:Nat->Prop} {B B':Nat->Prop} {base:Value} {ob:HObj} (h:RelObj w ok B base ob) (hB:∀ b,blk base=some b->B b->B' b):RelObj w ok B' base ob:=by
 cases ob with
 | box T cs=>obtain ⟨g,cells,h1,h2,h3⟩:=h; exact ⟨g,cells,h1,hB g (by rw [h1]; rfl) h2,h3⟩
 | arr T sz xs=>
  obtain ⟨flat,h1,h2⟩:=h;refine ⟨flat,⟨h1.1,?_⟩,h2⟩;rcases h1.2 with h3 | ⟨g,cap,cur,e1,e2,e3⟩
  . exact .inl h3
  . exact .inr ⟨g,cap,cur,e1,hB g (by rw [e1]; rfl) e2,e3⟩
 | _=>exact h.elim
section
variable {P:Program} {A:Nat->Prop} {w0:Base} {n:Nat} {o:Oper} {S:St}
theorem retSV_rel {w':World} {ok:Nat->Prop} {μ':Nat->Value} {h0 h':Nat->HC} {d:Nat}:∀ {rvs:List RV} {vs:List Value},vs.length=rvs.length->
 (∀ j rv,rvs[j]? =some rv->RelS w' ok μ' h' (svOf h0 d j rv) (vs.getD j undef))->RelS w' ok μ' h' (retSV h0 d rvs) (packed vs)
 | [rv],[v],_,h=>by simpa [packed,retSV] using h 0 rv rfl
 | [],[],_,_=>.tup _ _ rfl (by simp [svsOf])
 | r1::r2::rest,v1::v2::vr,hl,h=>by
  simp only [retSV,packed];refine .tup _ _ (by simp only [svsOf_length]; simpa using hl) λj hj=>?_;have hj':=hj;rw [svsOf_length] at hj';have:=h j ((r1::r2::rest)[j]) (by simp [hj']);rw [svsOf_get _ _ _ _ hj hj']
  simpa [Array.getD_eq_getD_getElem?,List.getD] using this
 | [_],[],hl,_=>by simp at hl
 | [_],_::_::_,hl,_=>by simp at hl
 | [],_::_,hl,_=>by simp at hl
 | _::_::_,[],hl,_=>by simp at hl
 | _::_::_,[_],hl,_=>by simp at hl
theorem RelSt.ret {a:Act} {w w':World} (hR:RelSt A w0 n S a w) {μ:Nat->Value} (H:HeapOK A w w0 μ S.h)
 (rel:∀ t,RelS w (okOf A w μ S.h) μ S.h (S.σ t) (a.tmps.getD t undef)) {d:Option Nat} (hd:∀ t,d=some t->t<n) {rvs:List RV} {vs:List Value}
 (hb:Below w.heap.size w w') (hret:RetOK w w' (okOf A w μ S.h) rvs vs):RelSt A w0 n (S.ret d rvs) (a.put d (packed vs)) w':=by
 have hbelow:BelowX w0 w':=hR.below.grow hb;have hnew:∀ b,w.heap.size<=b->w0.B b:=λb hb=>.inl (Nat.le_trans hR.below.size hb);cases d with
 | none=>
  obtain ⟨H',k⟩:=H.grow hb;have:=RelSt.put' (d:=none) (x:=.any) (val:=packed vs) rel hR.size hR.defers hR.new H' k hbelow (by simp) (.any _)
  simpa [St.ret,St.put] using this
 | some d=>
  let μ':Nat->Value:=λk=>match ownIdx d rvs k with | some j=>vs.getD j undef | none=>μ k
  have hidx:∀ k j,ownIdx d rvs k=some j->k=d+1000*j/\∃ T sz xs,rvs[j]? =some (.own T sz xs):=by
   intro k j hk;by_cases hc:d<=k/\(k-d)%1000=0/\ownAt rvs ((k-d) / 1000)=true
   . rw [ownIdx,if_pos hc,Option.some.injEq] at hk;obtain ⟨c1,c2,c3⟩:=hc;refine ⟨by omega,?_⟩;rw [<- hk];exact ownAt_true c3
   . rw [ownIdx,if_neg hc] at hk; cases hk
  have hidx':∀ j T sz xs,rvs[j]? =some (.own T sz xs)->ownIdx d rvs (d+1000*j)=some j:=by
   intro j T sz xs hj;have e:(d+1000*j-d) / 1000=j:=by omega
   unfold ownIdx;rw [if_pos ⟨by omega,by omega,by rw [e,ownAt,hj]; rfl⟩,e]
  have hsame:∀ k,ownIdx d rvs k=none->retH S.h d rvs k=S.h k:=by intro k hk; simp [retH,hk]
  have hchg:∀ k j T sz xs,ownIdx d rvs k=some j->rvs[j]? =some (.own T sz xs)->retH S.h d rvs k=⟨(S.h k).g+1,some (.arr T sz xs)⟩:=by
   intro k j T sz xs hk hj; simp [retH,hk,hj]
  have hown:∀ j T sz xs,rvs[j]? =some (.own T sz xs)->RelObj w' (okR (okOf A w μ S.h) w w' rvs vs) (w.heap.size<=·) (vs.getD j undef) (.arr T sz xs):=λj T sz xs hj=>hret.rel j _ hj;have hblt:∀ k ob b,(S.h k).o=some ob->blk (μ k)=some b->b<w.heap.size:=λk ob b hob hb'=>((H.obj k ob hob).lt hb').2;have hokR:∀ b,okR (okOf A w μ S.h) w w' rvs vs b->okOf A w' μ' (retH S.h d rvs) b:=by
   rintro b ⟨h1,h2,h3⟩;refine ⟨?_,h2,λk hk hbk=>?_⟩
   . rcases h1 with h1 | h1
     . exact h1.1
     . exact hR.new _ (hnew _ h1)
   . cases hi:ownIdx d rvs k with
     | some j=>
      obtain ⟨_,T,sz,xs,hj⟩:=hidx k j hi;simp only [μ',hi] at hbk;exact h3 j _ hj rfl hbk
     | none=>
      rw [hsame k hi] at hk;simp only [μ',hi] at hbk;obtain ⟨ob,hob⟩:=Option.ne_none_iff_exists'.1 hk;rcases h1 with h1 | h1
      . exact h1.2.2 k hk hbk
      . have:=hblt k ob b hob hbk; omega
  have hok:∀ b,okOf A w μ S.h b->okOf A w' μ' (retH S.h d rvs) b:=by
   intro b hb';refine ⟨hb'.1,Nat.lt_of_lt_of_le hb'.2.1 hb.size,λk hk hbk=>?_⟩;cases hi:ownIdx d rvs k with
   | some j=>
    obtain ⟨_,T,sz,xs,hj⟩:=hidx k j hi;simp only [μ',hi] at hbk;have:=((hown j T sz xs hj).lt hbk).1;have:=hb'.2.1;omega
   | none=>
    rw [hsame k hi] at hk;simp only [μ',hi] at hbk;exact hb'.2.2 k hk hbk
  have hcell:∀ b o,okOf A w μ S.h b->w'.cell? ⟨b,o,none⟩=w.cell? ⟨b,o,none⟩:=λb o hb'=>cell?_of_heap (hb.block b hb'.2.1) o;have K:Keeps A w μ S.h w' μ' (retH S.h d rvs):=by
   refine ⟨hok,hcell,λk=>?_⟩;cases hi:ownIdx d rvs k with
   | some j=>
    obtain ⟨_,T,sz,xs,hj⟩:=hidx k j hi;rw [hchg k j T sz xs hi hj];exact .inl (by simp)
   | none=>
    rw [hsame k hi];exact .inr ⟨rfl,rfl,by simp [μ',hi]⟩
  have H':HeapOK A w' w0 μ' (retH S.h d rvs):=by
   refine ⟨λk ob hob=>?_,λk k' b hk hk' hb1 hb2=>?_,λk g wd v hv=>?_,λk ob hob=>?_⟩
   . cases hi:ownIdx d rvs k with
     | some j=>
      obtain ⟨_,T,sz,xs,hj⟩:=hidx k j hi;rw [hchg k j T sz xs hi hj] at hob;simp only [Option.some.injEq] at hob; subst hob;simp only [μ',hi];exact (((hown j T sz xs hj).keep hokR (λ_ _ _=>rfl) (λ_ _=>rfl)).lower λb _ hb=>hnew b hb).x _ _
     | none=>
      rw [hsame k hi] at hob;have:=(H.obj k ob hob).keep K λb hb'=>hb.block b (hblt k ob b hob hb');simp only [μ',hi];exact this
   . cases hi:ownIdx d rvs k with
     | some j=>
      obtain ⟨e1,T,sz,xs,hj⟩:=hidx k j hi;simp only [μ',hi] at hb1;have h1:=((hown j T sz xs hj).lt hb1).1;cases hi':ownIdx d rvs k' with
      | some j'=>
       obtain ⟨e2,T',sz',xs',hj'⟩:=hidx k' j' hi';simp only [μ',hi'] at hb2;have:=hret.apart j j' _ _ b hj hj' rfl rfl hb1 hb2;subst this; omega
      | none=>
       rw [hsame k' hi'] at hk';simp only [μ',hi'] at hb2;obtain ⟨ob,hob⟩:=Option.ne_none_iff_exists'.1 hk';have:=hblt k' ob b hob hb2; omega
     | none=>
      rw [hsame k hi] at hk;simp only [μ',hi] at hb1;obtain ⟨ob,hob⟩:=Option.ne_none_iff_exists'.1 hk;have h1:=hblt k ob b hob hb1;cases hi':ownIdx d rvs k' with
      | some j'=>
       obtain ⟨e2,T',sz',xs',hj'⟩:=hidx k' j' hi';simp only [μ',hi'] at hb2;have:=((hown j' T' sz' xs' hj').lt hb2).1; omega
      | none=>
       rw [hsame k' hi'] at hk';simp only [μ',hi'] at hb2;exact H.inj k k' b hk hk' hb1 hb2
   . cases hi:ownIdx d rvs k with
     | some j=>
      obtain ⟨_,T,sz,xs,hj⟩:=hidx k j hi;rw [hchg k j T sz xs hi hj];rcases H.giv k g wd v hv with h1 | ⟨h1,_⟩
      . exact .inl (by simp only; omega)
      . exact .inl (by simp only; omega)
     | none=>
      rw [hsame k hi];simp only [μ',hi];exact H.giv k g wd v hv
   . cases hi:ownIdx d rvs k with
     | some j=>
      obtain ⟨_,T,sz,xs,hj⟩:=hidx k j hi;rw [hchg k j T sz xs hi hj] at hob;simp only [Option.some.injEq] at hob; subst hob;intro _ q hq; simp [HObj.refs] at hq
     | none=>
      rw [hsame k hi] at hob;exact H.clo k ob hob
  have hsv:∀ j rv,rvs[j]? =some rv->RelS w' (okOf A w' μ' (retH S.h d rvs)) μ' (retH S.h d rvs) (svOf S.h d j rv) (vs.getD j undef):=by
   intro j rv hj;cases rv with
   | pure v=>exact .p _ _ ((hret.rel j _ hj).mono hokR λ_ _ _=>rfl)
   | own T sz xs=>
    have hi:=hidx' j T sz xs hj;have hh:=hchg _ j T sz xs hi hj;refine .own _ _ _ _ _ (by rw [hh]) ?_;rw [hh];simp only [μ',hi,HC.width,HObj.width];obtain ⟨flat,f1,f2⟩:=hown j T sz xs hj;rcases f1.2 with ⟨hnil,hn⟩ | ⟨b',cap,cur,hbase,hB,hheap,hcap,hmax,hcur,htake⟩
    . rw [hnil,hn]; simp [SubOf]
    . rw [hbase]; exact ⟨_,_,rfl,hcap,.inr ⟨by simp,by omega⟩⟩
  have hput:=λ(x:SV) (hx:RelS w' (okOf A w' μ' (retH S.h d rvs)) μ' (retH S.h d rvs) x (packed vs))=>
   RelSt.put' (d:=some d) (x:=x) (val:=packed vs) rel hR.size hR.defers hR.new H' K hbelow (by intro t ht; exact hd t ht) hx
  simp only [St.put] at hput;exact hput _ (retSV_rel hret.len hsv)
theorem RelSt.given {a:Act} {w w':World} (hR:RelSt A w0 n S a w) {μ:Nat->Value} (H:HeapOK A w w0 μ S.h)
 (rel:∀ t,RelS w (okOf A w μ S.h) μ S.h (S.σ t) (a.tmps.getD t undef)) {d:Option Nat} (hd:∀ t,d=some t->t<n) {r:Nat} {ob o':HObj} (hob:(S.h r).o=some ob) (hw:o'.width=ob.width)
 {gvs:List GV} {vs:List Value} (hb:BelowG (μ r) w w') (hobj:RelObj w' (okG (okOf A w μ S.h) w w' (μ r)) (λ_=>True) (μ r) o') (hl:vs.length=gvs.length)
 (hgv:∀ j gv,gvs[j]? =some gv->RelGV (μ r) ob.width gv (vs.getD j undef)):RelSt A w0 n (S.giv d r o' gvs) (a.put d (packed vs)) w':=by
 have hlive:(S.h r).o≠none:=by rw [hob]; simp
 have hBr:∀ b,blk (μ r)=some b->w0.B b:=λb hb'=>((H.obj r _ hob).lt hb').1;have hltr:∀ b,blk (μ r)=some b->b<w.heap.size:=λb hb'=>((H.obj r _ hob).lt hb').2;have hw1:(S.h r).width=ob.width:=by simp [HC.width,hob]
 obtain ⟨H',k⟩:=H.change (w':=w') r ⟨(S.h r).g,some o'⟩ (μ r) hb.size (λb hlt hne=>hb.block b hlt (hne hlive)) (λb _ h=>.inl ⟨hlive,h⟩)
  (λo1 ho hok hcell=>by
   simp only [Option.some.injEq] at ho; subst ho;refine (hobj.keep (λb hb'=>?_) (λ_ _ _=>rfl) (λ_ _=>rfl)).lower λb h _=>hBr b h;obtain ⟨h1,h2,h3⟩:=hb';refine ⟨?_,h2,λr' hr' hb'=>?_⟩
   . rcases h1 with h1 | h1
     . exact h1.1
     . exact hR.new _ (.inl (Nat.le_trans hR.below.size h1))
   . by_cases e:r'=r
     . subst e; rw [upd_same] at hb'; exact h3 hb'
     . rw [upd_ne _ _ e] at hr' hb';rcases h1 with h1 | h1
       . exact h1.2.2 r' hr' hb'
       . obtain ⟨ob',hob'⟩:=Option.ne_none_iff_exists'.1 hr';have:=((H.obj r' ob' hob').lt hb').2;omega) (.inr ⟨rfl,by rw [hw1]; simpa [HC.width] using hw,rfl⟩)
 have hbelow:BelowX w0 w':=⟨hb.os.trans hR.below.os,hb.tape.trans hR.below.tape,hb.output.trans hR.below.output,Nat.le_trans hR.below.size hb.size,λb h=>(hb.block b (by
  have h1:¬ w0.w.heap.size<=b:=λe=>h (.inl e);have:=hR.below.size;omega) (λe=>h (hBr b e))).trans (hR.below.block b h)⟩
 refine RelSt.put' rel hR.size hR.defers hR.new H' k hbelow hd ?_;have hone:∀ j gv,gvs[j]? =some gv->RelS w' (okOf A w' (upd μ r (μ r)) (upd S.h r ⟨(S.h r).g,some o'⟩)) (upd μ r (μ r)) (upd S.h r ⟨(S.h r).g,some o'⟩) (gvSV r (S.h r).g gv) (vs.getD j undef):=by
  intro j gv hj;have:=hgv j gv hj;cases gv with
  | pure v=>exact .p _ _ (this _ _)
  | sub off len=>
   refine .own _ _ _ _ _ (by simp) ?_;rw [upd_same,upd_same,show HC.width ⟨(S.h r).g,some o'⟩=ob.width from hw];exact this
 match gvs,vs,hl,hone with
 | [gv],[v],_,h=>simpa [packed,gsSV] using h 0 gv rfl
 | [],[],_,_=>exact .tup _ _ rfl (by simp)
 | g1::g2::rest,v1::v2::vr,hl,h=>
  simp only [gsSV,packed];refine .tup _ _ (by simpa using hl) λj hj=>?_;have hj':j<(g1::g2::rest).length:=by simpa using hj
  have:=h j ((g1::g2::rest)[j]) (by simp [hj']);rw [List.getElem_map]
  simpa [Array.getD_eq_getD_getElem?,List.getD] using this
 | [_],[],hl,_=>simp at hl
 | [_],_::_::_,hl,_=>simp at hl
 | [],_::_,hl,_=>simp at hl
 | _::_::_,[],hl,_=>simp at hl
 | _::_::_,[_],hl,_=>simp at hl
theorem enters_run {f : FuncId} {fn : Func} (h1 : P.funcs[f]? = some fn) (h2 : fn.body.isSome = true) (h3 : (fn.name == "runtime.NumGoroutine") = false) (args : Array Value) (w : World) :
 (callFunc f args).run P w= .ok (.enter f args) w:=by
 simp only [callFunc,Sem.run_bind,run_program,Result.andThen_ok,h1];rw [h3];simp [Option.isSome_iff_ne_none.1 h2]
theorem own_whole {w:World} {B:Nat->Prop} {T:TypeId} {size n:Nat} {base val:Value} {flat:List Value} (h:owns w B T size base n flat) (hs:SubOf base size 0 n val):val=base:=by
 rcases h.2 with ⟨hnil,hn⟩ | ⟨b',cap,cur,hbase,hB,hheap,hcap,hmax,hcur,htake⟩
 . rw [hnil] at hs ⊢; exact hs.1
 . rw [hbase] at hs ⊢;simp only [SubOf] at hs;obtain ⟨b,c,hval,hlc,hc⟩:=hs;rcases hc with ⟨hc,hc',hc''⟩ | ⟨hc,hc'⟩
   . omega
   . subst hc;have:c=cap:=by omega
     subst this
     simpa using hval
theorem call_given {c:Call} {fx:Operand} {args:List SX} {sf:SX} (ho:o.op= .call c) (hcal:c.callee= .value fx) (hf:slimX P 0 fx=some sf) (hargs:slimXs P c.args.toList c.argTypes.toList=some args)
 (hd:∀ t,o.dst=some t->t<n) {id0:FuncId} {caps:List V} (hev:S.ev sf= .p (.clo id0 caps)) {s0:SV} {rest:List SV} (hmap:args.map S.ev=s0::rest) {vs0:List V} (hpl:plains rest=some vs0)
 {r:Nat} {ob:HObj} (hob:(S.h r).o=some ob) (hox:∀ {w:World} {ok B:Nat->Prop} {μ:Nat->Value} {h:Nat->HC} {base:Value},RelObjX w ok B μ h base ob->RelObj w ok B base ob)
 (hs0:∀ (w:World) (μ:Nat->Value) (val:Value),HeapOK A w w0 μ S.h->RelS w (okOf A w μ S.h) μ S.h s0 val->val=μ r)
 {R:HObj->List GV->Prop} (hspec:SpecG P id0 ob (vs0++caps) R) {K:St->Prop} (hR':∀ o' gvs,R o' gvs->K (S.giv o.dst r o' gvs))
 {a:Act} {w:World} (hR:RelSt A w0 n S a w)
 {K':Act->World->Prop} {Q:Exit->Act->World->Prop} (hk:∀ S' a' w',K S'->RelSt A w0 n S' a' w'->K' a' w'):o.wp P a w K' Q:=by
 obtain ⟨μ,H,rel⟩:=hR.ex;have hfv:=p_of hf hev rel;have ⟨x0,xs,ts,a0,as,e1,e2,hx0,hxs,e3⟩:∃ x0 xs ts a0 as,c.args.toList=x0::xs/\args=a0::as/\(∃ T,slimX P T x0=some a0)/\slimXs P xs ts=some as/\S.ev a0=s0/\as.map S.ev=rest:=by
  cases hc:c.args.toList with
  | nil=>
   rw [hc] at hargs;simp only [slimXs,Option.some.injEq] at hargs;subst hargs; cases hmap
  | cons x0 xs=>
   rw [hc] at hargs;simp only [slimXs] at hargs;split at hargs
   . rename_i s1 rr hx hr;simp only [Option.some.injEq] at hargs; subst hargs;simp only [List.map_cons,List.cons.injEq] at hmap;exact ⟨x0,xs,_,s1,rr,rfl,rfl,⟨_,hx⟩,hr,hmap⟩
   . cases hargs
 obtain ⟨T0,hx0⟩:=hx0;obtain ⟨e3,e4⟩:=e3;rw [<- e4] at hpl;obtain ⟨hl,hrel⟩:=plains_rel rel _ _ _ _ hxs hpl;have ⟨cv,hcv,hcl,hcr⟩:∃ cv:Array Value,a.eval fx= .func (.func id0) #[] cv/\cv.size=caps.length/\∀ j (h:j<caps.length),RelV w (okOf A w μ S.h) (caps[j]) (cv.getD j undef):=by
  generalize a.eval fx=fv at hfv;cases hfv with
  | clo _ _ vals hlen hr=>exact ⟨vals,rfl,hlen,hr⟩
 have h0:=ev_rel hx0 rel;rw [e3] at h0;have hval:=hs0 w μ _ H h0;have harr:c.args.map a.eval++cv=#[μ r]++((xs.map a.eval).toArray++cv):=by
  apply Array.ext';simp [e1,hval]
 have hrun:(execOp a.eval o).run P w=(callFunc id0 (c.args.map a.eval++cv)).run P w:=by
  simp only [execOp,ho,resolve,hcal,hcv,Deferred.ofValue,Sem.run_bind,Sem.run_pure,Result.andThen_ok,invoke];simp
 have hlive:(S.h r).o≠none:=by rw [hob]; simp
 have hcx:=hspec w (okOf A w μ S.h) (μ r) ((xs.map a.eval).toArray++cv) (λb hb=>hb.2.1) ((hox (H.obj r ob hob)).lower λ_ _ _=>trivial) (λb hb hok=>hok.2.2 r hlive hb) ⟨by simp [hl,hcl],λj hj=>by
  by_cases hjl:j<vs0.length
  . have:=hrel j hjl;rw [List.getElem_append_left hjl];have hja:j<xs.length:=by simpa [hl] using hjl
    simpa [Array.getD_eq_getD_getElem?,List.getD,Array.getElem?_append,hja] using this
  . have hj2:j-vs0.length<caps.length:=by simp at hj; omega
    have:=hcr (j-vs0.length) hj2;rw [List.getElem_append_right (by omega)];have hja:¬ j<xs.length:=by simpa [hl] using hjl
    have hsz:xs.length=vs0.length:=by simpa using hl.symm
    simpa [Array.getD_eq_getD_getElem?,Array.getElem?_append,hja,hsz,hjl] using this⟩
 rw [<- harr] at hcx;unfold Oper.wp;rw [hrun];rcases hcx with ⟨hc1,hc2⟩ | ⟨v,hc1,o',gvs,vals,hr,hw,he,hb,hret⟩
 . rw [hc1];simp only [Oper.upon];refine hc2.mono ?_;rintro e w' ⟨o',gvs,vals,hr,hw,rfl,hb,hobj,hlv,hgv⟩;exact hk _ _ _ (hR' o' gvs hr) (hR.given H rel hd hob hw hb hobj hlv hgv)
 . rw [hc1];obtain ⟨hobj,hlv,hgv⟩:=hret;simp only [Ending.returned.injEq] at he;subst he;exact hk _ _ _ (hR' o' gvs hr) (hR.given H rel hd hob hw hb hobj hlv hgv)
theorem call_bound {c:Call} {fx:Operand} {args:List SX} {sf:SX} (ho:o.op= .call c) (hcal:c.callee= .value fx) (hf:slimX P 0 fx=some sf) (hargs:slimXs P c.args.toList c.argTypes.toList=some args)
 (hd:∀ t,o.dst=some t->t<n) {id0:FuncId} {r g:Nat} (hev:S.ev sf= .bnd id0 r g) (hg:g=(S.h r).g) {vs0:List V} (hpl:plains (args.map S.ev)=some vs0)
 {T:TypeId} {cs:List V} (hob:(S.h r).o=some (.box T cs))
 {R:HObj->List GV->Prop} (hspec:SpecG P id0 (.box T cs) vs0 R) {K:St->Prop} (hR':∀ o' gvs,R o' gvs->K (S.giv o.dst r o' gvs))
 {a:Act} {w:World} (hR:RelSt A w0 n S a w)
 {K':Act->World->Prop} {Q:Exit->Act->World->Prop} (hk:∀ S' a' w',K S'->RelSt A w0 n S' a' w'->K' a' w'):o.wp P a w K' Q:=by
 obtain ⟨μ,H,rel⟩:=hR.ex;have hfv:=ev_rel hf rel;rw [hev] at hfv;obtain ⟨hl,hrel⟩:=plains_rel rel _ _ _ _ hargs hpl;have hcv:a.eval fx= .func (.func id0) #[μ r] #[]:=by
  generalize a.eval fx=fv at hfv;cases hfv with
  | bnd_stale _ _ _ _ hlt=>omega
  | bnd _ _ _ pv _ hs=>
   obtain ⟨b,cells,hbase,_⟩:=H.obj r _ hob;obtain ⟨b2,hb2,hval⟩:=hs;rw [hbase] at hb2 ⊢;simp only [blk,Option.some.injEq] at hb2; subst hb2;rw [hval]; simp
 have hrun:(execOp a.eval o).run P w=(callFunc id0 (#[μ r]++c.args.map a.eval)).run P w:=by
  simp only [execOp,ho,resolve,hcal,hcv,Deferred.ofValue,Sem.run_bind,Sem.run_pure,Result.andThen_ok,invoke];simp
 have hlive:(S.h r).o≠none:=by rw [hob]; simp
 have hcx:=hspec w (okOf A w μ S.h) (μ r) (c.args.map a.eval) (λb hb=>hb.2.1) ((show RelObj _ _ _ _ (.box T cs) from H.obj r _ hob).lower λ_ _ _=>trivial) (λb hb hok=>hok.2.2 r hlive hb) ⟨by simp [hl],λj hj=>by
  have:=hrel j hj;have hja:j<c.args.size:=by simpa [hl] using hj
  simpa [Array.getD_eq_getD_getElem?,List.getD,hja] using this⟩
 unfold Oper.wp;rw [hrun];rcases hcx with ⟨hc1,hc2⟩ | ⟨v,hc1,o',gvs,vals,hr,hw,he,hb,hret⟩
 . rw [hc1];simp only [Oper.upon];refine hc2.mono ?_;rintro e w' ⟨o',gvs,vals,hr,hw,rfl,hb,hobj,hlv,hgv⟩;exact hk _ _ _ (hR' o' gvs hr) (hR.given H rel hd hob hw hb hobj hlv hgv)
 . rw [hc1];obtain ⟨hobj,hlv,hgv⟩:=hret;simp only [Ending.returned.injEq] at he;subst he;exact hk _ _ _ (hR' o' gvs hr) (hR.given H rel hd hob hw hb hobj hlv hgv)
theorem op_wp {so:SO} (hs:slimOp P o=some so) (hd:∀ t,o.dst=some t->t<n) (pd:List Nat) {K:St->Prop} (h:ACore P pd o.dst so K S) {a:Act} {w:World} (hR:RelSt A w0 n S a w)
 {K':Act->World->Prop} {Q:Exit->Act->World->Prop} (hk:∀ S' a' w',K S'->RelSt A w0 n S' a' w'->K' a' w'):o.wp P a w K' Q:=by
 by_cases hcall:∃ f args,so= .call f args
 . obtain ⟨f,args,rfl⟩:=hcall;obtain ⟨μ,H,rel⟩:=hR.ex;have ⟨c,ho,hc⟩:∃ c,o.op= .call c/\slimCall P o c=some (.call f args):=by
    unfold slimOp slimMv at hs;split at hs
    case h_22=>rename_i c ho; exact ⟨c,ho,hs⟩
    all_goals (exfalso; revert hs; (repeat' split)<;>simp)
   have ⟨fx,hcal,hf,hargs⟩:∃ fx,c.callee= .value fx/\slimX P 0 fx=some f/\slimXs P c.args.toList c.argTypes.toList=some args:=by
    unfold slimCall at hc;split at hc
    . rename_i fx hcal;split at hc
      . rename_i f' args' hf hargs;simp only [Option.some.injEq,SO.call.injEq] at hc;obtain ⟨rfl,rfl⟩:=hc;exact ⟨fx,hcal,hf,hargs⟩
      . cases hc
    all_goals (exfalso; revert hc; (repeat' split)<;>simp)
   have hX:XCore P o.dst (.call f args) K S->o.wp P a w K' Q:=by
    intro hx;simp only [XCore] at hx;split at hx
    . rename_i id caps hev;exact callX_wp (A:=A) (w0:=w0) ho hcal hf hargs hd hev hx hR hk
    . exact hx.elim
   simp only [ACore] at h;split at h
   . rename_i haop; exfalso; revert haop; simp only [aop]; (repeat' split)<;>simp
   . rename_i id vs haop;rcases h with h | h
     rotate_left
     . exact hX h
     simp only [aop] at haop;split at haop
     . rename_i id0 caps vs0 hev hpl;simp only [AR.call.injEq] at haop;obtain ⟨rfl,rfl⟩:=haop;obtain ⟨R,hspec,hR'⟩:=h;have hfv:=p_of hf hev rel;obtain ⟨hl,hrel⟩:=plains_rel rel _ _ _ _ hargs hpl;have ⟨cv,hcv,hcl,hcr⟩:∃ cv:Array Value,a.eval fx= .func (.func id0) #[] cv/\cv.size=caps.length/\∀ j (h:j<caps.length),RelV w (okOf A w μ S.h) (caps[j]) (cv.getD j undef):=by
        generalize a.eval fx=fv at hfv;cases hfv with
        | clo _ _ vals hlen hr=>exact ⟨vals,rfl,hlen,hr⟩
       have hrun:(execOp a.eval o).run P w=(callFunc id0 (c.args.map a.eval++cv)).run P w:=by
        simp only [execOp,ho,resolve,hcal,hcv,Deferred.ofValue,Sem.run_bind,Sem.run_pure,Result.andThen_ok,invoke];simp
       have hcx:=hspec w (okOf A w μ S.h) (c.args.map a.eval++cv) (λb hb=>hb.2.1) ⟨by simp [hl,hcl],λj hj=>by
        by_cases hjl:j<vs0.length
        . have:=hrel j hjl;rw [List.getElem_append_left hjl];have hja:j<c.args.size:=by simpa [hl] using hjl
          simpa [Array.getD_eq_getD_getElem?,List.getD,Array.getElem?_append,hja] using this
        . have hj2:j-vs0.length<caps.length:=by simp at hj; omega
          have:=hcr (j-vs0.length) hj2;rw [List.getElem_append_right (by omega)];have hja:¬ j<c.args.size:=by simpa [hl] using hjl
          have hsz:c.args.size=vs0.length:=by simpa using hl.symm
          have hjv:¬ j<vs0.length:=hjl
          simpa [Array.getD_eq_getD_getElem?,Array.getElem?_append,hja,hsz,hjv] using this⟩
       unfold Oper.wp;rw [hrun];rcases hcx with ⟨hc1,hc2⟩ | ⟨v,hc1,rvs,vals,hr,he,hb,hret⟩
       . rw [hc1];simp only [Oper.upon];refine hc2.mono ?_;rintro e w' ⟨rvs,vals,hr,rfl,hb,hret⟩;exact hk _ _ _ (hR' rvs hr) (hR.ret H rel hd hb hret)
       . rw [hc1];simp only [Ending.returned.injEq] at he;subst he;exact hk _ _ _ (hR' rvs hr) (hR.ret H rel hd hb hret)
     . exfalso; revert haop; (repeat' split)<;>simp
     . exfalso; revert haop; (repeat' split)<;>simp
     . cases haop
   . rename_i id cnd r ob vs haop;obtain ⟨hcnd,h⟩:=h;rcases h with h | h
     rotate_left
     . exact hX h
     replace h:=And.intro hcnd h;simp only [aop] at haop;split at haop
     . cases haop
     . rename_i id0 caps hev hpl;split at haop
       . rename_i r0 g off len rest hmap;split at haop
         . rename_i T sz xs vs0 hob hplr;simp only [AR.callG.injEq] at haop;obtain ⟨rfl,rfl,rfl,rfl,rfl⟩:=haop;obtain ⟨⟨hg,rfl,rfl⟩,R,hspec,hR'⟩:=h;refine call_given (A:=A) (w0:=w0) ho hcal hf hargs hd hev hmap hplr hob (λh=>h) (λw μ val H hs=>?_) hspec hR' hR hk;obtain ⟨flat,hown,hflat⟩:=H.obj r0 _ hob;have hs':=own_inv hs hg;rw [show (S.h r0).width=width sz by simp [HC.width,hob,HObj.width]] at hs';exact own_whole hown hs'
         . cases haop
       . rename_i r0 g j rest hmap;split at haop
         . rename_i T cs vs0 hob hplr;simp only [AR.callG.injEq] at haop;obtain ⟨rfl,rfl,rfl,rfl,rfl⟩:=haop;obtain ⟨⟨hg,rfl⟩,R,hspec,hR'⟩:=h;refine call_given (A:=A) (w0:=w0) ho hcal hf hargs hd hev hmap hplr hob (λh=>h) (λw μ val H hs=>?_) hspec hR' hR hk;obtain ⟨b,cells,hbase,_⟩:=H.obj r0 _ hob;obtain ⟨b2,hb2,hval⟩:=ptr_inv hs hg;rw [hbase] at hb2 ⊢;simp only [blk,Option.some.injEq] at hb2; subst hb2
           simpa using hval
         . cases haop
       . cases haop
     . rename_i id0 r0 g vs0 hev hpl;split at haop
       . rename_i T cs hob;simp only [AR.callG.injEq] at haop;obtain ⟨rfl,rfl,rfl,rfl,rfl⟩:=haop;obtain ⟨hg,R,hspec,hR'⟩:=h;exact call_bound (A:=A) (w0:=w0) ho hcal hf hargs hd hev hg hpl hob hspec hR' hR hk
       . cases haop
     . cases haop
   . exact hX h
 . have hsnd:=op_sound (A:=A) (w0:=w0) (S:=S) hs hd pd (λf args e=>hcall ⟨f,args,e⟩);unfold ACore at h;split at h
   . rename_i c x δ haop;rw [haop] at hsnd;obtain ⟨nx,w',hrun,hres⟩:=hsnd h.1 a w hR;unfold Oper.wp;rw [hrun];rcases hres with ⟨u,rfl,hR'⟩ | ⟨rfl,hR'⟩
     . exact hk _ _ _ h.2 hR'
     . exact hk _ _ _ h.2 hR'
   . rename_i f args haop;exfalso;cases so<;>simp only [aop] at haop<;>first | exact hcall ⟨_,_,rfl⟩ | (revert haop; (repeat' split)<;>simp)
   . rename_i f cnd r ob args haop;exfalso;cases so<;>simp only [aop] at haop<;>first | exact hcall ⟨_,_,rfl⟩ | (revert haop; (repeat' split)<;>simp)
   . have hsx:=opX_sound (A:=A) (w0:=w0) (S:=S) hs hd;have h':∃ c x δ,aopX S o.dst so= .v c x δ/\c/\K ((S.heap δ).put o.dst x):=by
      unfold XCore at h;split at h
      . exact absurd ⟨_,_,rfl⟩ hcall
      . split at h
        . rename_i c x δ haop; exact ⟨c,x,δ,haop,h⟩
        . exact h.elim
     obtain ⟨c,x,δ,haop,hc,hK⟩:=h';rw [haop] at hsx;obtain ⟨nx,w',hrun,hres⟩:=hsx hc a w hR;unfold Oper.wp;rw [hrun];rcases hres with ⟨u,rfl,hR'⟩ | ⟨rfl,hR'⟩
     . exact hk _ _ _ hK hR'
     . exact hk _ _ _ hK hR'
end
end Go.Vw
namespace Go.Vw
open Go.RowKit (Below)
inductive SC where
 | skip
 | seq (a b:SC)
 | reg (ops:List SOp)
 | regD (anc:List Nat) (ops:List SOp)
 | cond (c:SX) (a b:SC)
 | block (id:Nat) (b:SC)
 | loop (b:SC)
 | scope (b:SC)
 | exit (id:Nat)
 | ret
def slim1 (P:Program) (n:Nat) (ops:Array Oper) (o:Oper):Option SOp:=
 if o.dst.all (· < n) then
  match o.guard with
  | none=>some ⟨o.dst,(slimOp P o).getD .bad,none⟩
  | some (j,want)=>match (ops[j]?).bind (·.dst) with | some g=>some ⟨o.dst,(slimOp P o).getD .bad,some (g,want)⟩ | none=>none
 else none
def slimL (P:Program) (n:Nat) (ops:Array Oper):List Oper->Option (List SOp)
 | []=>some []
 | o::rest=>match slim1 P n ops o,slimL P n ops rest with | some a,some b=>some (a::b) | _,_=>none
def ancOk (ops:List Oper) (anc:List Nat):Bool:=
 ops.zipIdx.all λ(o,j)=>(List.range ops.length).all λi=> !(anc.getD j 0).testBit i || o.after.any λe=>Region.binds .any e && (e.on == i || (anc.getD e.on 0).testBit i)
def SO.opds:SO->List SX
 | .mv x | .box _ x | .load _ x | .un _ x | .conv _ x | .s2b x | .b2s x | .make _ _ _ _ x | .fieldAddr _ _ x | .field _ _ x | .extract x _ | .nilCheck x | .len _ x | .isNil _ x=>[x]
 | .pick c a b=>[c,a,b]
 | .alloc _ _ | .bad | .nilFn | .nilSl _ _=>[]
 | .build _ ps=>ps.map (·.2.2)
 | .mkSl _ _ ps=>ps
 | .store _ x y | .bin _ x y | .eqb _ x y | .indexAddr _ x y | .index x y | .append _ _ _ x y | .appendZ _ _ _ _ x y | .copy _ x y | .mm _ x y=>[x,y]
 | .makeFn _ cs=>cs
 | .makeB _ x=>[x]
 | .slice _ x lo hi=>x::(lo.toList++hi.toList)
 | .call f as=>f::as
def SX.slot:SX->List Nat
 | .t n=>[n]
 | _=>[]
def SOp.looks (o:SOp):List Nat:=o.op.opds.flatMap SX.slot++(match o.guard with | some (g,_)=>[g] | none=>[])
def apartS (x y:SOp):Bool:=
 (match x.dst with | some d=> !y.looks.contains d && y.dst != some d | none=>true) && (match y.dst with | some d=> !x.looks.contains d | none=>true)
def ordOk (ops:List Oper):Bool:=ops.zipIdx.all λ(o,j)=>o.after.all λe=> !Region.binds .any e || decide (e.on<j)
def apAll (l:List SOp) (anc:List Nat):Bool:=
 l.zipIdx.all λ(x,i)=>l.zipIdx.all λ(y,j)=>i == j || (anc.getD j 0).testBit i || (anc.getD i 0).testBit j || apartS x y
def slimCode (P:Program) (n:Nat):Code->Option SC
 | .skip=>some .skip
 | .seq a b=>match slimCode P n a,slimCode P n b with | some x,some y=>some (.seq x y) | _,_=>none
 | .region _ ops draw=>
  match slimL P n ops ops.toList with
  | some l=>
   if draw then
    if ancOk ops.toList (Region.before ops).toList && ordOk ops.toList && apAll l (Region.before ops).toList && P.follows .mixedOrders then some (.regD (Region.before ops).toList l) else none
   else some (.reg l)
  | none=>none
 | .cond c a b=>match slimX P 0 c,slimCode P n a,slimCode P n b with | some c,some x,some y=>some (.cond c x y) | _,_,_=>none
 | .block id b=>(slimCode P n b).map (.block id)
 | .loop b=>(slimCode P n b).map .loop
 | .exit id=>some (.exit id)
 | .ret=>some .ret
 | .label _=>some .skip
 | .scope b=>(slimCode P n b).map .scope
 | _=>none
def WS (P:Program) (n:Nat) (sc:SC) (Q:Exit->St->Prop) (S:St):Prop:=
 ∀ c,slimCode P n c=some sc->∀ (A:Nat->Prop) (w0:Base) (a:Act) (w:World),RelSt A w0 n S a w->c.wp P (λe a' w'=>∃ S',Q e S'/\RelSt A w0 n S' a' w') a w
def thenQ (next:St->Prop) (Q:Exit->St->Prop):Exit->St->Prop
 | .normal,S=>next S
 | e,S=>Q e S
def blockQ (id:Nat) (Q:Exit->St->Prop):Exit->St->Prop
 | .exit i,S=>if i=id then Q .normal S else Q (.exit i) S
 | e,S=>Q e S
def scopeQ (Q:Exit->St->Prop):Exit->St->Prop
 | .goto _,_=>False
 | e,S=>Q e S
section
variable {P:Program} {n:Nat} {Q:Exit->St->Prop} {S:St}
theorem WS.mono {sc:SC} {Q':Exit->St->Prop} (h:WS P n sc Q S) (hq:∀ e S,Q e S->Q' e S):WS P n sc Q' S:=
 λc hc A w0 a w hR=>wp_mono (h c hc A w0 a w hR) λ_ _ _ ⟨S',q,r⟩=>⟨S',hq _ _ q,r⟩
theorem WS.weaken {sc:SC} {S':St} (hw:∀ A w0 a w,RelSt A w0 n S a w->RelSt A w0 n S' a w) (h:WS P n sc Q S'):WS P n sc Q S:=
 λc hc A w0 a w hR=>h c hc A w0 a w (hw A w0 a w hR)
theorem WS_skip (h:Q .normal S):WS P n .skip Q S:=by
 intro c hc A w0 a w hR;cases c<;>simp only [slimCode,reduceCtorEq,Option.map_eq_some_iff,and_false,exists_false] at hc<;>(try (revert hc; (repeat' split)<;>simp; done))
 . exact wp_skip ⟨S,h,hR⟩
 . exact wp_label ⟨S,h,hR⟩
theorem WS_ret (h:Q .ret S):WS P n .ret Q S:=by
 intro c hc A w0 a w hR;cases c<;>simp only [slimCode,reduceCtorEq,Option.map_eq_some_iff,and_false,exists_false] at hc<;>(try (revert hc; (repeat' split)<;>simp; done));exact wp_ret ⟨S,h,hR⟩
theorem WS_exit {id:Nat} (h:Q (.exit id) S):WS P n (.exit id) Q S:=by
 intro c hc A w0 a w hR;cases c<;>simp only [slimCode,reduceCtorEq,Option.map_eq_some_iff,and_false,exists_false,Option.some.injEq,SC.exit.injEq] at hc<;>(try (revert hc; (repeat' split)<;>simp; done));subst hc;exact wp_exit ⟨S,h,hR⟩
theorem slim_seq {c:Code} {x y:SC} (hc:slimCode P n c=some (.seq x y)):∃ a b,c= .seq a b/\slimCode P n a=some x/\slimCode P n b=some y:=by
 cases c<;>simp only [slimCode,reduceCtorEq,Option.map_eq_some_iff,and_false,exists_false,Option.some.injEq] at hc<;>(try (revert hc; (repeat' split)<;>simp; done));split at hc
 . rename_i a b x' y' hx hy;simp only [Option.some.injEq,SC.seq.injEq] at hc;obtain ⟨rfl,rfl⟩:=hc;exact ⟨_,_,rfl,hx,hy⟩
 . cases hc
theorem WS_seq {x y:SC} (h:WS P n x (thenQ (WS P n y Q) Q) S):WS P n (.seq x y) Q S:=by
 intro c hc A w0 a w hR;obtain ⟨ca,cb,rfl,ha,hb⟩:=slim_seq hc;refine wp_seq (wp_mono (h ca ha A w0 a w hR) ?_);rintro e a' w' ⟨S',q,r⟩;cases e with
 | normal=>exact q cb hb A w0 a' w' r
 | _=>exact ⟨S',q,r⟩
theorem WS_block {id:Nat} {b:SC} (h:WS P n b (blockQ id Q) S):WS P n (.block id b) Q S:=by
 intro c hc A w0 a w hR;cases c<;>simp only [slimCode,reduceCtorEq,Option.map_eq_some_iff,and_false,exists_false,Option.some.injEq,SC.block.injEq] at hc<;>(try (revert hc; (repeat' split)<;>simp; done));obtain ⟨b',hb,rfl,rfl⟩:=hc;refine wp_block (wp_mono (h _ hb A w0 a w hR) ?_);rintro e a' w' ⟨S',q,r⟩;cases e with
 | exit i=>
  simp only [blockQ] at q;simp only [Exit.inBlock];split
  . rename_i he; rw [if_pos he] at q; exact ⟨S',q,r⟩
  . rename_i he; rw [if_neg he] at q; exact ⟨S',q,r⟩
 | _=>exact ⟨S',q,r⟩
theorem WS_loop {b:SC} (I:St->Prop) (m:St->Nat) (h0:I S) (h:∀ S',I S'->WS P n b (thenQ (λS''=>I S''/\m S''<m S') Q) S'):WS P n (.loop b) Q S:=by
 intro c hc A w0 a w hR;cases c<;>simp only [slimCode,reduceCtorEq,Option.map_eq_some_iff,and_false,exists_false,Option.some.injEq,SC.loop.injEq] at hc<;>(try (revert hc; (repeat' split)<;>simp; done));rename_i cb;obtain ⟨b',hb,rfl⟩:=hc;have key:∀ (k:Nat) (S:St),m S=k->I S->∀ a w,RelSt A w0 n S a w->∀ (b:Frame) (k':List Item) (cs:List Frame),
  ∃ e a' w',(∃ S',Q e S'/\RelSt A w0 n S' a' w')/\Arrives P (lone (b.at a (.code cb:: .inLoop cb::k')) cs w) b k' cs e a' w':=by
  intro k;induction k using Nat.strongRecOn with
  | _ k ih=>
   intro S hk hI a w hR b k' cs;obtain ⟨e,a1,w1,⟨S1,q,r⟩,harr⟩:=h S hI cb hb A w0 a w hR b (.inLoop cb::k') cs;cases e with
   | normal=>
    obtain ⟨hI1,hlt⟩:=q;obtain ⟨e2,a2,w2,q2,harr2⟩:=ih (m S1) (hk ▸ hlt) S1 rfl hI1 a1 w1 r b k' cs;exact ⟨e2,a2,w2,q2,.of_steps (Steps.trans harr (.one step_inLoop)) harr2⟩
   | exit id=>exact ⟨_,a1,w1,⟨S1,q,r⟩,.pass (x:=.inLoop cb) rfl (λ_ _=>.inl (by simp)) harr⟩
   | goto l=>exact ⟨_,a1,w1,⟨S1,q,r⟩,.pass (x:=.inLoop cb) rfl (λ_ _=>.inl (by simp)) harr⟩
   | ret=>exact ⟨_,a1,w1,⟨S1,q,r⟩,.pass (x:=.inLoop cb) rfl (λ_ _=>.inl (by simp)) harr⟩
   | panic ch=>exact ⟨_,a1,w1,⟨S1,q,r⟩,.pass (x:=.inLoop cb) rfl (λ_ _=>.inl (by simp)) harr⟩
   | outgrown=>exact ⟨_,a1,w1,⟨S1,q,r⟩,.pass (x:=.inLoop cb) rfl (λ_ _=>.inl (by simp)) harr⟩
 intro b k' cs;obtain ⟨e,a',w',hq,harr⟩:=key _ S rfl h0 a w hR b k' cs;exact ⟨e,a',w',hq,.of_steps (.one step_loop) harr⟩
theorem WS_cond {cx:SX} {x y:SC} {t:Bool} (hev:S.ev cx= .p (.b t)) (h1:t=true->WS P n x Q S) (h2:t=false->WS P n y Q S):WS P n (.cond cx x y) Q S:=by
 intro c hc A w0 a w hR;cases c<;>simp only [slimCode,reduceCtorEq,Option.map_eq_some_iff,and_false,exists_false,Option.some.injEq] at hc<;>(try (revert hc; (repeat' split)<;>simp; done));split at hc
 . rename_i c ca cb cx' x' y' hx ha hb;simp only [Option.some.injEq,SC.cond.injEq] at hc;obtain ⟨rfl,rfl,rfl⟩:=hc;obtain ⟨μ,H,rel⟩:=hR.ex;have hv:=bool_inv (p_of hx hev rel);cases t with
   | true=>exact wp_cond_true hv (h1 rfl _ ha A w0 a w hR)
   | false=>exact wp_cond_false hv (h2 rfl _ hb A w0 a w hR)
 . cases hc
theorem WS_cF {cx:SX} {x y:SC} {Q:Exit->St->Prop} (hev:S.ev cx= .p (.b false)) (h:WS P n y Q S):WS P n (.cond cx x y) Q S:=WS_cond hev (λh=>by cases h) λ_=>h
theorem WS_cT {cx:SX} {x y:SC} {Q:Exit->St->Prop} (hev:S.ev cx= .p (.b true)) (h:WS P n x Q S):WS P n (.cond cx x y) Q S:=WS_cond hev (λ_=>h) (λh=>by cases h)
theorem op_region {A:Nat->Prop} {w0:Base} {ops:Array Oper} {o:Oper} {so:SOp} {i:Nat} (hi:ops[i]? =some o) (hs:slim1 P n ops o=some so) (pd:List Nat) {K:St->Prop} (h:AOp P pd so K S)
 {a:Act} {w:World} (hR:RelSt A w0 n S a w) {K':Act->World->Prop} {Q:Exit->Act->World->Prop} (hk:∀ S' a' w',K S'->RelSt A w0 n S' a' w'->K' a' w'):wpOp P ops Q i K' a w:=by
 unfold slim1 at hs;split at hs
 . rename_i hdst;have hd:∀ t,o.dst=some t->t<n:=λt ht=>by rw [ht] at hdst; simpa using hdst
   have hskip:∀ w,RelSt A w0 n S a w->RelSt A w0 n (S.put o.dst (.tup [])) (a.put o.dst undef) w:=λw hR=>by
    obtain ⟨μ,H,rel⟩:=hR.ex;exact RelSt.put' rel hR.size hR.defers hR.new H (Keeps.refl A w μ S.h) hR.below hd (.tup _ _ rfl (by simp))
   have hcore:∀ {a:Act} {w:World},RelSt A w0 n S a w->ACore P pd o.dst ((slimOp P o).getD .bad) K S->o.wp P a w K' Q:=λhR h=>by
    cases hop:slimOp P o with
    | none=>rw [hop] at h; exact h.elim
    | some sop=>rw [hop] at h; exact op_wp hop hd pd h hR hk
   unfold wpOp;simp only [hi];split at hs
   . rename_i hg;simp only [Option.some.injEq] at hs; subst hs;simp only [AOp] at h;rw [if_pos (by simp [Region.wanted,hg])];exact .inl (hcore hR h)
   . rename_i j want hg;split at hs
     . rename_i g hgj;simp only [Option.some.injEq] at hs; subst hs;simp only [AOp] at h;obtain ⟨μ,H,rel⟩:=hR.ex;have hrg:=rel g;have hy:yielded ops a.tmps j=(match a.tmps.getD g undef with | .bool b=>some b | _=>none):=by
        simp only [yielded,hgj,Option.bind_some];by_cases hlt:g<a.tmps.size
        . simp [hlt,Array.getD];split<;>simp_all
        . simp [hlt,Array.getD,undef]
       split at h
       . rename_i c hc;rw [hc] at hrg;have hv:=bool_inv (p_inv hrg);rw [hv] at hy;simp only at hy;by_cases hcw:c=want
         . rw [if_pos (by simp [Region.wanted,hg,hy,hcw])];exact .inl (hcore hR (h.1 hcw))
         . rw [if_neg (by simp [Region.wanted,hg,hy,hcw])];exact hk _ _ _ (h.2 (by cases c<;>cases want<;>simp_all)) (hskip w hR)
       . rename_i k m hc;rw [hc] at hrg;have hv:=int_inv (p_inv hrg);rw [hv] at hy;simp only at hy;rw [if_neg (by simp [Region.wanted,hg,hy])];exact hk _ _ _ h (hskip w hR)
       . rename_i vs hc;rw [hc] at hrg;obtain ⟨vals,hv,_⟩:=tup_inv hrg;rw [hv] at hy;simp only at hy;rw [if_neg (by simp [Region.wanted,hg,hy])];exact hk _ _ _ h (hskip w hR)
       . exact h.elim
     . cases hs
 . cases hs
theorem run_region {A:Nat->Prop} {w0:Base} {ops:Array Oper} (pd:List Nat) {K:St->Prop} {Q':Exit->Act->World->Prop} (hK:∀ S' a' w',K S'->RelSt A w0 n S' a' w'->Q' .normal a' w'):
 ∀ (l:List Oper) (k:Nat) (sl:List SOp) (S:St) (a:Act) (w:World),(∀ j,l[j]? =ops[k+j]?)->slimL P n ops l=some sl->RunL P pd K sl S->RelSt A w0 n S a w->wpOps P ops Q' (List.range' k l.length) a w
 | [],k,sl,S,a,w,_,hs,h,hR=>by
  simp only [slimL,Option.some.injEq] at hs; subst hs;exact hK _ _ _ h hR
 | o::rest,k,sl,S,a,w,hl,hs,h,hR=>by
  simp only [slimL] at hs;split at hs
  . rename_i so r ho hr;simp only [Option.some.injEq] at hs; subst hs;simp only [List.length_cons,List.range'_succ];rw [wpOps_cons];have h0:ops[k]? =some o:=by simpa using (hl 0).symm
    simp only [RunL] at h;refine op_region h0 ho pd h hR λS' a' w' hS' hR'=>?_;exact run_region pd hK rest (k+1) r S' a' w' (λj=>by have:=hl (j+1); simpa [Nat.add_assoc,Nat.add_comm 1 j] using this) hr hS' hR'
  . cases hs
theorem WS_reg {ops:List SOp} (pd:List Nat) (h:RunL P pd (Q .normal) ops S):WS P n (.reg ops) Q S:=by
 intro c hc A w0 a w hR;cases c<;>simp only [slimCode,reduceCtorEq,Option.map_eq_some_iff,and_false,exists_false,Option.some.injEq] at hc<;>(try (revert hc; (repeat' split)<;>simp; done));rename_i id os draw;split at hc
 . rename_i l hl;split at hc
   . split at hc<;>simp at hc
   . rename_i hdraw;simp only [Option.some.injEq,SC.reg.injEq] at hc; subst hc;have:draw=false:=by simpa using hdraw
     subst this;refine wp_region ?_;rw [List.range_eq_range'];have:=run_region (A:=A) (w0:=w0) (Q':=λe a' w'=>∃ S',Q e S'/\RelSt A w0 n S' a' w') pd (λS' a' w' hS hR=>⟨S',hS,hR⟩) os.toList 0 l S a w (by simp) hl h hR
     simpa using this
 . cases hc
end
end Go.Vw
namespace Go.Vw
open Go.RowKit (Below)
inductive SRes where
 | tmp (t:Nat)
 | cell (t:Nat) (sz:Option Nat)
def slimRes (P:Program):List ResultVar->Option (List SRes)
 | []=>some []
 | .tmp t::rest=>(slimRes P rest).map (.tmp t:: ·)
 | .cell t T::rest=>match szOf P T,slimRes P rest with | some sz,some r=>some (.cell t sz::r) | _,_=>none
def retOne (S:St) (any own:Bool):SRes->Option (Prop × RV)
 | .tmp t=>
  match S.σ t with
  | .p v=>some (own=false,.pure v)
  | .own r g off len=>
   match (S.h r).o with
   | some (.arr T sz xs)=>
    if own then some (g=(S.h r).g/\off=0/\len<=xs.length,.own T sz (xs.take len))
    else some (any=false/\g=(S.h r).g/\off+len<=xs.length,.pure (.sl sz ((xs.drop off).take len)))
   | _=>none
  | _=>none
 | .cell t sz=>
  match S.σ t with
  | .ptr r g j=>
   match (S.h r).o with
   | some (.box _ cs)=>some (own=false/\g=(S.h r).g/\partOk cs j sz,.pure (V.part cs j sz))
   | _=>none
  | _=>none
def retAll (S:St) (any:Bool):List Bool->List SRes->Option (Prop × List RV)
 | _,[]=>some (True,[])
 | ow,r::rs=>
  match retOne S any (ow.headD false) r,retAll S any ow.tail rs with
  | some (c,rv),some (d,rvs)=>some (c/\d,rv::rvs)
  | _,_=>none
def retP (rs:List SRes) (ow:List Bool) (R:List RV->Prop) (S:St):Prop:=
 match retAll S (ow.any id) ow rs with
 | some (c,rvs)=>c/\R rvs
 | none=>False
def retQ (rs:List SRes) (ow:List Bool) (R:List RV->Prop):Exit->St->Prop
 | .normal,S=>retP rs ow R S
 | .ret,S=>retP rs ow R S
 | _,_=>False
def argSlot (args:List V) (t:Nat):SV:=match args[t]? with | some v=>.p v | none=>.tup []
def S0 (args:List V):St:=⟨argSlot args,λ_=>⟨0,none⟩⟩
def oneOwn:List Bool->Bool
 | []=>true
 | true::r=> !r.any id
 | false::r=>oneOwn r
section
variable {P:Program} {A:Nat->Prop} {w0:Base} {n:Nat} {S:St}
def resRun (tmps:Array Value):ResultVar->Sem Value
 | .tmp t=>pure (tmps.getD t undef)
 | .cell a t=>do loadVar t (<- asAddr (tmps.getD a undef))
structure GoodRes (A:Nat->Prop) (w:World) (B:Nat->Prop) (μ:Nat->Value) (h:Nat->HC) (any:Bool) (rv:RV) (val:Value):Prop where
 pure:∀ v,rv= .pure v->RelV w (λb=>okOf A w μ h b\/(any=false/\B b/\b<w.heap.size)) v val
 own:∀ T sz xs,rv= .own T sz xs->RelObj w (okOf A w μ h) B val (.arr T sz xs)/\∀ b,blk val=some b->∃ r,(h r).o≠none/\blk (μ r)=some b
theorem ret_one {a:Act} {w:World} {μ:Nat->Value} (H:HeapOK A w w0 μ S.h) (rel:∀ t,RelS w (okOf A w μ S.h) μ S.h (S.σ t) (a.tmps.getD t undef))
 {x:ResultVar} {rest:List ResultVar} {r:SRes} {rs:List SRes} (hx:slimRes P (x::rest)=some (r::rs)) {any own:Bool} {c:Prop} {rv:RV} (hr:retOne S any own r=some (c,rv)) (hc:c):
 slimRes P rest=some rs/\rv.isOwn=own/\∃ val,(resRun a.tmps x).run P w= .ok val w/\GoodRes A w w0.B μ S.h any rv val:=by
 cases x with
 | tmp t=>
  simp only [slimRes,Option.map_eq_some_iff,List.cons.injEq] at hx;obtain ⟨rs',hrs,rfl,rfl⟩:=hx;have ht:=rel t;refine ⟨hrs,?_⟩;simp only [retOne] at hr;split at hr
  . rename_i v hv;simp only [Option.some.injEq,Prod.mk.injEq] at hr;obtain ⟨rfl,rfl⟩:=hr;subst hc;rw [hv] at ht;refine ⟨rfl,a.tmps.getD t undef,by simp [resRun],⟨λv' hv'=>?_,by simp⟩⟩;cases hv';exact (p_inv ht).mono (λb hb=>.inl hb) λ_ _ _=>rfl
  . rename_i r g off len hv;rw [hv] at ht;split at hr
    . rename_i T sz xs hobj;have hw:(S.h r).width=width sz:=by simp [HC.width,hobj,HObj.width]
      obtain ⟨flat,hown,hflat⟩:=H.obj r _ hobj;split at hr
      . rename_i howned;simp only [Option.some.injEq,Prod.mk.injEq] at hr;obtain ⟨rfl,rfl⟩:=hr;obtain ⟨hg,rfl,hle⟩:=hc;have hs:=own_inv ht hg;rw [hw] at hs;obtain ⟨h1,h2⟩:=own_prefix hown hs hle;refine ⟨by simp [RV.isOwn,howned],a.tmps.getD t undef,by simp [resRun],⟨by simp,λT' sz' xs' hrv=>?_⟩⟩;cases hrv;have hlen:(xs.take len).length=len:=by simp; omega
        refine ⟨⟨_,by rw [hlen]; exact h1,hflat.take len⟩,λb hb=>⟨r,by rw [hobj]; simp,by rw [<- h2]; exact hb⟩⟩
      . rename_i howned;simp only [Option.some.injEq,Prod.mk.injEq] at hr;obtain ⟨rfl,rfl⟩:=hr;obtain ⟨hany,hg,hle⟩:=hc;have hs:=own_inv ht hg;rw [hw] at hs;refine ⟨by simp [RV.isOwn,howned],a.tmps.getD t undef,by simp [resRun],⟨λv' hv'=>?_,by simp⟩⟩;cases hv';have hlen:((xs.drop off).take len).length=len:=by simp; omega
        rcases hown.2 with ⟨hnil,hn⟩ | ⟨b',cap,cur,hbase,hB,hheap,hcap,hmax,hcur,htake⟩
        . rw [hnil] at hs; simp only [SubOf] at hs;obtain ⟨hval,rfl,rfl⟩:=hs;rw [hval]; simpa using RelV.nil sz
        . rw [hbase] at hs;simp only [SubOf] at hs;obtain ⟨b,cc,hval,hlc,hcc⟩:=hs;have hokb:(λb=>okOf A w μ S.h b\/(any=false/\w0.B b/\b<w.heap.size)) b':=.inr ⟨hany,hB,(Array.getElem?_eq_some_iff.1 hheap).1⟩;have hf:=(((hflat.drop off).take len).mono (w':=w) (ok':=λb=>okOf A w μ S.h b\/(any=false/\w0.B b/\b<w.heap.size)) (λb hb=>.inl hb) λ_ _ _=>rfl);rcases hcc with ⟨hcc,hcc',_⟩ | ⟨hcc,hcc'⟩
          . have hl0:len=0:=by omega
            rw [hval];subst hl0;simp only [List.take_zero];exact .sl sz [] b' b 0 cc (λ_=>undef) rfl hokb (by omega) (λj hj=>by simp at hj) (λj hj=>by simp at hj) (λj hj=>by simp at hj)
          . subst hcc;rw [hval];have:=hf.slice (g:=b') (off:=off*width sz) (cap:=cc) (rangeAt_of_row hheap _ _ λi u hu=>by
             rw [List.getElem?_take] at hu;split at hu
             . rw [List.getElem?_drop,<-htake,List.getElem?_take] at hu;split at hu
               . exact hu
               . cases hu
             . cases hu) hokb (by rw [hlen]; exact hlc)
            rw [hlen] at this;exact this
    . cases hr
  . cases hr
 | cell t T=>
  simp only [slimRes] at hx;split at hx
  . rename_i sz rs' hsz hrs;simp only [Option.some.injEq,List.cons.injEq] at hx;obtain ⟨rfl,rfl⟩:=hx;refine ⟨hrs,?_⟩;simp only [retOne] at hr;have ht:=rel t;split at hr
    . rename_i r g j hv;rw [hv] at ht;split at hr
      . rename_i T' cs hobj;simp only [Option.some.injEq,Prod.mk.injEq] at hr;obtain ⟨rfl,rfl⟩:=hr;obtain ⟨rfl,hg,hp⟩:=hc;obtain ⟨b,hb,hval⟩:=ptr_inv ht hg;obtain ⟨b',cells,hbase,hB,hheap,hflat⟩:=H.obj r _ hobj;rw [hbase] at hb;simp only [blk,Option.some.injEq] at hb; subst hb;obtain ⟨val,v1,v2,v3,v4⟩:=part_rel hflat hp;have hw:(S.h r).width=1:=by simp [HC.width,hobj,HObj.width]
        rw [hw,Nat.mul_one] at hval;have hl:=run_loadAt_rel (P:=P) hsz (w:=w) (g:=b') (off:=j) (shape_of v2 v3) (rangeAt_of_row hheap j _ v4);simp only [Instr.loadAt,Instr.sureAddr,Sem.run_bind,Sem.run_pure,Result.andThen_ok] at hl;refine ⟨rfl,val,by simp [resRun,hval,asAddr,hl],⟨λv' hv'=>?_,by simp⟩⟩;cases hv';exact v1.mono (λb hb=>.inl hb) λ_ _ _=>rfl
      . cases hr
    . cases hr
  . cases hx
theorem ret_all {a:Act} {w:World} {μ:Nat->Value} (H:HeapOK A w w0 μ S.h) (rel:∀ t,RelS w (okOf A w μ S.h) μ S.h (S.σ t) (a.tmps.getD t undef)) {any:Bool}:
 ∀ (vars:List ResultVar) (rs:List SRes) (ow:List Bool) (c:Prop) (rvs:List RV),slimRes P vars=some rs->retAll S any ow rs=some (c,rvs)->c->
  ∃ vals:List Value,vals.length=rvs.length/\(vars.mapM (m:=Sem) (resRun a.tmps)).run P w= .ok vals w/\
   ∀ j rv,rvs[j]? =some rv->GoodRes A w w0.B μ S.h any rv (vals.getD j undef)/\rv.isOwn=ow.getD j false
 | [],rs,ow,c,rvs,h1,h2,hc=>by
  simp only [slimRes,Option.some.injEq] at h1; subst h1;simp only [retAll,Option.some.injEq,Prod.mk.injEq] at h2;obtain ⟨rfl,rfl⟩:=h2;exact ⟨[],rfl,rfl,by simp⟩
 | x::rest,rs,ow,c,rvs,h1,h2,hc=>by
  cases rs with
  | nil=>
   exfalso;cases x<;>simp only [slimRes,Option.map_eq_some_iff,reduceCtorEq,and_false,exists_false] at h1;split at h1<;>cases h1
  | cons r rs=>
   simp only [retAll] at h2;split at h2
   . rename_i c1 rv c2 rvs2 hr hrs;simp only [Option.some.injEq,Prod.mk.injEq] at h2;obtain ⟨rfl,rfl⟩:=h2;obtain ⟨e1,e2,val,e3,e4⟩:=ret_one H rel h1 hr hc.1;obtain ⟨vals,f1,f2,f3⟩:=ret_all H rel rest rs ow.tail c2 rvs2 e1 hrs hc.2;refine ⟨val::vals,by simp [f1],?_,λj rv' hj=>?_⟩
     . rw [List.mapM_cons];simp [e3,f2]
     . cases j with
       | zero=>
        simp only [List.getElem?_cons_zero,Option.some.injEq] at hj; subst hj;exact ⟨by simpa [List.getD] using e4,by cases ow<;>simpa using e2⟩
       | succ j=>
        have:=f3 j rv' (by simpa using hj);refine ⟨by simpa [List.getD] using this.1,?_⟩;cases ow with
        | nil=>simpa using this.2
        | cons b ow=>simpa [List.getD] using this.2
   . cases h2
theorem oneOwn_spec:∀ {ow:List Bool},oneOwn ow=true->∀ j k,ow.getD j false=true->ow.getD k false=true->j=k
 | [],_,j,k,h1,_=>by simp at h1
 | true::r,h,j,k,h1,h2=>by
  simp only [oneOwn,Bool.not_eq_true',List.any_eq_false,id_eq] at h;have hr:∀ j,r.getD j false=true->False:=λj hj=>by
   by_cases hlt:j<r.length
   . rw [getD_lt _ _ hlt] at hj;exact h _ (List.getElem_mem hlt) hj
   . simp [List.getD,List.getElem?_eq_none (Nat.le_of_not_lt hlt)] at hj
  cases j with
  | zero=>cases k with
   | zero=>rfl
   | succ k=>exact absurd (by simpa [List.getD] using h2) (hr k)
  | succ j=>exact absurd (by simpa [List.getD] using h1) (hr j)
 | false::r,h,j,k,h1,h2=>by
  simp only [oneOwn] at h;cases j with
  | zero=>simp [List.getD] at h1
  | succ j=>cases k with
   | zero=>simp [List.getD] at h2
   | succ k=>rw [oneOwn_spec h j k (by simpa [List.getD] using h1) (by simpa [List.getD] using h2)]
theorem results_run (fn:Func) (tmps:Array Value) {w:World} {vals:List Value} (h:(fn.results.toList.mapM (m:=Sem) (resRun tmps)).run P w= .ok vals w):(results fn tmps).run P w= .ok (packed vals) w:=by
 have h':(fn.results.mapM (m:=Sem) (resRun tmps)).run P w= .ok vals.toArray w:=by
  rw [Array.mapM_eq_mapM_toList,Sem.run_map,h]; rfl
 have e:results fn tmps=(do let vs <-fn.results.mapM (m:=Sem) (resRun tmps); pure (if h:vs.size=1 then vs[0] else .tuple vs)):=by
  unfold results;congr 1
 rw [e,Sem.run_bind,h'];simp only [Result.andThen_ok,Sem.run_pure];congr 1
 match vals with
 | []=>rfl
 | [v]=>rfl
 | v1::v2::vr=>simp [packed]
theorem spec_of {f:FuncId} {fn:Func} {c:Code} {sc:SC} {rs:List SRes} {args:List V} {R:List RV->Prop} (ow:List Bool) (hf:P.funcs[f]? =some fn) (hb:fn.body=some c) (hn:fn.ntmps=n)
 (hsl : slimCode P n c = some sc) (hname : (fn.name == "runtime.NumGoroutine") = false) (hrs : slimRes P fn.results.toList = some rs) (how : oneOwn ow = true) (hargs : args.length ≤ n)
 (h:WS P n sc (retQ rs ow R) (S0 args)):Spec P f args R:=by
 intro w ok vals hok hrel;refine .inl ⟨enters_run hf (by rw [hb]; rfl) hname vals w,?_⟩;refine calls_of_wp hf hb ?_;have hB0:∀ b,(Base.mk w (λ_=>False) λ_=>none).B b->w.heap.size<=b:=λb hb=>by
  rcases hb with hb | hb
  . exact hb
  . exact hb.elim
 have hR:RelSt (λb=>ok b\/w.heap.size<=b) ⟨w,λ_=>False,λ_=>none⟩ n (S0 args) { tmps:=vals++Array.replicate (fn.ntmps-vals.size) undef,defers:=[] } w:=by
  refine ⟨⟨λ_=>undef,⟨λr o ho=>by simp [S0] at ho,λr r' b hr=>by simp [S0] at hr,λr g wd v h=>(by cases h),λr o ho=>by simp [S0] at ho⟩,λt=>?_⟩,⟨rfl,rfl,rfl,Nat.le_refl _,λ_ _=>rfl⟩,by simp [hn,hrel.1]; omega,rfl,λb hb=>.inr (hB0 b hb)⟩;have hmono:∀ {v:V} {val:Value},RelV w ok v val->RelV w (okOf (λb=>ok b\/w.heap.size<=b) w (λ_=>undef) (S0 args).h) v val:=λh=>
   h.mono (λb hb=>⟨.inl hb,hok b hb,λr hr=>by simp [S0] at hr⟩) λ_ _ _=>rfl
  simp only [S0,argSlot];by_cases hlt:t<args.length
  . have:=hrel.2 t hlt;have hs:t<vals.size:=by rw [hrel.1]; exact hlt
    rw [List.getElem?_eq_getElem hlt];refine .p _ _ (hmono ?_)
    simpa [Array.getD_eq_getD_getElem?,Array.getElem?_append,hs] using this
  . rw [List.getElem?_eq_none (Nat.le_of_not_lt hlt)];have hs:¬ t<vals.size:=by rw [hrel.1]; exact hlt
    have:(vals++Array.replicate (fn.ntmps-vals.size) undef).getD t undef=undef:=by
     rw [Array.getD_eq_getD_getElem?,Array.getElem?_append,if_neg hs,Array.getElem?_replicate];split<;>rfl
    rw [this];exact .tup _ _ rfl (by simp)
 refine wp_mono (h c hsl _ ⟨w,λ_=>False,λ_=>none⟩ _ w hR) ?_;rintro e a' w' ⟨S',q,r⟩;have fin:retP rs ow R S'->a'.defers=[]/\∃ v,(results fn a'.tmps).run P w'= .ok v w'/\∃ rvs vs,R rvs/\Ending.returned v= .returned (packed vs)/\Below w.heap.size w w'/\RetOK w w' ok rvs vs:=by
  intro hq;obtain ⟨μ,H,rel⟩:=r.ex;refine ⟨r.defers,?_⟩;simp only [retP] at hq;split at hq
  . rename_i c' rvs hall;obtain ⟨vs,f1,f2,f3⟩:=ret_all (P:=P) H rel fn.results.toList rs ow c' rvs hrs hall hq.1;refine ⟨packed vs,results_run fn a'.tmps f2,rvs,vs,hq.2,rfl,⟨r.below.os,r.below.tape,r.below.output,r.below.size,λk hk=>r.below.block k λe=>Nat.not_le_of_lt hk (hB0 k e)⟩,⟨f1,λj rv hj=>?_,λj k x y b hj hk hx hy _ _=>?_⟩⟩
    . obtain ⟨g1,g2⟩:=f3 j rv hj;have hbig:∀ b,okOf (λb=>ok b\/w.heap.size<=b) w' μ S'.h b->okR ok w w' rvs vs b:=by
       rintro b ⟨h1,h2,h3⟩;refine ⟨h1,h2,λi rv' hi hown hblk=>?_⟩;obtain ⟨g3,_⟩:=f3 i rv' hi;cases rv' with
       | pure v=>cases hown
       | own T sz xs=>
        obtain ⟨_,g4⟩:=g3.own T sz xs rfl;obtain ⟨r',hr1,hr2⟩:=g4 b hblk;exact h3 r' hr1 hr2
      cases rv with
      | pure v=>
       refine (g1.pure v rfl).mono (λb hb=>?_) λ_ _ _=>rfl;rcases hb with hb | ⟨hany,hb1,hb2⟩
       . exact hbig b hb
       . refine ⟨.inr (hB0 b hb1),hb2,λi rv' hi hown=>?_⟩;obtain ⟨_,g3⟩:=f3 i rv' hi;rw [hown] at g3;exfalso;have:ow.any id=true:=by
          rw [List.any_eq_true];by_cases hlt:i<ow.length
          . exact ⟨ow[i],List.getElem_mem hlt,by rw [getD_lt _ _ hlt] at g3; exact g3.symm⟩
          . simp [List.getD,List.getElem?_eq_none (Nat.le_of_not_lt hlt)] at g3
         rw [this] at hany; cases hany
      | own T sz xs=>
       exact ((g1.own T sz xs rfl).1.keep hbig (λ_ _ _=>rfl) (λ_ _=>rfl)).lower λb _ hb=>hB0 b hb
    . refine oneOwn_spec how j k ?_ ?_
      . rw [<- (f3 j x hj).2]; exact hx
      . rw [<- (f3 k y hk).2]; exact hy
  . exact hq.elim
 cases e with
 | normal=>exact fin q
 | ret=>exact fin q
 | _=>exact q.elim
def slimF (P:Program) (fn:Func):Option (Nat × SC × List SRes):=
 match fn.body with
 | some c=>
  if fn.name == "runtime.NumGoroutine" then none else
  match slimCode P fn.ntmps c,slimRes P fn.results.toList with
  | some sc,some rs=>some (fn.ntmps,sc,rs)
  | _,_=>none
 | none=>none
theorem spec_at {f:FuncId} {fn:Func} {sc:SC} {rs:List SRes} (hf:P.funcs[f]? =some fn) (hs:slimF P fn=some (n,sc,rs)) (ow:List Bool) {args:List V} {R:List RV->Prop} (how:oneOwn ow=true) (hargs:args.length<=n)
 (h:WS P n sc (retQ rs ow R) (S0 args)):Spec P f args R:=by
 unfold slimF at hs;split at hs
 . rename_i c hb;split at hs
   . cases hs
   . rename_i hname;split at hs
     . rename_i sc' rs' h1 h2;simp only [Option.some.injEq,Prod.mk.injEq] at hs;obtain ⟨rfl,rfl,rfl⟩:=hs;exact spec_of ow hf hb rfl h1 (by simpa using hname) h2 how hargs h
     . cases hs
 . cases hs
end
end Go.Vw
namespace Go.Vw
open Go.RowKit (Below)
abbrev Ent:=Nat × Nat × Bool
def SO.writes:SO->Bool
 | .store .. | .append .. | .appendZ .. | .copy .. =>true
 | _=>false
def SO.makes:SO->Bool
 | .box .. | .alloc .. | .make .. | .mkSl .. | .nilSl .. =>true
 | _=>false
def SO.still:SO->Bool
 | .mv .. | .pick .. =>true
 | _=>false
def entsOf (i:Nat) (dst:Option Nat) (op:SO) (S:St):List Ent:=
 (if op.still then [] else op.opds.flatMap λx=>(svref (S.ev x)).map λr=>(i,r,op.writes))++(if op.makes then dst.toList.map λr=>(i,r,true) else [])
theorem lowV_congr {S T:St} {lo:Option SX} (h:∀ x∈lo.toList,T.ev x=S.ev x) (d:Int):lowV d (lo.map T.ev)=lowV d (lo.map S.ev):=by
 cases lo with
 | none=>rfl
 | some x=>simp [h x (by simp)]
theorem elems_congr {S T:St} {sz:Option Nat} {v:SV} (h:∀ r∈svref v,T.h r=S.h r):T.elems sz v=S.elems sz v:=by
 cases v with
 | own r g off len=>simp [St.elems,h r (by simp [svref])]
 | p v=>cases v<;>rfl
 | _=>rfl
theorem map_ev_congr {S T:St}:∀ {xs:List SX},(∀ x∈xs,T.ev x=S.ev x)->xs.map T.ev=xs.map S.ev
 | [],_=>rfl
 | x::r,h=>by simp [h x (by simp),map_ev_congr (xs:=r) λy hy=>h y (by simp [hy])]
theorem aop_congr (pd:List Nat) {S T:St} {dst:Option Nat} {op:SO} (hv:∀ x∈op.opds,T.ev x=S.ev x) (hr:op.still=false->∀ x∈op.opds,∀ r∈svref (S.ev x),T.h r=S.h r)
 (hm:op.makes=true->∀ d,dst=some d->T.h d=S.h d):aop pd T dst op=aop pd S dst op:=by
 cases op<;>(try simp only [SO.opds,List.mem_cons,List.not_mem_nil,or_false,forall_eq_or_imp,forall_eq] at hv hr)
 case mv x=>simp [aop,hv]
 case pick c a b=>simp [aop,hv]
 all_goals replace hr:=hr rfl
 case box Ty x=>
  simp only [aop,hv];cases dst with
  | none=>split<;>simp_all
  | some d=>
   cases S.ev x with
   | p v=>simp [hm rfl d rfl]
   | _=>rfl
 case alloc Ty zs=>
  cases dst with
  | none=>rfl
  | some d=>simp [aop,hm rfl d rfl]
 case build zs ps=>
  have:(ps.map λp=>T.ev p.2.2)=ps.map λp=>S.ev p.2.2:=List.map_congr_left λp hp=>hv _ (List.mem_map.2 ⟨p,hp,rfl⟩);simp only [aop,this]
 case mkSl Ty sz ps=>
  simp only [aop,map_ev_congr hv];cases dst with
  | none=>cases plains (ps.map S.ev)<;>rfl
  | some d=>cases plains (ps.map S.ev)<;>simp [hm rfl d rfl]
 case load sz x=>
  simp only [aop,hv];split
  . rfl
  . rename_i r g j he; simp [hr r (by rw [he]; simp [svref])]
  . rfl
 case store sz x y=>
  simp only [aop,hv.1,hv.2];split
  . rename_i r g j v he _; simp [hr.1 r (by rw [he]; simp [svref])]
  . rfl
 case bin op x y=>simp [aop,hv]
 case eqb neg x y=>simp [aop,hv]
 case un op x=>simp [aop,hv]
 case conv k x=>simp [aop,hv]
 case s2b x=>simp [aop,hv]
 case b2s x=>simp only [aop,hv,elems_congr hr]
 case makeFn f cs=>simp only [aop,map_ev_congr hv]
 case makeB f x=>
  simp only [aop,hv];split
  . rename_i r g j he; simp [hr r (by rw [he]; simp [svref])]
  . rfl
 case make Ty sz z bytes l=>
  simp only [aop,hv];cases dst with
  | none=>split<;>simp_all
  | some d=>
   cases S.ev l with
   | p v=>cases v<;>simp [hm rfl d rfl]
   | _=>rfl
 case slice sz x lo hi=>
  have h1:=hv.1;have h2:∀ y∈lo.toList,T.ev y=S.ev y:=λy hy=>hv.2 y (by simp [hy]);have h3:∀ y∈hi.toList,T.ev y=S.ev y:=λy hy=>hv.2 y (by simp [hy]);simp only [aop,h1,lowV_congr h2,lowV_congr h3];split
  . rfl
  . rfl
  . rename_i r g off len he; simp [hr.1 r (by rw [he]; simp [svref])]
  . rfl
 case fieldAddr off sz x=>
  simp only [aop,hv];split
  . rename_i r g j he; simp [hr r (by rw [he]; simp [svref])]
  . rfl
  . rfl
 case field off sz x=>simp [aop,hv]
 case indexAddr sz x y=>
  simp only [aop,hv.1,hv.2];split
  . rfl
  . rename_i r g off len k m he _; simp [hr.1 r (by rw [he]; simp [svref])]
  . rfl
 case index x y=>simp [aop,hv]
 case extract x j=>simp [aop,hv]
 case nilCheck x=>
  simp only [aop,hv];split
  . rename_i r g j he; simp [hr r (by rw [he]; simp [svref])]
  all_goals rfl
 case call f as=>
  have:=map_ev_congr (S:=S) (T:=T) (xs:=as) hv.2;simp only [aop,hv.1,this];split
  . rfl
  . split
    . rename_i r g off len rest hmap;have hmem:SV.own r g off len∈as.map S.ev:=by rw [hmap]; simp
      obtain ⟨x,hx,hxe⟩:=List.mem_map.1 hmem;rw [hr.2 x hx r (by rw [hxe]; simp [svref])]
    . rename_i r g j rest hmap;have hmem:SV.ptr r g j∈as.map S.ev:=by rw [hmap]; simp
      obtain ⟨x,hx,hxe⟩:=List.mem_map.1 hmem;rw [hr.2 x hx r (by rw [hxe]; simp [svref])]
    . rfl
  . rename_i id r g vs he hp;rw [hr.1 r (by rw [he]; simp [svref])]
  . rfl
 case len str x=>
  simp only [aop,hv];split
  . rfl
  . rfl
  . rename_i r g off len he; simp [hr r (by rw [he]; simp [svref])]
  . rfl
 case append Ty sz bytes x y=>
  simp only [aop,hv.1,hv.2,elems_congr hr.2];split
  . rename_i r g off len c ys d he _; simp [hr.1 r (by rw [he]; simp [svref])]
  . rfl
 case appendZ Ty sz z bytes x y=>
  simp only [aop,hv.1,hv.2];split
  . rename_i r g off len kq m d he _; simp [hr.1 r (by rw [he]; simp [svref])]
  . rfl
 case copy sz x y=>
  simp only [aop,hv.1,hv.2,elems_congr hr.2];split
  . rename_i r g off len c ys he _; simp [hr.1 r (by rw [he]; simp [svref])]
  . rfl
 case mm isMax x y=>simp [aop,hv]
 case nilSl Ty sz=>
  cases dst with
  | none=>rfl
  | some d=>simp [aop,hm rfl d rfl]
 case isNil neg x=>simp [aop,hv]
 case bad=>rfl
 case nilFn=>rfl
theorem evN_congr {S T:St} {x:SX} (h:T.ev x=S.ev x):T.evN x=S.evN x:=by
 unfold St.evN;split
 . rfl
 . exact h
theorem elemsS_congr {S T:St} {v:SV} (h:∀ r∈svref v,T.h r=S.h r):T.elemsS v=S.elemsS v:=by
 cases v with
 | own r g off len=>simp [St.elemsS,h r (by simp [svref])]
 | p v=>cases v<;>rfl
 | _=>rfl
theorem aopX_congr {S T:St} {dst:Option Nat} {op:SO} (hv:∀ x∈op.opds,T.ev x=S.ev x) (hr:op.still=false->∀ x∈op.opds,∀ r∈svref (S.ev x),T.h r=S.h r)
 (hm:op.makes=true->∀ d,dst=some d->T.h d=S.h d):aopX T dst op=aopX S dst op:=by
 cases op<;>(try simp only [SO.opds,List.mem_cons,List.not_mem_nil,or_false,forall_eq_or_imp,forall_eq] at hv hr)<;>try rfl
 all_goals replace hr:=hr rfl
 case box Ty x=>
  simp only [aopX,hv];cases dst with
  | none=>cases S.ev x<;>rfl
  | some d=>cases S.ev x<;>simp [hm rfl d rfl]
 case build zs ps=>
  have:(ps.map λp=>T.evN p.2.2)=ps.map λp=>S.evN p.2.2:=List.map_congr_left λp hp=>evN_congr (hv _ (List.mem_map.2 ⟨p,hp,rfl⟩));simp only [aopX,this]
 case mkSl Ty sz ps=>
  simp only [aopX,map_ev_congr hv];cases dst with
  | none=>rfl
  | some d=>simp [hm rfl d rfl]
 case load sz x=>
  simp only [aopX,hv];split
  . rename_i r g j he; simp [hr r (by rw [he]; simp [svref])]
  . rfl
 case store sz x y=>
  simp only [aopX,hv.1,hv.2];split
  . rename_i r g j he; simp [hr.1 r (by rw [he]; simp [svref])]
  . rfl
 case slice sz x lo hi=>
  have h1:=hv.1;have h2:∀ y∈lo.toList,T.ev y=S.ev y:=λy hy=>hv.2 y (by simp [hy]);have h3:∀ y∈hi.toList,T.ev y=S.ev y:=λy hy=>hv.2 y (by simp [hy]);simp only [aopX,h1,lowV_congr h2,lowV_congr h3];split
  . rename_i r g off len l he _; simp [hr.1 r (by rw [he]; simp [svref])]
  . rfl
 case fieldAddr off sz x=>
  simp only [aopX,hv];split
  . rename_i r g j he; simp [hr r (by rw [he]; simp [svref])]
  . rfl
 case field off sz x=>simp [aopX,hv]
 case indexAddr sz x y=>
  simp only [aopX,hv.1,hv.2];split
  . rename_i r g off len k m he _; simp [hr.1 r (by rw [he]; simp [svref])]
  . rfl
 case append Ty sz bytes x y=>
  simp only [aopX,hv.1,hv.2,elemsS_congr hr.2];split
  . rename_i r g off len c ys he _; simp [hr.1 r (by rw [he]; simp [svref])]
  . rfl
end Go.Vw
namespace Go.Vw
inductive OutD where
 | v (c:Prop) (x:SV) (δ:Option (Nat × HC)) (E:List Ent)
 | call (f:FuncId) (args:List V)
 | callG (f:FuncId) (c:Prop) (r:Nat) (o:HObj) (args:List V)
 | stuck
def coreD (pd:List Nat) (i:Nat) (o:SOp) (S:St):OutD:=
 match aop pd S o.dst o.op with
 | .v c x δ=>.v c x δ (entsOf i o.dst o.op S)
 | .call f a=>.call f a
 | .callG f c r o a=>.callG f c r o a
 | .stuck=>match aopX S o.dst o.op with
  | .v c x δ=>.v c x δ (entsOf i o.dst o.op S)
  | _=>.stuck
def outD (pd:List Nat) (i:Nat) (o:SOp) (S:St):OutD:=
 match o.guard with
 | none=>coreD pd i o S
 | some (g,want)=>
  match S.σ g with
  | .p (.b c)=>if c=want then coreD pd i o S else .v True (.tup []) none []
  | .p (.i _ _) | .tup _=>.v True (.tup []) none []
  | _=>.stuck
def callEnt (i:Nat):List Ent:=[(i,0,true)]
def pureOf:RV->SV
 | .pure v=>.p v
 | _=>.any
def pureSV:List RV->SV
 | [.pure v]=>.p v
 | rvs=>.tup (rvs.map pureOf)
def ownEnts (i:Nat):Nat->List RV->List Ent
 | _,[]=>[]
 | d,.own _ _ _::rest=>(i,d,true)::ownEnts i (d+1000) rest
 | d,.pure _::rest=>ownEnts i (d+1000) rest
def retEnts (i:Nat) (dst:Option Nat) (rvs:List RV):List Ent:=match dst with | some d=>callEnt i++ownEnts i d rvs | none=>callEnt i
def HCallD (P:Program) (i:Nat) (f:FuncId) (args:List SV) (K:St->List Ent->Prop) (S:St) (dst:Option Nat):Prop:=
 ∃ fp R,(∀ x∈args,∀ r∈svref x,r∈fp)/\FrH P f S.h fp args R/\(∃ δ svs,R δ svs/\∀ x∈δ,x.1∈fp)/\
  ∀ δ svs,R δ svs->(∀ x∈δ,x.1∈fp)->K ((⟨S.σ,patch S.h δ⟩:St).put dst (packSV svs)) (callEnt i++fp.map λr=>(i,r,true))
def HOp (P:Program) (i:Nat) (dst:Option Nat) (op:SO) (K:St->List Ent->Prop) (S:St):Prop:=
 match op with
 | .call f as=>match S.ev f with
  | .p (.clo id caps)=>HCallD P i id (as.map S.ev++caps.map .p) K S dst
  | _=>False
 | _=>False
def HD (P:Program) (i:Nat) (o:SOp) (K:St->List Ent->Prop) (S:St):Prop:=(∀ g want,o.guard=some (g,want)->S.σ g= .p (.b want))/\HOp P i o.dst o.op K S
def AOpD (P:Program) (pd:List Nat) (i:Nat) (o:SOp) (K:St->List Ent->Prop) (S:St):Prop:=
 match outD pd i o S with
 | .v c x δ E=>c/\K ((S.heap δ).put o.dst x) E
 | .call f args=>(∃ R,Spec P f args R/\(∃ r,R r)/\∀ rvs,R rvs->K (S.ret o.dst rvs) (retEnts i o.dst rvs))\/HD P i o K S
 | .callG f c r ob args=>c/\((∃ R,SpecG P f ob args R/\(∃ o' gvs,R o' gvs)/\∀ o' gvs,R o' gvs->K (S.giv o.dst r o' gvs) (callEnt i++[(i,r,true)]))\/HD P i o K S)
 | .stuck=>HD P i o K S
theorem apartS_spec {x y:SOp} (h:apartS x y=true):(∀ d,x.dst=some d->d ∉ y.looks)/\(∀ d,x.dst=some d->y.dst≠some d)/\(∀ d,y.dst=some d->d ∉ x.looks):=by
 unfold apartS at h;refine ⟨λd hd=>?_,λd hd=>?_,λd hd=>?_⟩<;>simp [hd] at h
 . exact h.1.1
 . exact h.1.2
 . exact h.2
def nocf (E F:List Ent):Prop:=∀ e∈E,∀ f∈F,e.2.1=f.2.1->(e.2.2 || f.2.2)=false
theorem ev_of_looks {o:SOp} {S T:St} (h:∀ t∈o.looks,T.σ t=S.σ t):∀ x∈o.op.opds,T.ev x=S.ev x:=by
 intro x hx;cases x with
 | t n=>exact h n (by simp only [SOp.looks,List.mem_append,List.mem_flatMap]; exact .inl ⟨.t n,hx,by simp [SX.slot]⟩)
 | _=>rfl
theorem entsOf_congr {i:Nat} {dst:Option Nat} {op:SO} {S T:St} (h:∀ x∈op.opds,T.ev x=S.ev x):entsOf i dst op T=entsOf i dst op S:=by
 unfold entsOf;congr 1;split
 . rfl
 have:∀ l:List SX,(∀ x∈l,T.ev x=S.ev x)->l.flatMap (λx=>(svref (T.ev x)).map λr=>(i,r,op.writes))=l.flatMap (λx=>(svref (S.ev x)).map λr=>(i,r,op.writes)):=by
  intro l;induction l with
  | nil=>intro _; rfl
  | cons x r ih=>intro hl; rw [List.flatMap_cons,List.flatMap_cons,hl x (by simp),ih λy hy=>hl y (by simp [hy])]
 exact this _ h
theorem plains_svref:∀ {l:List SV} {vs:List V},plains l=some vs->∀ x∈l,svref x=[]
 | [],_,_,x,hx=>by cases hx
 | .p v::rest,vs,h,x,hx=>by
  simp only [plains,Option.map_eq_some_iff] at h;obtain ⟨vs',h,_⟩:=h;rcases List.mem_cons.1 hx with rfl | hx
  . rfl
  . exact plains_svref h x hx
 | .any::_,_,h,_,_=>by simp [plains] at h
 | .own _ _ _ _::_,_,h,_,_=>by simp [plains] at h
 | .ptr _ _ _::_,_,h,_,_=>by simp [plains] at h
 | .tup _::_,_,h,_,_=>by simp [plains] at h
 | .bnd _ _ _::_,_,h,_,_=>by simp [plains] at h
 | .bool::_,_,h,_,_=>by simp [plains] at h
theorem coreD_congr (pd:List Nat) (i:Nat) {o:SOp} {S T:St} (hσ:∀ t∈o.looks,T.σ t=S.σ t) (hE:∀ c x δ E,coreD pd i o S= .v c x δ E->∀ e∈E,T.h e.2.1=S.h e.2.1)
 (hG:∀ f c r ob as,coreD pd i o S= .callG f c r ob as->T.h r=S.h r)
 (hns:coreD pd i o S≠.stuck):coreD pd i o T=coreD pd i o S:=by
 have hev:=ev_of_looks hσ;have ents:(∀ e∈entsOf i o.dst o.op S,T.h e.2.1=S.h e.2.1)->(o.op.still=false->∀ x∈o.op.opds,∀ r∈svref (S.ev x),T.h r=S.h r)/\(o.op.makes=true->∀ d,o.dst=some d->T.h d=S.h d):=by
  intro hE';refine ⟨λhst x hx r hr=>?_,λhm d hd=>?_⟩
  . exact hE' (i,r,o.op.writes) (by
     simp only [entsOf,hst,Bool.false_eq_true,if_false,List.mem_append,List.mem_flatMap,List.mem_map];exact .inl ⟨x,hx,r,hr,rfl⟩)
  . exact hE' (i,d,true) (by simp [entsOf,hm,hd])
 by_cases hst:aop pd S o.dst o.op= .stuck
 ·
  have h1:∃ c x δ,aopX S o.dst o.op= .v c x δ:=by
   unfold coreD at hns;rw [hst] at hns;simp only at hns;split at hns
   . rename_i c x δ ha; exact ⟨c,x,δ,ha⟩
   . exact absurd rfl hns
  obtain ⟨c,x,δ,ha⟩:=h1;have hc:coreD pd i o S= .v c x δ (entsOf i o.dst o.op S):=by unfold coreD; rw [hst]; simp only; rw [ha]
  obtain ⟨e1,e2⟩:=ents (hE _ _ _ _ hc);unfold coreD;rw [aop_congr pd hev e1 e2,aopX_congr hev e1 e2,entsOf_congr hev]
 have key:aop pd T o.dst o.op=aop pd S o.dst o.op:=by
  unfold coreD at hE hG hns;cases ha:aop pd S o.dst o.op with
  | stuck=>exact absurd ha hst
  | v c x δ=>
   rw [ha] at hE;obtain ⟨e1,e2⟩:=ents (hE c x δ _ rfl);rw [<- ha];exact aop_congr pd hev e1 e2
  | call f args=>
   rw [<- ha];refine aop_congr pd hev (λ_ x hx r hr=>?_) (λhm=>?_)
   . cases hop:o.op<;>rw [hop] at ha<;>simp only [aop] at ha
     case call g as=>
      split at ha
      . rename_i id caps vs hf hpl;rw [hop] at hx;simp only [SO.opds,List.mem_cons] at hx;rcases hx with rfl | hx
        . rw [hf] at hr; simp [svref] at hr
        . rw [plains_svref hpl (S.ev x) (List.mem_map.2 ⟨x,hx,rfl⟩)] at hr; cases hr
      . exfalso; revert ha; (repeat' split)<;>simp
      . exfalso; revert ha; (repeat' split)<;>simp
      . cases ha
     all_goals (exfalso; revert ha; (repeat' split)<;>simp)
   . cases hop:o.op<;>rw [hop] at ha<;>simp only [aop] at ha
     case call g as=>rw [hop] at hm; cases hm
     all_goals (exfalso; revert ha; (repeat' split)<;>simp)
  | callG f c r ob args=>
   rw [ha] at hG;have hr0:=hG f c r ob args rfl;rw [<- ha];refine aop_congr pd hev (λ_ x hx r' hr=>?_) (λhm=>?_)
   . cases hop:o.op<;>rw [hop] at ha<;>simp only [aop] at ha
     case call g as=>
      rw [hop] at hx;simp only [SO.opds,List.mem_cons] at hx;split at ha
      . cases ha
      . rename_i id caps hf hpl;have key:∀ (s0:SV) (rest:List SV) (vs:List V),as.map S.ev=s0::rest->plains rest=some vs->svref s0=[r]->T.h r'=S.h r':=by
         intro s0 rest vs hm hp hs;rcases hx with rfl | hx
         . rw [hf] at hr; simp [svref] at hr
         . have hmem:S.ev x∈s0::rest:=by rw [<- hm]; exact List.mem_map.2 ⟨x,hx,rfl⟩
           rcases List.mem_cons.1 hmem with he | he
           . rw [he,hs] at hr; simp at hr; subst hr; exact hr0
           . rw [plains_svref hp _ he] at hr; cases hr
        split at ha
        . rename_i r0 g0 off len rest hmap;split at ha
          . rename_i T' sz xs vs hob hp;simp only [AR.callG.injEq] at ha;obtain ⟨_,_,rfl,_,_⟩:=ha;exact key _ _ _ hmap hp rfl
          . cases ha
        . rename_i r0 g0 j rest hmap;split at ha
          . rename_i T' cs vs hob hp;simp only [AR.callG.injEq] at ha;obtain ⟨_,_,rfl,_,_⟩:=ha;exact key _ _ _ hmap hp rfl
          . cases ha
        . cases ha
      . rename_i id r0 g vs hf hp;split at ha
        . rename_i T' cs hob;simp only [AR.callG.injEq] at ha;obtain ⟨_,_,rfl,_,_⟩:=ha;rcases hx with rfl | hx
          . rw [hf] at hr; simp [svref] at hr; subst hr; exact hr0
          . rw [plains_svref hp (S.ev x) (List.mem_map.2 ⟨x,hx,rfl⟩)] at hr; cases hr
        . cases ha
      . cases ha
     all_goals (exfalso; revert ha; (repeat' split)<;>simp)
   . cases hop:o.op<;>rw [hop] at ha<;>simp only [aop] at ha
     case call g as=>rw [hop] at hm; cases hm
     all_goals (exfalso; revert ha; (repeat' split)<;>simp)
 unfold coreD;rw [key,entsOf_congr hev];cases ha:aop pd S o.dst o.op with
 | stuck=>exact absurd ha hst
 | _=>rfl
theorem outD_congr (pd:List Nat) (i:Nat) {o:SOp} {S T:St} (hσ:∀ t∈o.looks,T.σ t=S.σ t) (hE:∀ c x δ E,outD pd i o S= .v c x δ E->∀ e∈E,T.h e.2.1=S.h e.2.1)
 (hG:∀ f c r ob as,outD pd i o S= .callG f c r ob as->T.h r=S.h r)
 (hns:outD pd i o S≠.stuck):outD pd i o T=outD pd i o S:=by
 unfold outD at hE hG hns ⊢;cases hg:o.guard with
 | none=>
  rw [hg] at hE hG hns;exact coreD_congr pd i hσ hE hG hns
 | some p=>
  obtain ⟨g,want⟩:=p;rw [hg] at hE hG hns;have hgs:T.σ g=S.σ g:=hσ g (by simp [SOp.looks,hg]);simp only [hgs] at hE hG hns ⊢;cases hs:S.σ g with
  | p v=>
   rw [hs] at hE hG hns;cases v with
   | b c=>
    simp only at hE hG hns ⊢;by_cases hcw:c=want
    . rw [if_pos hcw] at hE hG hns ⊢;rw [if_pos hcw];exact coreD_congr pd i hσ hE hG hns
    . rw [if_neg hcw,if_neg hcw]
   | _=>rfl
  | _=>rfl
theorem aop_delta {pd:List Nat} {i:Nat} {dst:Option Nat} {op:SO} {S:St} {c:Prop} {x:SV} {r:Nat} {hc:HC} (h:aop pd S dst op= .v c x (some (r,hc))):(i,r,true)∈entsOf i dst op S:=by
 cases op<;>simp only [aop] at h
 case box Ty y=>
  split at h
  . simp only [AR.v.injEq,Option.some.injEq,Prod.mk.injEq] at h;obtain ⟨_,_,rfl,_⟩:=h;simp_all [entsOf,SO.still,SO.makes]
  . cases h
 case nilSl Ty zs=>
  split at h
  . split at h
    . simp only [AR.v.injEq,Option.some.injEq,Prod.mk.injEq] at h;obtain ⟨_,_,rfl,_⟩:=h;simp_all [entsOf,SO.still,SO.makes]
    . simp at h
  . cases h
 case alloc Ty zs=>
  split at h
  . simp only [AR.v.injEq,Option.some.injEq,Prod.mk.injEq] at h;obtain ⟨_,_,rfl,_⟩:=h;simp_all [entsOf,SO.still,SO.makes]
  . cases h
 case mkSl Ty sz ps=>
  split at h
  . split at h
    . simp only [AR.v.injEq,Option.some.injEq,Prod.mk.injEq] at h;obtain ⟨_,_,rfl,_⟩:=h;simp_all [entsOf,SO.still,SO.makes]
    . simp at h
  . cases h
 case make Ty sz z bytes l=>
  split at h
  . split at h
    . simp at h
    . simp only [AR.v.injEq,Option.some.injEq,Prod.mk.injEq] at h;obtain ⟨_,_,rfl,_⟩:=h;simp_all [entsOf,SO.still,SO.makes]
  . cases h
 case store sz y z=>
  split at h
  . rename_i r' g j v he _;split at h;all_goals
     first
      | cases h; done
      | (simp only [AR.v.injEq,Option.some.injEq,Prod.mk.injEq] at h
         obtain ⟨_,_,rfl,_⟩:=h;simp [entsOf,SO.still,SO.opds,SO.writes,he,svref])
  . cases h
 case append Ty sz bytes y z=>
  split at h
  . rename_i r' g off len cy ys d he _;split at h
    . split at h;all_goals
       simp only [AR.v.injEq,Option.some.injEq,Prod.mk.injEq] at h;obtain ⟨_,_,rfl,_⟩:=h;simp [entsOf,SO.still,SO.opds,SO.writes,he,svref]
    . cases h
  . cases h
 case appendZ Ty sz zv bytes y z=>
  split at h
  . rename_i r' g off len kq m d he _;split at h
    . split at h;all_goals
       simp only [AR.v.injEq,Option.some.injEq,Prod.mk.injEq] at h;obtain ⟨_,_,rfl,_⟩:=h;simp [entsOf,SO.still,SO.opds,SO.writes,he,svref]
    . cases h
  . cases h
 case copy sz y z=>
  split at h
  . rename_i r' g off len cy ys he _;split at h
    . simp only [AR.v.injEq,Option.some.injEq,Prod.mk.injEq] at h;obtain ⟨_,_,rfl,_⟩:=h;simp [entsOf,SO.still,SO.opds,SO.writes,he,svref]
    . cases h
  . cases h
 all_goals (exfalso; revert h; (repeat' split)<;>simp)
theorem aopX_delta {i:Nat} {dst:Option Nat} {op:SO} {S:St} {c:Prop} {x:SV} {r:Nat} {hc:HC} (h:aopX S dst op= .v c x (some (r,hc))):(i,r,true)∈entsOf i dst op S:=by
 cases op<;>simp only [aopX] at h
 case box Ty y=>
  split at h
  . simp only [AR.v.injEq,Option.some.injEq,Prod.mk.injEq] at h;obtain ⟨_,_,rfl,_⟩:=h;simp_all [entsOf,SO.still,SO.makes]
  . cases h
 case mkSl Ty sz ps=>
  split at h
  . simp only [AR.v.injEq,Option.some.injEq,Prod.mk.injEq] at h;obtain ⟨_,_,rfl,_⟩:=h;simp_all [entsOf,SO.still,SO.makes]
  . cases h
 case store sz y z=>
  split at h
  . rename_i r' g j he;split at h;all_goals
     first
      | cases h; done
      | (simp only [AR.v.injEq,Option.some.injEq,Prod.mk.injEq] at h
         obtain ⟨_,_,rfl,_⟩:=h;simp [entsOf,SO.still,SO.opds,SO.writes,he,svref])
  . cases h
 case append Ty sz bytes y z=>
  split at h
  . rename_i r' g off len cy ys he _;split at h;all_goals
     first
      | cases h; done
      | (simp only [AR.v.injEq,Option.some.injEq,Prod.mk.injEq] at h
         obtain ⟨_,_,rfl,_⟩:=h;simp [entsOf,SO.still,SO.opds,SO.writes,he,svref])
  . cases h
 all_goals (exfalso; revert h; (repeat' split)<;>simp)
theorem outD_delta {pd:List Nat} {i:Nat} {o:SOp} {S:St} {c:Prop} {x:SV} {r:Nat} {hc:HC} {E:List Ent} (h:outD pd i o S= .v c x (some (r,hc)) E):(i,r,true)∈E:=by
 have core:coreD pd i o S= .v c x (some (r,hc)) E->(i,r,true)∈E:=by
  intro h;unfold coreD at h;split at h
  . rename_i c' x' δ' ha;simp only [OutD.v.injEq] at h;obtain ⟨rfl,rfl,rfl,rfl⟩:=h;exact aop_delta ha
  . cases h
  . cases h
  . split at h
    . rename_i c' x' δ' ha;simp only [OutD.v.injEq] at h;obtain ⟨rfl,rfl,rfl,rfl⟩:=h;exact aopX_delta ha
    . cases h
 unfold outD at h;split at h
 . exact core h
 . split at h
   . split at h
     . exact core h
     . cases h
   . cases h
   . cases h
   . cases h
theorem heap_h (S:St) (δ:Option (Nat × HC)) (k:Nat) (hk:∀ r c,δ=some (r,c)->k≠r):(S.heap δ).h k=S.h k:=by
 cases δ with
 | none=>rfl
 | some p=>obtain ⟨r,c⟩:=p; exact upd_ne _ _ (hk r c rfl)
theorem put_h (S:St) (d:Option Nat) (x:SV):(S.put d x).h=S.h:=by cases d<;>rfl
theorem heap_σ (S:St) (δ:Option (Nat × HC)):(S.heap δ).σ=S.σ:=by cases δ<;>rfl
theorem put_σ (S:St) (d:Option Nat) (x:SV) (t:Nat) (h:∀ e,d=some e->t≠e):(S.put d x).σ t=S.σ t:=by
 cases d with
 | none=>rfl
 | some e=>exact upd_ne _ _ (h e rfl)
structure Loc (F:St->St) (dst:Option Nat) (rf:Nat->Prop):Prop where
 slot:∀ S t,dst≠some t->(F S).σ t=S.σ t
 ref:∀ S r,¬ rf r->(F S).h r=S.h r
 val:∀ S T t,(∀ r,rf r->T.h r=S.h r)->dst=some t->(F T).σ t=(F S).σ t
 rval:∀ S T r,(∀ r,rf r->T.h r=S.h r)->rf r->(F T).h r=(F S).h r
theorem St.eq_of {S T:St} (h1:∀ t,S.σ t=T.σ t) (h2:∀ r,S.h r=T.h r):S=T:=by
 cases S; cases T;simp only [St.mk.injEq];exact ⟨funext h1,funext h2⟩
theorem Loc.comm {F G:St->St} {d e:Option Nat} {R Q:Nat->Prop} (hF:Loc F d R) (hG:Loc G e Q) (hde:∀ t,d=some t->e≠some t) (hRQ:∀ r,R r->¬ Q r) (S:St):F (G S)=G (F S):=by
 have h1:∀ r,R r->(G S).h r=S.h r:=λr hr=>hG.ref S r (hRQ r hr);have h2:∀ r,Q r->(F S).h r=S.h r:=λr hr=>hF.ref S r (λh=>hRQ r h hr);refine St.eq_of (λt=>?_) (λr=>?_)
 . by_cases hd:d=some t
   . rw [hF.val S (G S) t h1 hd,hG.slot _ _ (hde t hd)]
   . rw [hF.slot _ _ hd];by_cases he:e=some t
     . exact (hG.val S (F S) t h2 he).symm
     . rw [hG.slot _ _ he,hG.slot _ _ he,hF.slot _ _ hd]
 . by_cases hr:R r
   . rw [hF.rval S (G S) r h1 hr,hG.ref _ _ (hRQ r hr)]
   . rw [hF.ref _ _ hr];by_cases hq:Q r
     . exact (hG.rval S (F S) r h2 hq).symm
     . rw [hG.ref _ _ hq,hG.ref _ _ hq,hF.ref _ _ hr]
theorem put_σ_eq (S T:St) (d:Option Nat) (x:SV) (t:Nat) (h:d=some t):(S.put d x).σ t=(T.put d x).σ t:=by subst h; simp [St.put]
theorem loc_v (dst:Option Nat) (x:SV) (δ:Option (Nat × HC)):Loc (λS=>(S.heap δ).put dst x) dst (λr=>∃ c,δ=some (r,c)):=by
 refine ⟨λS t h=>?_,λS r h=>?_,λS T t _ hd=>put_σ_eq _ _ _ _ _ hd,λS T r _ hr=>?_⟩
 . rw [put_σ _ _ _ _ (λe he hte=>h (by rw [he,hte])),heap_σ]
 . rw [put_h]; exact heap_h _ _ _ λr' c hc e=>h ⟨c,by rw [hc,e]⟩
 . obtain ⟨c,rfl⟩:=hr;simp only [put_h,St.heap,upd_same]
theorem loc_giv (dst:Option Nat) (r:Nat) (o':HObj) (gvs:List GV):Loc (λS=>S.giv dst r o' gvs) dst (λk=>k=r):=by
 refine ⟨λS t h=>?_,λS k h=>?_,λS T t hST hd=>?_,λS T k hST hr=>?_⟩
 . simp only [St.giv]; rw [put_σ _ _ _ _ (λe he hte=>h (by rw [he,hte])),heap_σ]
 . simp only [St.giv]; rw [put_h]; exact heap_h _ _ _ λr' c hc e=>by
    simp only [Option.some.injEq,Prod.mk.injEq] at hc; exact h (by rw [e,hc.1])
 . simp only [St.giv,hST r rfl]; exact put_σ_eq _ _ _ _ _ hd
 . subst hr;simp only [St.giv,put_h,St.heap,upd_same,hST k rfl]
theorem ownIdx_spec {d:Nat} {rvs:List RV} {k j:Nat} (hk:ownIdx d rvs k=some j):k=d+1000*j/\ownAt rvs j=true:=by
 by_cases hc:d<=k/\(k-d)%1000=0/\ownAt rvs ((k-d) / 1000)=true
 . rw [ownIdx,if_pos hc,Option.some.injEq] at hk;obtain ⟨c1,c2,c3⟩:=hc;exact ⟨by omega,by rw [<- hk]; exact c3⟩
 . rw [ownIdx,if_neg hc] at hk; cases hk
theorem ownIdx_of {d:Nat} {rvs:List RV} {j:Nat} (h:ownAt rvs j=true):ownIdx d rvs (d+1000*j)=some j:=by
 have e:(d+1000*j-d) / 1000=j:=by omega
 unfold ownIdx;rw [if_pos ⟨by omega,by omega,by rw [e]; exact h⟩,e]
theorem svsOf_congr {h h':Nat->HC} {d:Nat}:∀ (rvs:List RV) (j:Nat),(∀ i,ownAt rvs i=true->h' (d+1000*(j+i))=h (d+1000*(j+i)))->svsOf h' d j rvs=svsOf h d j rvs
 | [],_,_=>rfl
 | rv::rest,j,hh=>by
  have ih:=svsOf_congr (h:=h) (h':=h') (d:=d) rest (j+1) (λi hi=>by
   have:=hh (i+1) (by simpa [ownAt] using hi)
   rwa [show j+(i+1)=j+1+i by omega] at this)
  rw [svsOf,svsOf,ih];congr 1;cases rv with
  | pure v=>rfl
  | own T sz xs=>
   have:=hh 0 rfl;simp only [Nat.add_zero] at this;simp only [svOf,this]
theorem retSV_congr {h h':Nat->HC} {d:Nat} {rvs:List RV} (hh:∀ i,ownAt rvs i=true->h' (d+1000*i)=h (d+1000*i)):retSV h' d rvs=retSV h d rvs:=by
 have hs:=svsOf_congr (h:=h) (h':=h') (d:=d) rvs 0 (λi hi=>by simpa using hh i hi)
 match rvs,hs with
 | [],hs=>simp only [retSV,hs]
 | [rv],hs=>simpa [svsOf,retSV] using hs
 | _::_::_,hs=>simp only [retSV,hs]
theorem loc_ret (dst:Option Nat) (rvs:List RV):Loc (λS=>S.ret dst rvs) dst (λr=>∃ d,dst=some d/\∃ j,ownIdx d rvs r=some j):=by
 cases dst with
 | none=>exact ⟨λ_ _ _=>rfl,λ_ _ _=>rfl,λ_ _ _ _ h=>(by cases h),λ_ _ _ _ ⟨_,h,_⟩=>by cases h⟩
 | some d=>
  refine ⟨λS t h=>upd_ne _ _ (λe=>h (by rw [e])),λS r h=>?_,λS T t hST hd=>?_,λS T r hST hr=>?_⟩
  . simp only [St.ret,retH];cases hi:ownIdx d rvs r with
    | some j=>exact absurd ⟨d,rfl,j,hi⟩ h
    | none=>rfl
  . simp only [Option.some.injEq] at hd; subst hd;simp only [St.ret,upd_same];exact retSV_congr λi hi=>hST _ ⟨d,rfl,i,ownIdx_of hi⟩
  . simp only [St.ret,retH,hST r hr]
theorem ownEnts_mem {i:Nat}:∀ {rvs:List RV} {d j:Nat},ownAt rvs j=true->(i,d+1000*j,true)∈ownEnts i d rvs
 | [],_,j,h=>by simp [ownAt] at h
 | rv::rest,d,0,h=>by
  cases rv with
  | pure v=>simp [ownAt,RV.isOwn] at h
  | own T sz xs=>simp [ownEnts]
 | rv::rest,d,j+1,h=>by
  have:=ownEnts_mem (i:=i) (rvs:=rest) (d:=d+1000) (j:=j) (by simpa [ownAt] using h);rw [show d+1000+1000*j=d+1000*(j+1) by omega] at this;cases rv with
  | pure v=>exact this
  | own T sz xs=>exact List.mem_cons_of_mem _ this
theorem ownEnts_fst {i:Nat}:∀ {rvs:List RV} {d:Nat},∀ e∈ownEnts i d rvs,e.1=i
 | [],_,e,h=>by cases h
 | .pure v::rest,d,e,h=>ownEnts_fst (rvs:=rest) (d:=d+1000) e h
 | .own T sz xs::rest,d,e,h=>by
  rcases List.mem_cons.1 h with rfl | h
  . rfl
  . exact ownEnts_fst (rvs:=rest) (d:=d+1000) e h
theorem retEnts_fst {i:Nat} {dst:Option Nat} {rvs:List RV}:∀ e∈retEnts i dst rvs,e.1=i:=by
 intro e he;cases dst with
 | none=>simp only [retEnts,callEnt,List.mem_singleton] at he; rw [he]
 | some d=>
  rcases List.mem_append.1 he with he | he
  . simp only [callEnt,List.mem_singleton] at he; rw [he]
  . exact ownEnts_fst e he
theorem patch_ne {h:Nat->HC}:∀ {δ:List (Nat × HC)} {r:Nat},(∀ x∈δ,x.1≠r)->patch h δ r=h r:=by
 intro δ;induction δ generalizing h with
 | nil=>intro _ _; rfl
 | cons x rest ih=>
  intro r hr;simp only [patch,List.foldl_cons];have:=ih (h:=upd h x.1 x.2) (r:=r) λy hy=>hr y (by simp [hy]);simp only [patch] at this;rw [this,upd_ne _ _ (λe=>hr x (by simp) e.symm)]
theorem patch_congr {h h':Nat->HC}:∀ {δ:List (Nat × HC)} {r:Nat},h' r=h r->patch h' δ r=patch h δ r:=by
 intro δ;induction δ generalizing h h' with
 | nil=>intro r hr; exact hr
 | cons x rest ih=>
  intro r hr;simp only [patch,List.foldl_cons];have:=ih (h:=upd h x.1 x.2) (h':=upd h' x.1 x.2) (r:=r) (by simp only [upd]; split<;>simp_all)
  simpa only [patch] using this
theorem HD.notv {P:Program} {pd:List Nat} {i:Nat} {o:SOp} {K:St->List Ent->Prop} {S:St} (h:HD P i o K S):∀ c x δ E,outD pd i o S≠.v c x δ E:=by
 intro c x δ E ho;obtain ⟨hg,h⟩:=h;have core:∀ c x δ E,coreD pd i o S≠.v c x δ E:=by
  intro c x δ E hc;cases hop:o.op<;>rw [hop] at h<;>simp only [HOp] at h
  case call f as=>
   unfold coreD at hc;rw [hop] at hc;split at hc
   . rename_i c' x' δ' ha;revert ha; simp only [aop]; (repeat' split)<;>simp
   . cases hc
   . cases hc
   . simp [aopX] at hc
 unfold outD at ho;cases hgd:o.guard with
 | none=>rw [hgd] at ho; exact core _ _ _ _ ho
 | some p=>
  obtain ⟨g,want⟩:=p;rw [hgd] at ho;simp only [hg g want hgd,if_true] at ho;exact core _ _ _ _ ho
theorem AOpD_of_HD {P:Program} {pd:List Nat} {i:Nat} {o:SOp} {K:St->List Ent->Prop} {S:St} (h:HD P i o K S)
 (hG:∀ f c r ob as,outD pd i o S= .callG f c r ob as->c):AOpD P pd i o K S:=by
 unfold AOpD;cases ho:outD pd i o S with
 | v c x δ E=>exact absurd ho (h.notv _ _ _ _)
 | call f args=>exact .inr h
 | callG f c r ob args=>exact ⟨hG _ _ _ _ _ ho,.inr h⟩
 | stuck=>exact h
theorem HD.out {P:Program} {pd:List Nat} {i:Nat} {o:SOp} {K:St->List Ent->Prop} {S:St} (h:HD P i o K S) (hG:∀ f c r ob as,outD pd i o S= .callG f c r ob as->c):
 ∃ T:(St->St)->List Ent->Prop,(∃ F E,T F E)/\
  (∀ F E,T F E->K (F S) E/\Loc F o.dst (λr=>(i,r,true)∈E)/\((∀ c x δ E',outD pd i o S≠.v c x δ E')->(i,0,true)∈E))/\
  (∀ (S':St) (K':St->List Ent->Prop),(∀ t∈o.looks,S'.σ t=S.σ t)->(∀ F E,T F E->∀ e∈E,S'.h e.2.1=S.h e.2.1)->(∀ F E,T F E->K' (F S') E)->AOpD P pd i o K' S'):=by
 have hHD:=h;obtain ⟨hg,h⟩:=h;cases hop:o.op<;>rw [hop] at h<;>simp only [HOp] at h
 case call f as=>
  split at h
  . rename_i id caps hev;obtain ⟨fp,R,hfp,hFr,⟨δ0,svs0,hr0,hd0⟩,hK⟩:=h;refine ⟨λF E=>∃ δ svs,R δ svs/\(∀ x∈δ,x.1∈fp)/\F=(λS=>(⟨S.σ,patch S.h δ⟩:St).put o.dst (packSV svs))/\E=callEnt i++fp.map λr=>(i,r,true),⟨_,_,δ0,svs0,hr0,hd0,rfl,rfl⟩,?_,?_⟩
    . rintro F E ⟨δ,svs,hr,hd,rfl,rfl⟩;refine ⟨hK δ svs hr hd,⟨λS t ht=>?_,λS r hr=>?_,λS T t _ hd=>put_σ_eq _ _ _ _ _ hd,λS T r hST hr=>?_⟩,λ_=>by simp [callEnt]⟩
      . rw [put_σ _ _ _ _ (λe he hte=>ht (by rw [he,hte]))]
      . rw [put_h];exact patch_ne λx hx e=>hr (List.mem_append.2 (.inr (List.mem_map.2 ⟨r,by rw [<- e]; exact hd x hx,rfl⟩)))
      . rw [put_h,put_h];exact patch_congr (hST r hr)
    . intro S' K' hσ hE hK';have hev':=ev_of_looks hσ;have hfpE:∀ r∈fp,S'.h r=S.h r:=λr hr=>hE _ _ ⟨δ0,svs0,hr0,hd0,rfl,rfl⟩ (i,r,true) (List.mem_append.2 (.inr (List.mem_map.2 ⟨r,hr,rfl⟩)));have hevf:S'.ev f=S.ev f:=hev' f (by rw [hop]; simp [SO.opds]);have hmap:as.map S'.ev=as.map S.ev:=map_ev_congr λx hx=>hev' x (by rw [hop]; simp [SO.opds,hx]);have hHD':HD P i o K' S':=by
       refine ⟨λg want hgd=>?_,?_⟩
       . rw [hσ g (by simp [SOp.looks,hgd])]; exact hg g want hgd
       . rw [hop];simp only [HOp,hevf,hev,hmap];exact ⟨fp,R,hfp,λh2 hh=>hFr h2 λr hr=>(hh r hr).trans (hfpE r hr),⟨δ0,svs0,hr0,hd0⟩,λδ svs hr hd=>hK' _ _ ⟨δ,svs,hr,hd,rfl,rfl⟩⟩
      refine AOpD_of_HD hHD' λf' c' r' ob' as' ho'=>?_;have hc2:outD pd i o S'=outD pd i o S:=by
       have hcongr:aop pd S' o.dst o.op=aop pd S o.dst o.op:=by
        refine aop_congr pd hev' (λ_ x hx r hr=>hfpE r ?_) (λhm=>by rw [hop] at hm; cases hm);rw [hop] at hx;simp only [SO.opds,List.mem_cons] at hx;rcases hx with rfl | hx
        . rw [hev] at hr; simp [svref] at hr
        . exact hfp (S.ev x) (List.mem_append.2 (.inl (List.mem_map.2 ⟨x,hx,rfl⟩))) r hr
       have hcore:coreD pd i o S'=coreD pd i o S:=by
        unfold coreD;rw [hcongr,entsOf_congr hev'];have:aopX S' o.dst o.op=aopX S o.dst o.op:=by rw [hop]; rfl
        rw [this]
       unfold outD;rw [hcore];cases hgd:o.guard with
       | none=>rfl
       | some p=>simp only [hσ p.1 (by simp [SOp.looks,hgd])]
      exact hG f' c' r' ob' as' (by rw [<- hc2]; exact ho')
  . exact h.elim
 all_goals exact h.elim
theorem AOpD.out {P:Program} {pd:List Nat} {i:Nat} {o:SOp} {K:St->List Ent->Prop} {S:St} (h:AOpD P pd i o K S):
 ∃ T:(St->St)->List Ent->Prop,(∃ F E,T F E)/\
  (∀ F E,T F E->K (F S) E/\Loc F o.dst (λr=>(i,r,true)∈E)/\((∀ c x δ E',outD pd i o S≠.v c x δ E')->(i,0,true)∈E))/\
  (∀ (S':St) (K':St->List Ent->Prop),(∀ t∈o.looks,S'.σ t=S.σ t)->(∀ F E,T F E->∀ e∈E,S'.h e.2.1=S.h e.2.1)->(∀ F E,T F E->K' (F S') E)->AOpD P pd i o K' S'):=by
 unfold AOpD at h;cases ho:outD pd i o S with
 | stuck=>
  rw [ho] at h;obtain ⟨T,h1,h2,h3⟩:=HD.out (pd:=pd) h (λf c r ob as he=>by rw [ho] at he; cases he);exact ⟨T,h1,λF E hT=>⟨(h2 F E hT).1,(h2 F E hT).2.1,λ_=>(h2 F E hT).2.2 (by rw [ho]; simp)⟩,h3⟩
 | v c x δ E0=>
  rw [ho] at h;refine ⟨λF E=>F=(λS=>(S.heap δ).put o.dst x)/\E=E0,⟨_,_,rfl,rfl⟩,?_,?_⟩
  . rintro F E ⟨rfl,rfl⟩;have hl:=loc_v o.dst x δ;have hmem:∀ r,(∃ c,δ=some (r,c))->(i,r,true)∈E:=by
     rintro r ⟨hc,rfl⟩; exact outD_delta ho
    refine ⟨h.2,⟨hl.slot,λS r hr=>hl.ref S r λhh=>hr (hmem r hh),λS T t hST hd=>hl.val S T t (λr hr=>hST r (hmem r hr)) hd,λS T r hST hr=>?_⟩,λhne=>absurd rfl (hne c x δ E)⟩;by_cases hh:∃ c,δ=some (r,c)
    . exact hl.rval S T r (λr hr=>hST r (hmem r hr)) hh
    . rw [hl.ref S r hh,hl.ref T r hh]; exact hST r hr
  . intro S' K' hσ hE hK;have hcong:outD pd i o S'=outD pd i o S:=outD_congr pd i hσ (λc' x' δ' E' he=>by
     rw [ho] at he;simp only [OutD.v.injEq] at he;obtain ⟨_,_,_,rfl⟩:=he;exact hE _ _ ⟨rfl,rfl⟩) (λf c r ob as he=>by rw [ho] at he; cases he) (by rw [ho]; simp)
    unfold AOpD;rw [hcong,ho];exact ⟨h.1,hK _ _ ⟨rfl,rfl⟩⟩
 | call f args=>
  rw [ho] at h;rcases h with h | h
  rotate_left
  . obtain ⟨T,h1,h2,h3⟩:=HD.out (pd:=pd) h (λf c r ob as he=>by rw [ho] at he; cases he);exact ⟨T,h1,λF E hT=>⟨(h2 F E hT).1,(h2 F E hT).2.1,λ_=>(h2 F E hT).2.2 (by rw [ho]; simp)⟩,h3⟩
  obtain ⟨R,hsp,⟨r0,hr0⟩,h⟩:=h;refine ⟨λF E=>∃ rvs,R rvs/\F=(λS=>S.ret o.dst rvs)/\E=retEnts i o.dst rvs,⟨_,_,r0,hr0,rfl,rfl⟩,?_,?_⟩
  . rintro F E ⟨rvs,hr,rfl,rfl⟩;have hl:=loc_ret o.dst rvs;have hmem:∀ r,(∃ d,o.dst=some d/\∃ j,ownIdx d rvs r=some j)->(i,r,true)∈retEnts i o.dst rvs:=by
     rintro r ⟨d,hd,j,hj⟩;obtain ⟨rfl,hj'⟩:=ownIdx_spec hj;rw [hd];exact List.mem_append.2 (.inr (ownEnts_mem hj'))
    refine ⟨h rvs hr,⟨hl.slot,λS r hr=>hl.ref S r λhh=>hr (hmem r hh),λS T t hST hd=>hl.val S T t (λr hr=>hST r (hmem r hr)) hd,λS T r hST hr=>?_⟩,λ_=>?_⟩
    . by_cases hh:∃ d,o.dst=some d/\∃ j,ownIdx d rvs r=some j
      . exact hl.rval S T r (λr hr=>hST r (hmem r hr)) hh
      . rw [hl.ref S r hh,hl.ref T r hh]; exact hST r hr
    . cases hd:o.dst with
      | none=>simp [retEnts,callEnt]
      | some d=>simp [retEnts,callEnt]
  . intro S' K' hσ hE hK;have hcong:outD pd i o S'=outD pd i o S:=outD_congr pd i hσ (λc' x' δ' E' he=>by rw [ho] at he; cases he) (λf c r ob as he=>by rw [ho] at he; cases he) (by rw [ho]; simp);unfold AOpD;rw [hcong,ho];exact .inl ⟨R,hsp,⟨r0,hr0⟩,λrvs hr=>hK _ _ ⟨rvs,hr,rfl,rfl⟩⟩
 | callG f c r ob args=>
  rw [ho] at h;obtain ⟨hc,h⟩:=h;rcases h with h | h
  rotate_left
  . obtain ⟨T,h1,h2,h3⟩:=HD.out (pd:=pd) h (λf' c' r' ob' as' he=>by rw [ho] at he; simp only [OutD.callG.injEq] at he; obtain ⟨_,rfl,_⟩:=he; exact hc);exact ⟨T,h1,λF E hT=>⟨(h2 F E hT).1,(h2 F E hT).2.1,λ_=>(h2 F E hT).2.2 (by rw [ho]; simp)⟩,h3⟩
  obtain ⟨R,hsp,⟨o0,g0,hr0⟩,h⟩:=h;refine ⟨λF E=>∃ o' gvs,R o' gvs/\F=(λS=>S.giv o.dst r o' gvs)/\E=callEnt i++[(i,r,true)],⟨_,_,o0,g0,hr0,rfl,rfl⟩,?_,?_⟩
  . rintro F E ⟨o',gvs,hr,rfl,rfl⟩;have hl:=loc_giv o.dst r o' gvs;have hmem:∀ k,k=r->(i,k,true)∈callEnt i++[(i,r,true)]:=by rintro k rfl; simp
    refine ⟨h o' gvs hr,⟨hl.slot,λS r hr=>hl.ref S r λhh=>hr (hmem r hh),λS T t hST hd=>hl.val S T t (λr hr=>hST r (hmem r hr)) hd,λS T k hST hk=>?_⟩,λ_=>by simp [callEnt]⟩;by_cases hh:k=r
    . exact hl.rval S T k (λr hr=>hST r (hmem r hr)) hh
    . rw [hl.ref S k hh,hl.ref T k hh]; exact hST k hk
  . intro S' K' hσ hE hK;have hcong:outD pd i o S'=outD pd i o S:=outD_congr pd i hσ (λc' x' δ' E' he=>by rw [ho] at he; cases he) (λf' c' r' ob' as' he=>by
     rw [ho] at he;simp only [OutD.callG.injEq] at he;obtain ⟨_,_,rfl,_,_⟩:=he;exact hE _ _ ⟨o0,g0,hr0,rfl,rfl⟩ (i,r,true) (by simp)) (by rw [ho]; simp)
    unfold AOpD;rw [hcong,ho];exact ⟨hc,.inl ⟨R,hsp,⟨o0,g0,hr0⟩,λo' gvs hr=>hK _ _ ⟨o',gvs,hr,rfl,rfl⟩⟩⟩
theorem nocf_ref {i j:Nat} {E F:List Ent} (h:nocf E F) {r:Nat} (h1:(i,r,true)∈E) {e:Ent} (h2:e∈F):r≠e.2.1:=by
 intro he;have:=h _ h1 e h2 he;simp at this
theorem nocf_ref' {i j:Nat} {E F:List Ent} (h:nocf E F) {r:Nat} (h1:(j,r,true)∈F) {e:Ent} (h2:e∈E):r≠e.2.1:=by
 intro he;have:=h e h2 _ h1 he.symm;simp at this
theorem swapD {P:Program} {pd:List Nat} {i j:Nat} {oi oj:SOp} (hap:apartS oi oj=true) {K:St->List Ent->List Ent->Prop} (hK:∀ S Ei Ej,K S Ei Ej->nocf Ei Ej) {S:St}
 (h:AOpD P pd i oi (λS1 Ei=>AOpD P pd j oj (λS2 Ej=>K S2 Ei Ej) S1) S):AOpD P pd j oj (λS1 Ej=>AOpD P pd i oi (λS2 Ei=>K S2 Ei Ej) S1) S:=by
 obtain ⟨a1,a2,a3⟩:=apartS_spec hap;have a2':∀ t,oj.dst=some t->oi.dst≠some t:=λt ht hi=>a2 t hi ht;obtain ⟨Ti,⟨F0,E0,hF0⟩,hTi,hSi⟩:=h.out;have hlook:∀ {F E},Ti F E->∀ t∈oj.looks,S.σ t=(F S).σ t:=λhF t ht=>((hTi _ _ hF).2.1.slot S t λe=>a1 t e ht).symm;by_cases hv:∃ c x δ E',outD pd i oi S= .v c x δ E'
 ·
  obtain ⟨c,x,δ,E',ho⟩:=hv;have huniq:c/\∀ K':St->List Ent->Prop,∀ S',(∀ t∈oi.looks,S'.σ t=S.σ t)->(∀ e∈E',S'.h e.2.1=S.h e.2.1)->K' ((S'.heap δ).put oi.dst x) E'->AOpD P pd i oi K' S':=by
   have hc:c:=by unfold AOpD at h; rw [ho] at h; exact h.1
   refine ⟨hc,λK' S' hσ hE hk=>?_⟩;have hcong:outD pd i oi S'=outD pd i oi S:=outD_congr pd i hσ (λc' x' δ' E'' he=>by
    rw [ho] at he;simp only [OutD.v.injEq] at he;obtain ⟨_,_,_,rfl⟩:=he;exact hE) (λf c r ob as he=>by rw [ho] at he; cases he) (by rw [ho]; simp)
   unfold AOpD;rw [hcong,ho];exact ⟨hc,hk⟩
  have hk0:AOpD P pd j oj (λS2 Ej=>K S2 E' Ej) ((S.heap δ).put oi.dst x):=by unfold AOpD at h; rw [ho] at h; exact h.2
  have hl:=loc_v oi.dst x δ;have hmem:∀ r,(∃ c,δ=some (r,c))->(i,r,true)∈E':=by
   rintro r ⟨hc,rfl⟩; exact outD_delta ho
  obtain ⟨Tj,_,hTj,hSj⟩:=hk0.out;have hn:∀ {G Ej},Tj G Ej->nocf E' Ej:=λhG=>hK _ _ _ (hTj _ _ hG).1;refine hSj S _ (λt ht=>(hl.slot S t λe=>a1 t e ht).symm) (λG Ej hG e he=>(hl.ref S _ λhh=>?_).symm) λG Ej hG=>?_
  . exact nocf_ref (j:=j) (hn hG) (hmem _ hh) he rfl
  . have hlj:=(hTj _ _ hG).2.1;refine huniq.2 _ _ (λt ht=>hlj.slot S t λe=>a3 t e ht) (λe he=>hlj.ref S _ λhh=>nocf_ref' (i:=i) (hn hG) hh he rfl) ?_;have:=Loc.comm hl hlj a2 (λr hr hh=>nocf_ref (j:=j) (hn hG) (hmem r hr) hh rfl) S;rw [this];exact (hTj _ _ hG).1
 ·
  have hne:∀ c x δ E',outD pd i oi S≠.v c x δ E':=λc x δ E' e=>hv ⟨c,x,δ,E',e⟩;have hj:∀ {F E},Ti F E->∃ c x δ Ej,outD pd j oj (F S)= .v c x δ Ej/\c/\K (((F S).heap δ).put oj.dst x) E Ej:=by
   intro F E hF;have hk:=(hTi _ _ hF).1;obtain ⟨Tj,⟨G,Ej,hG⟩,hTj,_⟩:=AOpD.out hk;by_cases hvj:∃ c x δ E',outD pd j oj (F S)= .v c x δ E'
   . obtain ⟨c,x,δ,E',ho⟩:=hvj;unfold AOpD at hk;rw [ho] at hk;exact ⟨c,x,δ,E',ho,hk.1,hk.2⟩
   . exfalso;have h1:=(hTi _ _ hF).2.2 hne;have h2:=(hTj _ _ hG).2.2 λc x δ E' e=>hvj ⟨c,x,δ,E',e⟩;exact nocf_ref (j:=j) (hK _ _ _ (hTj _ _ hG).1) h1 h2 rfl
  have hsame:∀ {F E c x δ Ej},Ti F E->outD pd j oj (F S)= .v c x δ Ej->nocf E Ej->outD pd j oj S= .v c x δ Ej:=by
   intro F E c x δ Ej hF ho hn;rw [<- ho];refine outD_congr pd j (hlook hF) (λc' x' δ' E'' he e hm=>?_) (λf c r ob as he=>by rw [ho] at he; cases he) (by rw [ho]; simp);rw [ho] at he;simp only [OutD.v.injEq] at he;obtain ⟨_,_,_,rfl⟩:=he;exact ((hTi _ _ hF).2.1.ref S _ λhh=>nocf_ref (j:=j) hn hh hm rfl).symm
  obtain ⟨cj,xj,δj,Ej,ho0,hcj,hk0⟩:=hj hF0;have hS:=hsame hF0 ho0 (hK _ _ _ hk0);have hl:=loc_v oj.dst xj δj;have hmem:∀ r,(∃ c,δj=some (r,c))->(j,r,true)∈Ej:=by
   rintro r ⟨hc,rfl⟩; exact outD_delta hS
  have hall:∀ {F E},Ti F E->K (((F S).heap δj).put oj.dst xj) E Ej:=by
   intro F E hF;obtain ⟨c,x,δ,E1,ho,_,hk⟩:=hj hF;have:=hsame hF ho (hK _ _ _ hk);rw [hS] at this;simp only [OutD.v.injEq] at this;obtain ⟨rfl,rfl,rfl,rfl⟩:=this;exact hk
  suffices hfin:AOpD P pd i oi (λS2 Ei=>K S2 Ei Ej) ((S.heap δj).put oj.dst xj) by
   unfold AOpD;rw [hS];exact ⟨hcj,hfin⟩
  refine hSi ((S.heap δj).put oj.dst xj) (λS2 Ei=>K S2 Ei Ej) (λt ht=>hl.slot S t λe=>a3 t e ht) (λF E hF e he=>hl.ref S _ λhh=>nocf_ref' (i:=i) (hK _ _ _ (hall hF)) (hmem _ hh) he rfl) λF E hF=>?_;have:=Loc.comm hl (hTi _ _ hF).2.1 a2' (λr hr hh=>nocf_ref (j:=j) (hK _ _ _ (hall hF)) hh (hmem r hr) rfl) S;rw [<- this];exact hall hF
end Go.Vw
namespace Go.Vw
open Go.RowKit (Below)
def okEnt (anc:List Nat) (e f:Ent):Bool:=e.1 == f.1 || !(e.2.2 || f.2.2) || (anc.getD f.1 0).testBit e.1 || (anc.getD e.1 0).testBit f.1 || e.2.1 != f.2.1
def okLog (anc:List Nat) (L:List Ent):Bool:=L.all λe=>L.all λf=>okEnt anc e f
def RunD (P:Program) (pd:List Nat) (anc:List Nat) (K:St->Prop):List SOp->Nat->St->List Ent->Prop
 | [],_,S,L=>okLog anc L=true/\K S
 | o::rest,i,S,L=>AOpD P pd i o (λS' E=>RunD P pd anc K rest (i+1) S' (E++L)) S
section
variable {P:Program} {pd:List Nat} {anc:List Nat} {ops:Array Oper} {sops:List SOp} {K:St->Prop}
def AnyD (P:Program) (pd:List Nat) (anc:List Nat) (ops:Array Oper) (sops:List SOp) (K:St->Prop):Nat->Array Bool->St->List Ent->Prop
 | 0,listed,S,L=>Region.ready .any ops listed=[]/\okLog anc L=true/\K S
 | f+1,listed,S,L=>(Region.ready .any ops listed=[]->okLog anc L=true/\K S)/\
  ∀ i∈Region.ready .any ops listed,∀ so,sops[i]? =some so->AOpD P pd i so (λS' E=>AnyD P pd anc ops sops K f (listed.setIfInBounds i true) S' (E++L)) S
theorem HD.mono {i:Nat} {o:SOp} {K K':St->List Ent->Prop} {S:St} (hk:∀ S' E,(∀ e∈E,e.1=i)->K S' E->K' S' E) (h:HD P i o K S):HD P i o K' S:=by
 obtain ⟨hg,h⟩:=h;refine ⟨hg,?_⟩;cases hop:o.op<;>rw [hop] at h<;>simp only [HOp] at h ⊢
 case call f as=>
  split at h
  . obtain ⟨fp,R,hfp,hFr,hex,hK⟩:=h;refine ⟨fp,R,hfp,hFr,hex,λδ svs hr hd=>hk _ _ (λe he=>?_) (hK δ svs hr hd)⟩;simp only [callEnt,List.mem_append,List.mem_singleton,List.mem_map] at he;rcases he with rfl | ⟨r,_,rfl⟩<;>rfl
  . exact h.elim
theorem HD.wit {i:Nat} {o:SOp} {K:St->List Ent->Prop} {S:St} (h:HD P i o K S):∃ S' E,K S' E:=by
 obtain ⟨hg,h⟩:=h;cases hop:o.op<;>rw [hop] at h<;>simp only [HOp] at h
 case call f as=>
  split at h
  . obtain ⟨fp,R,hfp,hFr,⟨δ,svs,hr,hd⟩,hK⟩:=h;exact ⟨_,_,hK δ svs hr hd⟩
  . exact h.elim
theorem AOpD.mono {i:Nat} {o:SOp} {K K':St->List Ent->Prop} {S:St} (hk:∀ S' E,(∀ e∈E,e.1=i)->K S' E->K' S' E) (h:AOpD P pd i o K S):AOpD P pd i o K' S:=by
 have hent:∀ (dst:Option Nat) (op:SO),∀ e∈entsOf i dst op S,e.1=i:=by
  intro dst op e he;simp only [entsOf,List.mem_append] at he;rcases he with he | he
  . split at he
    . cases he
    . simp only [List.mem_flatMap,List.mem_map] at he;obtain ⟨x,_,r,_,rfl⟩:=he;rfl
  . split at he
    . obtain ⟨r,_,rfl⟩:=List.mem_map.1 he; rfl
    . cases he
 have hfst:∀ c x δ E,outD pd i o S= .v c x δ E->∀ e∈E,e.1=i:=by
  intro c x δ E ho;have core:coreD pd i o S= .v c x δ E->∀ e∈E,e.1=i:=by
   intro h;unfold coreD at h;split at h
   . simp only [OutD.v.injEq] at h;obtain ⟨_,_,_,rfl⟩:=h;exact hent _ _
   . cases h
   . cases h
   . split at h
     . simp only [OutD.v.injEq] at h;obtain ⟨_,_,_,rfl⟩:=h;exact hent _ _
     . cases h
  unfold outD at ho;split at ho
  . exact core ho
  . split at ho
    . split at ho
      . exact core ho
      . simp only [OutD.v.injEq] at ho; obtain ⟨_,_,_,rfl⟩:=ho; simp
    . simp only [OutD.v.injEq] at ho; obtain ⟨_,_,_,rfl⟩:=ho; simp
    . simp only [OutD.v.injEq] at ho; obtain ⟨_,_,_,rfl⟩:=ho; simp
    . cases ho
 unfold AOpD at h ⊢;split at h
 . rename_i c x δ E ho;exact ⟨h.1,hk _ _ (hfst c x δ E ho) h.2⟩
 . rcases h with ⟨R,h1,h2,h3⟩ | h
   . exact .inl ⟨R,h1,h2,λrvs hr=>hk _ _ retEnts_fst (h3 rvs hr)⟩
   . exact .inr (h.mono hk)
 . obtain ⟨hc,h⟩:=h;rcases h with ⟨R,h1,h2,h3⟩ | h
   . exact ⟨hc,.inl ⟨R,h1,h2,λo' gvs hr=>hk _ _ (by simp [callEnt]) (h3 o' gvs hr)⟩⟩
   . exact ⟨hc,.inr (h.mono hk)⟩
 . exact h.mono hk
theorem AOpD.wit {i:Nat} {o:SOp} {K:St->List Ent->Prop} {S:St} (h:AOpD P pd i o K S):∃ S' E,K S' E:=by
 unfold AOpD at h;split at h
 . exact ⟨_,_,h.2⟩
 . rcases h with ⟨R,h1,⟨r,hr⟩,h3⟩ | h
   . exact ⟨_,_,h3 r hr⟩
   . exact h.wit
 . obtain ⟨hc,h⟩:=h;rcases h with ⟨R,h1,⟨o',gvs,hr⟩,h3⟩ | h
   . exact ⟨_,_,h3 o' gvs hr⟩
   . exact h.wit
 . exact h.wit
theorem okLog_sub {L L':List Ent} (h:okLog anc L=true) (hs:∀ e∈L',e∈L):okLog anc L'=true:=by
 simp only [okLog,List.all_eq_true] at h ⊢;exact λe he f hf=>h e (hs e he) f (hs f hf)
theorem AnyD_sub:∀ (f:Nat) (listed:Array Bool) (S:St) (L L':List Ent),(∀ e∈L',e∈L)->AnyD P pd anc ops sops K f listed S L->AnyD P pd anc ops sops K f listed S L'
 | 0,listed,S,L,L',hs,h=>⟨h.1,okLog_sub h.2.1 hs,h.2.2⟩
 | f+1,listed,S,L,L',hs,h=>by
  refine ⟨λhr=>⟨okLog_sub (h.1 hr).1 hs,(h.1 hr).2⟩,λi hi so hso=>(h.2 i hi so hso).mono λS' E _ hh=>AnyD_sub f _ S' _ _ (λe he=>?_) hh⟩;rcases List.mem_append.1 he with he | he
  . exact List.mem_append.2 (.inl he)
  . exact List.mem_append.2 (.inr (hs e he))
theorem ready_lt {listed:Array Bool} {i:Nat} (h:i∈Region.ready .any ops listed):i<ops.size:=by
 obtain ⟨_,o,ho,_⟩:=mem_ready.1 h;exact (Array.getElem?_eq_some_iff.1 ho).1
theorem AnyD_final (hlen:sops.length=ops.size):∀ (f:Nat) (listed:Array Bool) (S:St) (L:List Ent),AnyD P pd anc ops sops K f listed S L->∃ L',okLog anc L'=true/\∀ e∈L,e∈L'
 | 0,listed,S,L,h=>⟨L,h.2.1,λ_ he=>he⟩
 | f+1,listed,S,L,h=>by
  cases hr:Region.ready .any ops listed with
  | nil=>exact ⟨L,(h.1 hr).1,λ_ he=>he⟩
  | cons i rest=>
   have hi:i∈Region.ready .any ops listed:=by rw [hr]; simp
   have hlt:i<sops.length:=by rw [hlen]; exact ready_lt hi
   obtain ⟨S',E,hh⟩:=(h.2 i hi sops[i] (by simp [hlt])).wit;obtain ⟨L',h1,h2⟩:=AnyD_final hlen f _ S' _ hh;exact ⟨L',h1,λe he=>h2 e (List.mem_append.2 (.inr he))⟩
def Closed (ops:Array Oper) (listed:Array Bool):Prop:=∀ j,listed.getD j false=true->∀ o,ops[j]? =some o->∀ e∈o.after,Region.binds .any e=true->listed.getD e.on false=true
theorem anc_edge (ha:ancOk ops.toList anc=true) {j i:Nat} {o:Oper} (hj:ops[j]? =some o) (hi:i<ops.size) (h:(anc.getD j 0).testBit i=true):
 ∃ e∈o.after,Region.binds .any e=true/\(e.on=i\/(anc.getD e.on 0).testBit i=true):=by
 simp only [ancOk,List.all_eq_true] at ha;have h1:=ha (o,j) (by
  rw [List.mem_iff_getElem?];exact ⟨j,by rw [List.getElem?_zipIdx]; simp [hj]⟩)
 have h2:=h1 i (by simpa using hi);simp only [h,Bool.not_true,Bool.false_or,Array.any_eq_true',Bool.and_eq_true,Bool.or_eq_true,beq_iff_eq] at h2;obtain ⟨e,he,hb,hc⟩:=h2;exact ⟨e,he,hb,hc⟩
theorem ord_edge (ho:ordOk ops.toList=true) {j:Nat} {o:Oper} (hj:ops[j]? =some o) {e:Edge} (he:e∈o.after) (hb:Region.binds .any e=true):e.on<j:=by
 simp only [ordOk,List.all_eq_true] at ho;have h1:=ho (o,j) (by
  rw [List.mem_iff_getElem?];exact ⟨j,by rw [List.getElem?_zipIdx]; simp [hj]⟩)
 simp only [Array.all_eq_true_iff_forall_mem,Bool.or_eq_true,Bool.not_eq_true',decide_eq_true_eq] at h1;rcases h1 e he with h | h
 . rw [hb] at h; cases h
 . exact h
theorem anc_listed (ha:ancOk ops.toList anc=true) (ho:ordOk ops.toList=true) {listed:Array Bool} (hc:Closed ops listed) {i:Nat} (hi:i<ops.size):
 ∀ (j:Nat),j<ops.size->listed.getD j false=true->(anc.getD j 0).testBit i=true->listed.getD i false=true:=by
 intro j;induction j using Nat.strongRecOn with
 | _ j ih=>
  intro hj hl h;have hjo:ops[j]? =some ops[j]:=by simp [hj]
  obtain ⟨e,he,hb,h1⟩:=anc_edge ha hjo hi h;have hle:=hc j hl _ hjo e he hb;rcases h1 with h1 | h1
  . rw [<- h1]; exact hle
  . have hlt:=ord_edge ho hjo he hb;exact ih e.on hlt (by omega) hle h1
theorem ready_unord (ha:ancOk ops.toList anc=true) (ho:ordOk ops.toList=true) {listed:Array Bool} (hc:Closed ops listed) {i j:Nat} (hi:i∈Region.ready .any ops listed) (hj:j∈Region.ready .any ops listed):
 (anc.getD j 0).testBit i=false:=by
 cases h:(anc.getD j 0).testBit i with
 | false=>rfl
 | true=>
  exfalso;obtain ⟨hj0,o,hjo,hall⟩:=mem_ready.1 hj;obtain ⟨hi0,oi,hio,_⟩:=mem_ready.1 hi;have hilt:=ready_lt hi;obtain ⟨e,he,hb,h1⟩:=anc_edge ha hjo hilt h;have hle:=hall e he hb;have hli:listed.getD i false=true:=by
   rcases h1 with h1 | h1
   . rw [<- h1]; exact hle
   . have hlt:=ord_edge ho hjo he hb;exact anc_listed ha ho hc hilt e.on (by have:=ready_lt hj; omega) hle h1
  rcases Nat.lt_or_ge i listed.size with h' | h'
  . simp [Array.getD,h'] at hi0 hli; rw [hli] at hi0; cases hi0
  . simp [Array.getD,Nat.not_lt.2 h'] at hli
theorem getD_set {listed:Array Bool} {i j:Nat} {b:Bool}:(listed.setIfInBounds i b).getD j false=if j=i/\i<listed.size then b else listed.getD j false:=by
 simp only [Array.getD_eq_getD_getElem?,Array.getElem?_setIfInBounds];by_cases h:i=j
 . subst h;by_cases hs:i<listed.size
   . simp [hs]
   . simp [hs]
 . have h':¬ (j=i/\i<listed.size):=λhh=>h hh.1.symm;simp [h,h']
theorem Closed.set {listed:Array Bool} (hc:Closed ops listed) {i:Nat} (hi:i∈Region.ready .any ops listed):Closed ops (listed.setIfInBounds i true):=by
 intro j hj o hjo e he hb;rw [getD_set] at hj ⊢;split
 . rfl
 . split at hj
   . rename_i h; obtain ⟨rfl,_⟩:=h;obtain ⟨_,o',ho',hall⟩:=mem_ready.1 hi;rw [hjo,Option.some.injEq] at ho'; subst ho';exact hall e he hb
   . exact hc j hj o hjo e he hb
theorem AnyD_first (ha:ancOk ops.toList anc=true) (ho:ordOk ops.toList=true) (hap:apAll sops anc=true) (hlen:sops.length=ops.size) {i:Nat} {oi:SOp} (hoi:sops[i]? =some oi):
 ∀ (f:Nat) (listed:Array Bool) (S:St) (L:List Ent),Closed ops listed->i∈Region.ready .any ops listed->
  AOpD P pd i oi (λS' E=>AnyD P pd anc ops sops K f (listed.setIfInBounds i true) S' (E++L)) S->AnyD P pd anc ops sops K (f+1) listed S L:=by
 intro f;induction f with
 | zero=>
  intro listed S L hc hi H;refine ⟨λh=>(by rw [h] at hi; cases hi),λj hj oj hoj=>?_⟩;by_cases hji:j=i
  . subst hji;rw [hoi,Option.some.injEq] at hoj; subst hoj;exact H
  . obtain ⟨S',E,hh⟩:=H.wit;have:=ready_mono hj hji;rw [hh.1] at this;cases this
 | succ f ih=>
  intro listed S L hc hi H;refine ⟨λh=>(by rw [h] at hi; cases hi),λj hj oj hoj=>?_⟩;by_cases hji:j=i
  . subst hji;rw [hoi,Option.some.injEq] at hoj; subst hoj;exact H
  . have u1:=ready_unord ha ho hc hi hj;have u2:=ready_unord ha ho hc hj hi;have hapart:apartS oi oj=true:=by
     simp only [apAll,List.all_eq_true] at hap;have h1:=hap (oi,i) (by rw [List.mem_iff_getElem?]; exact ⟨i,by rw [List.getElem?_zipIdx]; simp [hoi]⟩);have h2:=h1 (oj,j) (by rw [List.mem_iff_getElem?]; exact ⟨j,by rw [List.getElem?_zipIdx]; simp [hoj]⟩);simp only [u1,u2,Bool.or_false,Bool.or_eq_true,beq_iff_eq] at h2;rcases h2 with h2 | h2
     . exact absurd h2.symm hji
     . exact h2
    have h1:AOpD P pd i oi (λS1 E1=>AOpD P pd j oj (λS2 E2=>AnyD P pd anc ops sops K f ((listed.setIfInBounds i true).setIfInBounds j true) S2 (E2++(E1++L))/\(∀ e∈E1,e.1=i)/\∀ e∈E2,e.1=j) S1) S:=
     H.mono λS1 E1 hE1 hh=>(hh.2 j (ready_mono hj hji) oj hoj).mono λS2 E2 hE2 hh2=>⟨hh2,hE1,hE2⟩
    have h2:=swapD hapart (λS2 E1 E2 hk=>by
     obtain ⟨hk,g1,g2⟩:=hk;obtain ⟨L',hL,hsub⟩:=AnyD_final hlen f _ _ _ hk;intro e he e' he' href;simp only [okLog,List.all_eq_true] at hL;have:=hL e (hsub e (by simp [he])) e' (hsub e' (by simp [he']));simp only [okEnt,g1 e he,g2 e' he',href,u1,u2,bne_self_eq_false,Bool.or_false,Bool.or_eq_true,beq_iff_eq,Bool.not_eq_true'] at this;rcases this with this | this
     . exact absurd this.symm hji
     . exact this) h1
    refine h2.mono λS1 E2 hE2 hh=>ih (listed.setIfInBounds j true) S1 (E2++L) (hc.set hj) (ready_mono hi (λe=>hji e.symm)) (hh.mono λS2 E1 hE1 hk=>?_);rw [Array.setIfInBounds_comm _ _ hji];refine AnyD_sub f _ S2 _ _ (λe he=>?_) hk.1;simp only [List.mem_append] at he ⊢;rcases he with he | he | he
    . exact .inr (.inl he)
    . exact .inl he
    . exact .inr (.inr he)
theorem AnyD_lex (ha:ancOk ops.toList anc=true) (ho:ordOk ops.toList=true) (hap:apAll sops anc=true) (hlen:sops.length=ops.size):
 ∀ (l:List SOp) (k:Nat) (listed:Array Bool) (S:St) (L:List Ent),(∀ j,l[j]? =sops[k+j]?)->k+l.length=ops.size->listed.size=ops.size->(∀ t,t<ops.size->listed.getD t false=decide (t<k))->
  RunD P pd anc K l k S L->AnyD P pd anc ops sops K l.length listed S L
 | [],k,listed,S,L,_,hk,hs,hl,h=>by
  refine ⟨?_,h.1,h.2⟩;cases hr:Region.ready .any ops listed with
  | nil=>rfl
  | cons i rest=>
   exfalso;have hi:i∈Region.ready .any ops listed:=by rw [hr]; simp
   have hlt:=ready_lt hi;obtain ⟨h0,_⟩:=mem_ready.1 hi;have:=hl i hlt;simp at hk;have h2:listed.getD i false=true:=by rw [this]; simp; omega
   simp [Array.getD,hs,hlt] at h0 h2;rw [h0] at h2; cases h2
 | o::rest,k,listed,S,L,hj,hk,hs,hl,h=>by
  have h0:sops[k]? =some o:=by simpa using (hj 0).symm
  simp at hk;have hklt:k<ops.size:=by omega
  have hready:k∈Region.ready .any ops listed:=by
   rw [mem_ready];refine ⟨?_,ops[k],by simp [hklt],λe he hb=>?_⟩
   . have:=hl k hklt
     simpa [Array.getD,hs,hklt] using this
   . have hlt:=ord_edge ho (show ops[k]? =some ops[k] by simp [hklt]) he hb;rw [hl e.on (by omega)]; simpa using hlt
  have hclosed:Closed ops listed:=by
   intro j hlj oj hoj e he hb;have hjlt:j<ops.size:=(Array.getElem?_eq_some_iff.1 hoj).1;have hlt:=ord_edge ho hoj he hb;rw [hl j hjlt] at hlj;rw [hl e.on (by omega)];simp at hlj ⊢; omega
  refine AnyD_first ha ho hap hlen h0 rest.length listed S L hclosed hready ?_;simp only [RunD] at h;refine h.mono λS' E _ hh=>?_;refine AnyD_lex ha ho hap hlen rest (k+1) _ S' _ (λj=>by have:=hj (j+1); simpa [Nat.add_assoc,Nat.add_comm 1 j] using this) (by omega) (by simpa using hs) (λt ht=>?_) hh;rw [getD_set,hs];by_cases h1:t=k
  . rw [if_pos ⟨h1,hklt⟩]; simp [h1]
  . rw [if_neg (by simp [h1]),hl t ht];congr 1;simp; omega
theorem pureSV_ret {S:St} {d:Option Nat} {rvs:List RV} (h:rvs.any RV.isOwn=false):S.ret d rvs=S.put d (pureSV rvs):=by
 cases d with
 | none=>rfl
 | some d=>
  have hown:∀ j,ownAt rvs j=false:=by
   intro j;unfold ownAt;split
   . rename_i rv hr;have:=List.any_eq_false.1 h rv (List.mem_of_getElem? hr)
     simpa using this
   . rfl
  have hidx:∀ k,ownIdx d rvs k=none:=by intro k; simp [ownIdx,hown]
  have hH:retH S.h d rvs=S.h:=by funext k; simp [retH,hidx]
  have hsv:∀ (l:List RV) (j:Nat),l.any RV.isOwn=false->svsOf S.h d j l=l.map pureOf:=by
   intro l;induction l with
   | nil=>intro _ _; rfl
   | cons rv r ih=>
    intro j hl;simp only [List.any_cons,Bool.or_eq_false_iff] at hl;cases rv with
    | pure v=>simp only [svsOf,svOf,List.map_cons,pureOf]; rw [ih (j+1) hl.2]
    | own T sz xs=>simp [RV.isOwn] at hl
  simp only [St.ret,St.put,hH];congr 1
  match rvs,h with
  | [],_=>rfl
  | [.pure v],_=>rfl
  | [.own _ _ _],h=>simp [RV.isOwn] at h
  | r1::r2::rest,h=>
   simp only [retSV,pureSV];rw [hsv _ 0 h]
theorem AOp_of_D {i:Nat} {so:SOp} {K:St->List Ent->Prop} {S:St} (h:AOpD P pd i so K S):AOp P pd so (λS'=>∃ E,K S' E) S:=by
 have core:∀ {K:St->List Ent->Prop},(match coreD pd i so S with
  | .v c x δ E=>c/\K ((S.heap δ).put so.dst x) E
  | .call f args=>(∃ R,Spec P f args R/\(∃ r,R r)/\∀ rvs,R rvs->K (S.ret so.dst rvs) (retEnts i so.dst rvs))\/HD P i so K S
  | .callG f c r ob args=>c/\((∃ R,SpecG P f ob args R/\(∃ o' gvs,R o' gvs)/\∀ o' gvs,R o' gvs->K (S.giv so.dst r o' gvs) (callEnt i++[(i,r,true)]))\/HD P i so K S)
  | .stuck=>HD P i so K S)->ACore P pd so.dst so.op (λS'=>∃ E,K S' E) S:=by
  intro K h;have hX:HD P i so K S->XCore P so.dst so.op (λS'=>∃ E,K S' E) S:=by
   rintro ⟨_,h⟩;cases hop:so.op<;>rw [hop] at h<;>simp only [HOp] at h
   case call f as=>
    simp only [XCore];split at h
    . rename_i id caps hev;obtain ⟨fp,R,hfp,hFr,hex,hK⟩:=h;rw [hev];exact ⟨fp,R,hfp,hFr,λδ svs hr hd=>⟨_,hK δ svs hr hd⟩⟩
    . exact h.elim
  unfold coreD at h;unfold ACore;cases ha:aop pd S so.dst so.op with
  | v c x δ=>rw [ha] at h; exact ⟨h.1,_,h.2⟩
  | call f args=>
   rw [ha] at h;rcases h with ⟨R,h1,_,h3⟩ | h
   . exact .inl ⟨R,h1,λrvs hr=>⟨_,h3 rvs hr⟩⟩
   . exact .inr (hX h)
  | callG f c r ob args=>
   rw [ha] at h;obtain ⟨hc,h⟩:=h;rcases h with ⟨R,h1,_,h3⟩ | h
   . exact ⟨hc,.inl ⟨R,h1,λo' gvs hr=>⟨_,h3 o' gvs hr⟩⟩⟩
   . exact ⟨hc,.inr (hX h)⟩
  | stuck=>
   rw [ha] at h;simp only at h ⊢;split at h
   . rename_i c x δ E hxa;split at hxa
     . rename_i c' x' δ' hax;simp only [OutD.v.injEq] at hxa;obtain ⟨rfl,rfl,rfl,rfl⟩:=hxa;unfold XCore;split
       . rename_i f as hop; rw [hop] at hax; simp [aopX] at hax
       . rw [hax]; exact ⟨h.1,_,h.2⟩
     . cases hxa
   . rename_i hxa; split at hxa<;>cases hxa
   . rename_i hxa; split at hxa<;>cases hxa
   . exact hX h
 unfold AOpD outD at h;unfold AOp;cases hg:so.guard with
 | none=>rw [hg] at h; exact core h
 | some p=>
  obtain ⟨g,want⟩:=p;rw [hg] at h;simp only at h ⊢;cases hs:S.σ g with
  | p v=>
   rw [hs] at h;cases v with
   | b c=>
    simp only at h ⊢;by_cases hcw:c=want
    . rw [if_pos hcw] at h;exact ⟨λ_=>core h,λhne=>by subst hcw; cases c<;>cases hne⟩
    . rw [if_neg hcw] at h;exact ⟨λhe=>absurd he hcw,λ_=>⟨_,h.2⟩⟩
   | i k m=>exact ⟨_,h.2⟩
   | _=>exact absurd (h.1 g want hg) (by rw [hs]; simp)
  | tup vs=>rw [hs] at h; exact ⟨_,h.2⟩
  | _=>rw [hs] at h; exact absurd (h.1 g want hg) (by rw [hs]; simp)
theorem slimL_get {n:Nat}:∀ {l:List Oper} {sl:List SOp},slimL P n ops l=some sl->sl.length=l.length/\∀ (j:Nat) (so:SOp),sl[j]? =some so->∃ o,l[j]? =some o/\slim1 P n ops o=some so
 | [],sl,h=>by simp only [slimL,Option.some.injEq] at h; subst h; exact ⟨rfl,by simp⟩
 | o::rest,sl,h=>by
  simp only [slimL] at h;split at h
  . rename_i so r ho hr;simp only [Option.some.injEq] at h; subst h;obtain ⟨h1,h2⟩:=slimL_get hr;refine ⟨by simp [h1],λj so' hj=>?_⟩;cases j with
    | zero=>simp at hj; subst hj; exact ⟨o,by simp,ho⟩
    | succ j=>simpa using h2 j so' (by simpa using hj)
  . cases h
theorem AnyD_wp {n:Nat} {A:Nat->Prop} {w0:Base} {Q':Exit->Act->World->Prop} (hsl:slimL P n ops ops.toList=some sops) (hK:∀ S' a' w',K S'->RelSt A w0 n S' a' w'->Q' .normal a' w'):
 ∀ (f:Nat) (listed:Array Bool) (S:St) (L:List Ent) (a:Act) (w:World),AnyD P pd anc ops sops K f listed S L->RelSt A w0 n S a w->wpAny P .any ops Q' f listed a w
 | 0,listed,S,L,a,w,h,hR=>⟨h.1,hK _ _ _ h.2.2 hR⟩
 | f+1,listed,S,L,a,w,h,hR=>by
  refine ⟨λh0=>hK _ _ _ (h.1 h0).2 hR,λi hi=>?_⟩;obtain ⟨hlen,hget⟩:=slimL_get hsl;have hlt:=ready_lt hi;have hlt':i<sops.length:=by rw [hlen]; simpa using hlt
  obtain ⟨o,ho,hs⟩:=hget i sops[i] (by simp [hlt']);have ho':ops[i]? =some o:=by simpa using ho
  refine op_region ho' hs pd (AOp_of_D (h.2 i hi sops[i] (by simp [hlt']))) hR ?_;rintro S' a' w' ⟨E,hh⟩ hR';exact AnyD_wp hsl hK f _ S' _ a' w' hh hR'
theorem WS_regD {n:Nat} {Q:Exit->St->Prop} {S:St} (pd:List Nat) (h:RunD P pd anc (Q .normal) sops 0 S []):WS P n (.regD anc sops) Q S:=by
 intro c hc A w0 a w hR;cases c<;>simp only [slimCode,reduceCtorEq,Option.map_eq_some_iff,and_false,exists_false,Option.some.injEq] at hc<;>(try (revert hc; (repeat' split)<;>simp; done));rename_i id os draw;split at hc
 . rename_i l hl;split at hc
   . rename_i hdraw;split at hc
     . rename_i hcond;simp only [Option.some.injEq,SC.regD.injEq] at hc;obtain ⟨hanc,rfl⟩:=hc;simp only [Bool.and_eq_true] at hcond;obtain ⟨⟨⟨ha,ho⟩,hap⟩,hm⟩:=hcond;rw [hanc] at ha hap;have:draw=true:=hdraw;subst this;obtain ⟨hlen,_⟩:=slimL_get hl;have hlen':l.length=os.size:=by simpa using hlen
       refine wp_region_any hm ?_;have hR':RelSt A w0 n S a { w with drawn:=w.drawn+1 }:=by
        obtain ⟨μ,H,rel⟩:=hR.ex;have hb:Below w.heap.size w { w with drawn:=w.drawn+1 }:=⟨rfl,rfl,rfl,Nat.le_refl _,λ_ _=>rfl⟩;obtain ⟨H',k⟩:=H.grow hb;exact ⟨⟨μ,H',λt=>(rel t).keep k⟩,hR.below.grow hb,hR.size,hR.defers,hR.new⟩
       have hany:=AnyD_lex (K:=Q .normal) (pd:=pd) ha ho hap hlen' l 0 (Array.replicate os.size false) S [] (by simp) (by simpa using hlen') (by simp) (λt ht=>by simp [Array.getD,ht]) h;rw [hlen'] at hany;exact AnyD_wp hl (λS' a' w' hS hR=>⟨S',hS,hR⟩) os.size _ S [] a _ hany hR'
     . cases hc
   . cases hc
 . cases hc
end
end Go.Vw
namespace Go.Vw
open Go.RowKit (Below)
section
variable {P:Program} {A:Nat->Prop} {w0:Base} {n:Nat} {S:St}
theorem row_plain {w:World} {ok ok':Nat->Prop} {B:Nat->Prop} {T:TypeId} {sz:Option Nat} {xs:List V} {base val:Value} {off len:Nat} (hobj:RelObj w ok B base (.arr T sz xs))
 (hs:SubOf base (width sz) off len val) (hle:off+len<=xs.length) (hok:∀ b,ok b->ok' b) (hb:∀ b,blk base=some b->ok' b):RelV w ok' (.sl sz ((xs.drop off).take len)) val:=by
 obtain ⟨flat,hown,hflat⟩:=hobj;have hlen:((xs.drop off).take len).length=len:=by simp; omega
 rcases hown.2 with ⟨hnil,hn⟩ | ⟨b',cap,cur,hbase,hB,hheap,hcap,hmax,hcur,htake⟩
 . rw [hnil] at hs; simp only [SubOf] at hs;obtain ⟨hval,rfl,rfl⟩:=hs;rw [hval]; simpa using RelV.nil sz
 . have hokb:ok' b':=hb b' (by rw [hbase]; rfl);rw [hbase] at hs;simp only [SubOf] at hs;obtain ⟨b,cc,hval,hlc,hcc⟩:=hs;have hf:=(((hflat.drop off).take len).mono (w':=w) hok λ_ _ _=>rfl);rcases hcc with ⟨hcc,hcc',_⟩ | ⟨hcc,hcc'⟩
   . have hl0:len=0:=by omega
     rw [hval];subst hl0;simp only [List.take_zero];exact .sl sz [] b' b 0 cc (λ_=>undef) rfl hokb (by omega) (λj hj=>by simp at hj) (λj hj=>by simp at hj) (λj hj=>by simp at hj)
   . subst hcc;rw [hval];have:=hf.slice (g:=b') (off:=off*width sz) (cap:=cc) (rangeAt_of_row hheap _ _ λi u hu=>by
      rw [List.getElem?_take] at hu;split at hu
      . rw [List.getElem?_drop,<-htake,List.getElem?_take] at hu;split at hu
        . exact hu
        . cases hu
      . cases hu) hokb (by rw [hlen]; exact hlc)
     rw [hlen] at this;exact this
def frzQ (r t:Nat) (szp:Option Nat) (K:St->Prop) (S:St):Prop:=
 match S.σ t,(S.h r).o with
 | .own r' g off len,some (.arr _ sz xs)=>r'=r/\g=(S.h r).g/\off+len<=xs.length/\K ⟨upd S.σ t (.p (.sl sz ((xs.drop off).take len))),upd S.h r ⟨(S.h r).g+1,none⟩⟩
 | .ptr r' g j,some (.box _ cs)=>r'=r/\g=(S.h r).g/\partOk cs j szp/\K ⟨upd S.σ t (.p (.ref szp (V.part cs j szp))),upd S.h r ⟨(S.h r).g+1,none⟩⟩
 | _,_=>False
theorem RelSt.let_go {a:Act} {w:World} (hR:RelSt A w0 n S a w) (r t:Nat) (x:V)
 (hx:∀ (μ:Nat->Value) (val:Value) (ok':Nat->Prop),HeapOK A w w0 μ S.h->RelS w (okOf A w μ S.h) μ S.h (S.σ t) val->(∀ b,okOf A w μ S.h b->ok' b)->
  (∀ b,(S.h r).o≠none->blk (μ r)=some b->ok' b)->RelV w ok' x val):
 RelSt A w0 n ⟨upd S.σ t (.p x),upd S.h r ⟨(S.h r).g+1,none⟩⟩ a w:=by
 obtain ⟨μ,H,rel⟩:=hR.ex;obtain ⟨H',K⟩:=H.change (w':=w) r ⟨(S.h r).g+1,none⟩ (μ r) (Nat.le_refl _) (λ_ _ _=>rfl) (λb h=>absurd rfl h) (λo h=>by cases h) (.inl (by simp));refine ⟨⟨_,H',λt'=>?_⟩,hR.below,hR.size,hR.defers,hR.new⟩;simp only [upd_apply];split
 . rename_i e;subst e;refine .p _ _ (hx μ _ _ H (rel t') K.ok λb hl hb=>?_);obtain ⟨o,ho⟩:=Option.ne_none_iff_exists'.1 hl;obtain ⟨h1,h2⟩:=(H.obj r o ho).lt hb;refine ⟨hR.new b h1,h2,λr' hr' hb'=>?_⟩;by_cases e:r'=r
   . subst e; simp at hr'
   . rw [upd_ne _ _ e] at hr' hb';exact e (H.inj r' r b hr' hl hb' hb)
 . exact (rel t').keep K
theorem WS_frz {sc:SC} {Q:Exit->St->Prop} (r t:Nat) (szp:Option Nat) (h:frzQ r t szp (WS P n sc Q) S):WS P n sc Q S:=by
 unfold frzQ at h;split at h
 . rename_i r' g off len T sz xs hσ ho;obtain ⟨rfl,hg,hle,h⟩:=h;refine WS.weaken (λA w0 a w hR=>hR.let_go r' t _ λμ val ok' H hs h1 h2=>?_) h;rw [hσ] at hs;have hs':=own_inv hs hg;rw [show (S.h r').width=width sz by simp [HC.width,ho,HObj.width]] at hs';exact row_plain (H.obj r' _ ho) hs' hle h1 λb hb=>h2 b (by simp [ho]) hb
 . rename_i r' g j T cs hσ ho;obtain ⟨rfl,hg,hp,h⟩:=h;refine WS.weaken (λA w0 a w hR=>hR.let_go r' t _ λμ val ok' H hs h1 h2=>?_) h;rw [hσ] at hs;obtain ⟨b,hb,hval⟩:=ptr_inv hs hg;obtain ⟨b',cells,hbase,hB,hheap,hflat⟩:=H.obj r' _ ho;have hb0:=hb;rw [hbase] at hb;simp only [blk,Option.some.injEq] at hb; subst hb;obtain ⟨v,v1,v2,v3,v4⟩:=part_rel hflat hp;have hw:(S.h r').width=1:=by simp [HC.width,ho,HObj.width]
   rw [hw,Nat.mul_one] at hval;rw [hval];exact .ref szp _ b' j v (h2 b' (by simp [ho]) hb0) (v1.mono h1 λ_ _ _=>rfl) (shape_of v2 v3) (rangeAt_of_row hheap j _ v4)
 . exact h.elim
def RV.plain:RV->RV
 | .pure v=>.pure v
 | .own _ sz xs=>.pure (.sl sz xs)
theorem Spec.plain {f:FuncId} {args:List V} {R R':List RV->Prop} (h:Spec P f args R) (hr:∀ r,R r->R' (r.map RV.plain)):Spec P f args R':=
 λw ok vals h1 h2=>(h w ok vals h1 h2).mono λ_ w1 ⟨rvs,vs,a,b,c,d⟩=>by
  have hno:∀ {j:Nat} {rv:RV},(rvs.map RV.plain)[j]? =some rv->rv.isOwn=false:=by
   intro j rv hj;simp only [List.getElem?_map,Option.map_eq_some_iff] at hj;obtain ⟨x,_,rfl⟩:=hj;cases x<;>rfl
  refine ⟨rvs.map RV.plain,vs,hr _ a,b,c,⟨by simp [d.len],λj rv hj=>?_,λj k x y b hj hk hx=>by rw [hno hj] at hx; cases hx⟩⟩;simp only [List.getElem?_map,Option.map_eq_some_iff] at hj;obtain ⟨x,hx,rfl⟩:=hj;have hrel:=d.rel j x hx;have hok:∀ b,okR ok w w1 rvs vs b->okR ok w w1 (rvs.map RV.plain) vs b:=λb hb=>⟨hb.1,hb.2.1,λj rv hj ho=>by rw [hno hj] at ho; cases ho⟩;cases x with
  | pure v=>exact RelV.mono hok (λ_ _ _=>rfl) hrel
  | own T sz xs=>
   have hrel':RelObj w1 (okR ok w w1 rvs vs) (w.heap.size<=·) (vs.getD j undef) (.arr T sz xs):=hrel;have hsub:∃ k:Nat,SubOf (vs.getD j undef) (width sz) 0 xs.length (vs.getD j undef):=by
    obtain ⟨flat,f1,f2⟩:=hrel';rcases f1.2 with ⟨hnil,hn⟩ | ⟨b',cap,cur,hbase,hB,hheap,hcap,hmax,hcur,htake⟩
    . exact ⟨0,by rw [hnil,hn]; simp [SubOf]⟩
    . exact ⟨0,by rw [hbase]; exact ⟨_,_,rfl,hcap,.inr ⟨by simp,by omega⟩⟩⟩
   obtain ⟨_,hsub⟩:=hsub;have:=row_plain (off:=0) (len:=xs.length) hrel' hsub (by simp) hok λb hb=>⟨.inr (RelObj.lt hrel' hb).1,(RelObj.lt hrel' hb).2,λj rv hj ho=>by rw [hno hj] at ho; cases ho⟩
   simpa [RV.plain,RelRV] using this
end
end Go.Vw
namespace Go.Vw
def V.int? :V->Bool
 | .i _ _=>true
 | _=>false
def V.toVal:V->Value
 | .i k n=>.int k n
 | _=>undef
theorem int_toVal {w:World} {ok:Nat->Prop} {v:V} {val:Value} (h:RelV w ok v val) (hi:v.int? =true):val=v.toVal:=by
 cases h<;>first | rfl | (simp [V.int?] at hi)
theorem int_rel {v:V} (hi:v.int? =true) (w:World) (ok:Nat->Prop):RelV w ok v v.toVal:=by
 cases v<;>first | exact .i _ _ | (simp [V.int?] at hi)
theorem args_int {w:World} {ok:Nat->Prop} {args:List V} {vals:Array Value} (h:ArgRel w ok args vals) (hi:args.all V.int? =true):vals=(args.map V.toVal).toArray:=by
 apply Array.ext
 . simp [h.1]
 . intro j hj1 hj2;have hj:j<args.length:=by rw [<- h.1]; exact hj1
   have:=int_toVal (h.2 j hj) (by rw [List.all_eq_true] at hi; exact hi _ (List.getElem_mem hj))
   simpa [Array.getD_eq_getD_getElem?,hj1] using this
theorem spec_extern {P : Program} {f : FuncId} {fn : Func} {e : Array Value → Sem Value} (hf : P.funcs[f]? = some fn) (hname : (fn.name == "runtime.NumGoroutine") = false)
 (hb:fn.body.isNone=true) (hn:Extern.findNext fn=none) (he:Extern.find fn=some e) {args rs:List V} (ha:args.all V.int? =true) (hr:rs.all V.int? =true)
 (hrun:∀ w,(e (args.map V.toVal).toArray).run P w= .ok (packed (rs.map V.toVal)) w):Spec P f args (· =rs.map .pure):=by
 intro w ok vals hok hrel;have:=args_int hrel ha;subst this;refine .inr ⟨packed (rs.map V.toVal),?_,rs.map .pure,rs.map V.toVal,rfl,rfl,Go.RowKit.Below.refl _ _,⟨by simp,λj rv hj=>?_,λj k x y b hj hk hx=>?_⟩⟩
 . rw [run_callFunc_extern hf hname hb hn he,hrun]; rfl
 . simp only [List.getElem?_map,Option.map_eq_some_iff] at hj;obtain ⟨v,hv,rfl⟩:=hj;have hj:j<rs.length:=(List.getElem?_eq_some_iff.1 hv).1;have hve:rs[j]=v:=(List.getElem?_eq_some_iff.1 hv).2;have:(rs.map V.toVal).getD j undef=v.toVal:=by simp [List.getD,hv]
   rw [this];exact int_rel (by rw [List.all_eq_true] at hr; exact hr _ (by rw [<- hve]; exact List.getElem_mem hj)) _ _
 . simp only [List.getElem?_map,Option.map_eq_some_iff] at hj;obtain ⟨v,hv,rfl⟩:=hj;cases hx
def sub64Entry:Array Value->Sem Value:=λargs=>do
 let (x, y, b) ← Extern.MathBitsCarry.three "Sub64" args
 pure (Extern.MathBitsCarry.pair ((x+Extern.MathBitsCarry.m64-y-b)%Extern.MathBitsCarry.m64) (if x<y+b then 1 else 0))
theorem run_sub64 {P:Program} (x y c:Nat) (hc:c<=1) (w:World):
 (sub64Entry #[.int .u64 x,.int .u64 y,.int .u64 c]).run P w=
  .ok (.tuple #[.int .u64 (((x+18446744073709551616-y-c)%18446744073709551616:Nat):Int),.int .u64 ((if x<y+c then 1 else 0:Nat):Int)]) w:=by
 have:c=0\/c=1:=by omega
 rcases this with rfl | rfl<;>rfl
end Go.Vw
namespace Go.Vw
theorem u64_nat (n:Nat):IntKind.u64.wrap (n:Int)=((n%18446744073709551616:Nat):Int):=by
 simp [IntKind.wrap,IntKind.signed,IntKind.bits]
theorem u64_add (a b:Nat):IntKind.u64.wrap ((a:Int)+b)=(((a+b)%18446744073709551616:Nat):Int):=by
 rw [<- u64_nat]; congr 1
theorem u64_mul (a b:Nat):IntKind.u64.wrap ((a:Int)*b)=(((a*b)%18446744073709551616:Nat):Int):=by
 rw [<- u64_nat]; congr 1
theorem u64_sub (a b:Nat) (h:b<=a) (ha:a<18446744073709551616):IntKind.u64.wrap ((a:Int)-b)=((a-b:Nat):Int):=by
 simp only [IntKind.wrap,IntKind.signed,IntKind.bits];simp only [Bool.false_and,Bool.false_eq_true,if_false];omega
theorem u64_subw (a b:Nat) (ha:a<18446744073709551616) (hb:b<18446744073709551616):IntKind.u64.wrap ((a:Int)-b)=(((a+18446744073709551616-b)%18446744073709551616:Nat):Int):=by
 simp only [IntKind.wrap,IntKind.signed,IntKind.bits];simp only [Bool.false_and,Bool.false_eq_true,if_false];omega
theorem u64_shl (a k:Nat) (hk:k<=64):IntKind.u64.wrap ((a:Int)*2^(min ((k:Int)).toNat IntKind.u64.bits))=(((a*2^k)%18446744073709551616:Nat):Int):=by
 rw [<- u64_nat];congr 1;have:min ((k:Int)).toNat IntKind.u64.bits=k:=by simp [IntKind.bits]; omega
 rw [this];push_cast;rfl
theorem u64_shr (a k:Nat) (hk:k<=64):((a:Int)).fdiv (2^(min ((k:Int)).toNat IntKind.u64.bits))=((a / 2^k:Nat):Int):=by
 have:min ((k:Int)).toNat IntKind.u64.bits=k:=by simp [IntKind.bits]; omega
 rw [this];rw [Int.fdiv_eq_ediv_of_nonneg _ (Int.le_of_lt (Int.pow_pos (by omega)))];simp
theorem u64_and (a b:Nat) (ha:a<18446744073709551616) (hb:b<18446744073709551616):
 IntKind.u64.wrap (((BitVec.ofInt IntKind.u64.bits (a:Int) &&& BitVec.ofInt IntKind.u64.bits (b:Int)).toNat:Nat):Int)=((a &&& b:Nat):Int):=by
 rw [u64_nat];have:=Nat.and_le_left (n:=a) (m:=b);have h:(BitVec.ofInt 64 (a:Int) &&& BitVec.ofInt 64 (b:Int)).toNat=a &&& b:=by
  simp only [BitVec.ofInt_natCast,BitVec.toNat_and,BitVec.toNat_ofNat];rw [Nat.mod_eq_of_lt (a:=a) (by omega),Nat.mod_eq_of_lt (a:=b) (by omega)]
 have h':(BitVec.ofInt IntKind.u64.bits (a:Int) &&& BitVec.ofInt IntKind.u64.bits (b:Int)).toNat=a &&& b:=h;rw [h',Nat.mod_eq_of_lt (by omega)]
theorem u64_or (a b:Nat) (ha:a<18446744073709551616) (hb:b<18446744073709551616):
 IntKind.u64.wrap (((BitVec.ofInt IntKind.u64.bits (a:Int) ||| BitVec.ofInt IntKind.u64.bits (b:Int)).toNat:Nat):Int)=((a ||| b:Nat):Int):=by
 rw [u64_nat];have:=Nat.or_lt_two_pow (x:=a) (y:=b) (n:=64) (by omega) (by omega);have h:(BitVec.ofInt 64 (a:Int) ||| BitVec.ofInt 64 (b:Int)).toNat=a ||| b:=by
  simp only [BitVec.ofInt_natCast,BitVec.toNat_or,BitVec.toNat_ofNat];rw [Nat.mod_eq_of_lt (a:=a) (by omega),Nat.mod_eq_of_lt (a:=b) (by omega)]
 have h':(BitVec.ofInt IntKind.u64.bits (a:Int) ||| BitVec.ofInt IntKind.u64.bits (b:Int)).toNat=a ||| b:=h
 rw [h',Nat.mod_eq_of_lt (by omega)]
theorem and_mask32 (a:Nat):a &&& 4294967295=a%4294967296:=Nat.and_two_pow_sub_one_eq_mod a 32
theorem or_apart {a b k:Nat} (hb:b<2^k):a*2^k ||| b=a*2^k+b:=by
 rw [Nat.mul_comm]; exact (Nat.two_pow_add_eq_or_of_lt hb a).symm
theorem tdiv_nat (a b:Nat):((a:Int)).tdiv b=((a / b:Nat):Int):=by
 rw [Int.tdiv_eq_ediv_of_nonneg (by omega)]; rfl
theorem tmod_nat (a b:Nat):((a:Int)).tmod b=((a%b:Nat):Int):=by
 rw [Int.tmod_eq_emod_of_nonneg (by omega)]; rfl
end Go.Vw
namespace Go.Vw
open Go.IntWalk
theorem abin_add (k k':IntKind) (a b:Int):abin .add (.i k a) (.i k' b)=some (k=k',.i k (k.wrap (a+b))):=rfl
theorem abin_sub (k k':IntKind) (a b:Int):abin .sub (.i k a) (.i k' b)=some (k=k',.i k (k.wrap (a-b))):=rfl
theorem abin_mul (k k':IntKind) (a b:Int):abin .mul (.i k a) (.i k' b)=some (k=k',.i k (k.wrap (a*b))):=rfl
theorem abin_quo (k k':IntKind) (a b:Int):abin .quo (.i k a) (.i k' b)=some (k=k'/\b≠0,.i k (k.wrap (a.tdiv b))):=rfl
theorem abin_rem (k k':IntKind) (a b:Int):abin .rem (.i k a) (.i k' b)=some (k=k'/\b≠0,.i k (a.tmod b)):=rfl
theorem abin_eql (k k':IntKind) (a b:Int):abin .eql (.i k a) (.i k' b)=some (k=k',.b (a == b)):=rfl
theorem abin_neq (k k':IntKind) (a b:Int):abin .neq (.i k a) (.i k' b)=some (k=k',.b (a != b)):=rfl
theorem abin_lss (k k':IntKind) (a b:Int):abin .lss (.i k a) (.i k' b)=some (k=k',.b (decide (a<b))):=rfl
theorem abin_leq (k k':IntKind) (a b:Int):abin .leq (.i k a) (.i k' b)=some (k=k',.b (decide (a<=b))):=rfl
theorem abin_gtr (k k':IntKind) (a b:Int):abin .gtr (.i k a) (.i k' b)=some (k=k',.b (decide (a>b))):=rfl
theorem abin_geq (k k':IntKind) (a b:Int):abin .geq (.i k a) (.i k' b)=some (k=k',.b (decide (a≥b))):=rfl
theorem abin_cat (a b:ByteArray):abin .add (.s a) (.s b)=some (((a.size+b.size:Nat):Int)<=IntKind.i64.max,.s (a++b)):=rfl
theorem abin_seql (a b:ByteArray):abin .eql (.s a) (.s b)=some (True,.b (a.toList == b.toList)):=rfl
theorem abin_shl {k:IntKind} (a:Nat) (c:Int) (n:Nat) (h:c=n) (hn:n<=64):abin .shl (.i .u64 (a:Int)) (.i k c)=some (True,.i .u64 ((a*2^n%18446744073709551616:Nat):Int)):=by
 subst h;show some ((0:Int)<=(n:Int),_)=_;rw [u64_shl a n hn];simp
theorem abin_shr {k:IntKind} (a:Nat) (c:Int) (n:Nat) (h:c=n) (hn:n<=64):abin .shr (.i .u64 (a:Int)) (.i k c)=some (True,.i .u64 ((a / 2^n:Nat):Int)):=by
 subst h;show some ((0:Int)<=(n:Int),_)=_;rw [u64_shr a n hn];simp
theorem abin_and (a b:Nat) (c:Int) (h:c=b) (ha:a<18446744073709551616) (hb:b<18446744073709551616):abin .and (.i .u64 (a:Int)) (.i .u64 c)=some (True,.i .u64 ((a &&& b:Nat):Int)):=by
 subst h;show some (IntKind.u64=IntKind.u64,_)=_;rw [u64_and a b ha hb];simp
theorem abin_mask32 (a:Nat) (ha:a<18446744073709551616):abin .and (.i .u64 (a:Int)) (.i .u64 4294967295)=some (True,.i .u64 ((a%4294967296:Nat):Int)):=by
 have h:=abin_and a 4294967295 4294967295 rfl ha (by omega);rw [and_mask32] at h;exact h
theorem abin_bit0 (a:Nat) (ha:a<18446744073709551616):abin .and (.i .u64 (a:Int)) (.i .u64 1)=some (True,.i .u64 ((a%2:Nat):Int)):=by
 have h:=abin_and a 1 1 rfl ha (by omega);rw [Nat.and_one_is_mod] at h;exact h
theorem abin_or (a b:Nat) (ha:a<18446744073709551616) (hb:b<18446744073709551616):abin .or (.i .u64 (a:Int)) (.i .u64 (b:Int))=some (True,.i .u64 ((a ||| b:Nat):Int)):=by
 show some (IntKind.u64=IntKind.u64,_)=_;rw [u64_or a b ha hb];simp
theorem u64_fit (n:Nat) (h:n<18446744073709551616):IntKind.u64.wrap (n:Int)=(n:Int):=by rw [u64_nat,Nat.mod_eq_of_lt h]
theorem u64_addf (a b:Nat) (h:a+b<18446744073709551616):IntKind.u64.wrap ((a:Int)+b)=((a+b:Nat):Int):=by rw [u64_add,Nat.mod_eq_of_lt h]
theorem u64_mulf (a b:Nat) (h:a*b<18446744073709551616):IntKind.u64.wrap ((a:Int)*b)=((a*b:Nat):Int):=by rw [u64_mul,Nat.mod_eq_of_lt h]
theorem i64_nat (n:Nat) (h:n<2^63):IntKind.i64.wrap (n:Int)=(n:Int):=i64_in _ (by omega)
theorem i64_pred (n:Nat) (h:n<2^63) (h0:0<n):IntKind.i64.wrap ((n:Int)-1)=((n-1:Nat):Int):=by rw [i64_in _ (by omega)]; omega
theorem i64_succ (n:Nat) (h:n+1<2^63):IntKind.i64.wrap ((n:Int)+1)=((n+1:Nat):Int):=by rw [i64_in _ (by omega)]; omega
theorem i64_addn (m n:Nat) (h:m+n<2^63):IntKind.i64.wrap ((m:Int)+n)=((m+n:Nat):Int):=by rw [i64_in _ (by omega)]; omega
theorem i64_int (n:Int) (h0: -9223372036854775808<=n) (h:n<=9223372036854775807):IntKind.i64.wrap n=n:=i64_in _ (by omega)
end Go.Vw
namespace Go.Vw
section
variable {P:Program} {n:Nat} {pd:List Nat} {S S':St}
def CallK (P:Program) (f:FuncId) (args:List V) (K:St->Prop) (S:St) (dst:Option Nat) (X:Prop):Prop:=(∃ R,Spec P f args R/\∀ rvs,R rvs->K (S.ret dst rvs))\/X
def CallD (P:Program) (f:FuncId) (args:List V) (K:St->List Ent->Prop) (S:St) (dst:Option Nat) (i:Nat) (X:Prop):Prop:=(∃ R,Spec P f args R/\(∃ r,R r)/\∀ rvs,R rvs->K (S.ret dst rvs) (retEnts i dst rvs))\/X
def CallG (P:Program) (f:FuncId) (r:Nat) (o:HObj) (args:List V) (K:St->Prop) (S:St) (dst:Option Nat) (X:Prop):Prop:=(∃ R,SpecG P f o args R/\∀ o' gvs,R o' gvs->K (S.giv dst r o' gvs))\/X
def CallGD (P:Program) (f:FuncId) (r:Nat) (o:HObj) (args:List V) (K:St->List Ent->Prop) (S:St) (dst:Option Nat) (i:Nat) (X:Prop):Prop:=(∃ R,SpecG P f o args R/\(∃ o' gvs,R o' gvs)/\∀ o' gvs,R o' gvs->K (S.giv dst r o' gvs) (callEnt i++[(i,r,true)]))\/X
@[congr] theorem CallK_congr {f:FuncId} {args args':List V} {K:St->Prop} {S S':St} {dst:Option Nat} {X:Prop} (h1:args=args') (h2:S=S'):CallK P f args K S dst X=CallK P f args' K S' dst X:=by subst h1 h2; rfl
@[congr] theorem CallD_congr {f:FuncId} {args args':List V} {K:St->List Ent->Prop} {S S':St} {dst:Option Nat} {i:Nat} {X:Prop} (h1:args=args') (h2:S=S'):CallD P f args K S dst i X=CallD P f args' K S' dst i X:=by subst h1 h2; rfl
@[congr] theorem CallG_congr {f:FuncId} {r:Nat} {o o':HObj} {args args':List V} {K:St->Prop} {S S':St} {dst:Option Nat} {X:Prop} (h0:o=o') (h1:args=args') (h2:S=S'):CallG P f r o args K S dst X=CallG P f r o' args' K S' dst X:=by subst h0 h1 h2; rfl
@[congr] theorem CallGD_congr {f:FuncId} {r:Nat} {o o':HObj} {args args':List V} {K:St->List Ent->Prop} {S S':St} {dst:Option Nat} {i:Nat} {X:Prop} (h0:o=o') (h1:args=args') (h2:S=S'):CallGD P f r o args K S dst i X=CallGD P f r o' args' K S' dst i X:=by subst h0 h1 h2; rfl
theorem callG {f:FuncId} {r:Nat} {o o':HObj} {gvs:List GV} {args:List V} {K:St->Prop} {dst:Option Nat} {X:Prop} (h:SpecG P f o args (λx y=>x=o'/\y=gvs)) (k:K (S.giv dst r o' gvs)):CallG P f r o args K S dst X:=.inl ⟨_,h,λ_ _ e=>by rw [e.1,e.2]; exact k⟩
theorem callGD {f:FuncId} {r:Nat} {o o':HObj} {gvs:List GV} {args:List V} {K:St->List Ent->Prop} {dst:Option Nat} {i:Nat} {X:Prop} (h:SpecG P f o args (λx y=>x=o'/\y=gvs)) (k:K (S.giv dst r o' gvs) (callEnt i++[(i,r,true)])):CallGD P f r o args K S dst i X:=.inl ⟨_,h,⟨_,_,rfl,rfl⟩,λ_ _ e=>by rw [e.1,e.2]; exact k⟩
theorem callDO {f:FuncId} {args:List V} {K:St->List Ent->Prop} {dst:Option Nat} {i:Nat} {X:Prop} {r:List RV} (h:Spec P f args (· =r)) (k:K (S.ret dst r) (retEnts i dst r)):CallD P f args K S dst i X:=.inl ⟨_,h,⟨_,rfl⟩,λ_ e=>e ▸ k⟩
theorem ownEnts_none {i:Nat}:∀ {rvs:List RV} {d:Nat},rvs.any RV.isOwn=false->ownEnts i d rvs=[]
 | [],_,_=>rfl
 | .pure v::rest,d,h=>by
  simp only [List.any_cons,Bool.or_eq_false_iff] at h;exact ownEnts_none (rvs:=rest) (d:=d+1000) h.2
 | .own T sz xs::rest,d,h=>by simp [RV.isOwn] at h
theorem retEnts_none {i:Nat} {dst:Option Nat} {rvs:List RV} (h:rvs.any RV.isOwn=false):retEnts i dst rvs=callEnt i:=by
 cases dst with
 | none=>rfl
 | some d=>simp [retEnts,ownEnts_none h]
theorem callK {f:FuncId} {args:List V} {K:St->Prop} {dst:Option Nat} {X:Prop} {r:List RV} (h:Spec P f args (· =r)) (k:K (S.ret dst r)):CallK P f args K S dst X:=.inl ⟨_,h,λ_ e=>e ▸ k⟩
theorem callR {f:FuncId} {args:List V} {K:St->Prop} {dst:Option Nat} {X:Prop} {R:List RV->Prop} (h:Spec P f args R) (k:∀ rvs,R rvs->K (S.ret dst rvs)):CallK P f args K S dst X:=.inl ⟨_,h,k⟩
theorem callD {f:FuncId} {args:List V} {K:St->List Ent->Prop} {dst:Option Nat} {i:Nat} {X:Prop} {r:List RV} (h:Spec P f args (· =r)) (ho:r.any RV.isOwn=false) (k:K (S.put dst (pureSV r)) (callEnt i)):CallD P f args K S dst i X:=.inl ⟨_,h,⟨_,rfl⟩,λ_ e=>by rw [e,pureSV_ret ho,retEnts_none ho]; exact k⟩
theorem callX {f:FuncId} {args:List V} {K:St->Prop} {dst:Option Nat} {X:Prop} (h:X):CallK P f args K S dst X:=.inr h
theorem callXD {f:FuncId} {args:List V} {K:St->List Ent->Prop} {dst:Option Nat} {i:Nat} {X:Prop} (h:X):CallD P f args K S dst i X:=.inr h
theorem callXGD {f:FuncId} {r:Nat} {o:HObj} {args:List V} {K:St->List Ent->Prop} {dst:Option Nat} {i:Nat} {X:Prop} (h:X):CallGD P f r o args K S dst i X:=.inr h
def acK (P:Program) (dst:Option Nat) (K:St->Prop) (S:St) (X:Prop):AR->Prop
 | .v c x δ=>c/\K ((S.heap δ).put dst x)
 | .call f args=>CallK P f args K S dst X
 | .callG f c r o args=>c/\CallG P f r o args K S dst X
 | .stuck=>X
@[congr] theorem acK_congr {dst:Option Nat} {K:St->Prop} {S S':St} {X:Prop} {r r':AR} (h1:S=S') (h2:r=r'):acK P dst K S X r=acK P dst K S' X r':=by subst h1 h2; rfl
theorem acK_v {dst:Option Nat} {K:St->Prop} {X c:Prop} {x:SV} {δ:Option (Nat × HC)}:acK P dst K S X (.v c x δ)=(c/\K ((S.heap δ).put dst x)):=rfl
theorem acK_call {dst:Option Nat} {K:St->Prop} {X:Prop} {f:FuncId} {args:List V}:acK P dst K S X (.call f args)=CallK P f args K S dst X:=rfl
theorem acK_callG {dst:Option Nat} {K:St->Prop} {f:FuncId} {X c:Prop} {r:Nat} {o:HObj} {args:List V}:acK P dst K S X (.callG f c r o args)=(c/\CallG P f r o args K S dst X):=rfl
theorem acK_stuck {dst:Option Nat} {K:St->Prop} {X:Prop}:acK P dst K S X .stuck=X:=rfl
def agK (P:Program) (pd:List Nat) (dst:Option Nat) (op:SO) (want:Bool) (K:St->Prop) (S:St):SV->Prop
 | .p (.b c)=>(c=want->acK P dst K S (XCore P dst op K S) (aop pd S dst op))/\(c= !want->K (S.put dst (.tup [])))
 | .p (.i _ _) | .tup _=>K (S.put dst (.tup []))
 | _=>False
theorem RunL_cons {Q:St->Prop} {o:SOp} {rest:List SOp}:RunL P pd Q (o::rest) S=AOp P pd o (RunL P pd Q rest) S:=rfl
theorem RunL_nil {Q:St->Prop}:RunL P pd Q [] S=Q S:=rfl
theorem AOp_none {dst:Option Nat} {op:SO} {K:St->Prop}:AOp P pd ⟨dst,op,none⟩ K S=acK P dst K S (XCore P dst op K S) (aop pd S dst op):=by
 unfold AOp ACore;simp only;cases aop pd S dst op<;>rfl
theorem AOp_some {dst:Option Nat} {op:SO} {K:St->Prop} {g:Nat} {want:Bool}:AOp P pd ⟨dst,op,some (g,want)⟩ K S=agK P pd dst op want K S (S.σ g):=by
 unfold AOp ACore;simp only;cases S.σ g with
 | p v=>
  cases v with
  | b c=>
   simp only [agK];cases aop pd S dst op<;>rfl
  | _=>rfl
 | _=>rfl
theorem agK_tt {dst:Option Nat} {op:SO} {K:St->Prop}:agK P pd dst op true K S (.p (.b true))=acK P dst K S (XCore P dst op K S) (aop pd S dst op):=by simp [agK]
theorem agK_ff {dst:Option Nat} {op:SO} {K:St->Prop}:agK P pd dst op false K S (.p (.b false))=acK P dst K S (XCore P dst op K S) (aop pd S dst op):=by simp [agK]
theorem agK_tf {dst:Option Nat} {op:SO} {K:St->Prop}:agK P pd dst op true K S (.p (.b false))=K (S.put dst (.tup [])):=by simp [agK]
theorem agK_ft {dst:Option Nat} {op:SO} {K:St->Prop}:agK P pd dst op false K S (.p (.b true))=K (S.put dst (.tup [])):=by simp [agK]
theorem agK_tup {dst:Option Nat} {op:SO} {K:St->Prop} {want:Bool} {vs:List SV}:agK P pd dst op want K S (.tup vs)=K (S.put dst (.tup [])):=rfl
theorem agK_i {dst:Option Nat} {op:SO} {K:St->Prop} {want:Bool} {k:IntKind} {m:Int}:agK P pd dst op want K S (.p (.i k m))=K (S.put dst (.tup [])):=rfl
def XD (P:Program) (i:Nat) (dst:Option Nat) (op:SO) (K:St->List Ent->Prop) (S:St):Prop:=
 match aopX S dst op with
 | .v c x δ=>c/\K ((S.heap δ).put dst x) (entsOf i dst op S)
 | _=>HOp P i dst op K S
def acD (P:Program) (dst:Option Nat) (i:Nat) (K:St->List Ent->Prop) (S:St) (E:List Ent) (X:Prop):AR->Prop
 | .v c x δ=>c/\K ((S.heap δ).put dst x) E
 | .call f args=>CallD P f args K S dst i X
 | .callG f c r o args=>c/\CallGD P f r o args K S dst i X
 | .stuck=>X
@[congr] theorem acD_congr {dst:Option Nat} {i:Nat} {K:St->List Ent->Prop} {S S':St} {E E':List Ent} {X:Prop} {r r':AR} (h1:S=S') (h2:E=E') (h3:r=r'):acD P dst i K S E X r=acD P dst i K S' E' X r':=by subst h1 h2 h3; rfl
theorem acD_v {dst:Option Nat} {i:Nat} {K:St->List Ent->Prop} {E:List Ent} {X c:Prop} {x:SV} {δ:Option (Nat × HC)}:acD P dst i K S E X (.v c x δ)=(c/\K ((S.heap δ).put dst x) E):=rfl
theorem acD_call {dst:Option Nat} {i:Nat} {K:St->List Ent->Prop} {E:List Ent} {X:Prop} {f:FuncId} {args:List V}:acD P dst i K S E X (.call f args)=CallD P f args K S dst i X:=rfl
theorem acD_callG {dst:Option Nat} {i:Nat} {K:St->List Ent->Prop} {E:List Ent} {f:FuncId} {X c:Prop} {r:Nat} {o:HObj} {args:List V}:acD P dst i K S E X (.callG f c r o args)=(c/\CallGD P f r o args K S dst i X):=rfl
theorem acD_stuck {dst:Option Nat} {i:Nat} {K:St->List Ent->Prop} {E:List Ent} {X:Prop}:acD P dst i K S E X .stuck=X:=rfl
def RunE (P:Program) (pd:List Nat) (anc:List Nat) (K:St->Prop) (rest:List SOp) (i:Nat) (L:List Ent) (S:St) (E:List Ent):Prop:=RunD P pd anc K rest i S (E++L)
theorem RunE_any {anc:List Nat} {K:St->Prop} {rest:List SOp} {i:Nat} {L:List Ent} {E:List Ent}:RunE P pd anc K rest i L S E=RunD P pd anc K rest i S (E++L):=rfl
theorem AOpD_acD {dst:Option Nat} {op:SO} {i:Nat} {K:St->List Ent->Prop} (gd:Option (Nat × Bool)) (hg:∀ g want,gd=some (g,want)->S.σ g= .p (.b want)):
 AOpD P pd i ⟨dst,op,gd⟩ K S=acD P dst i K S (entsOf i dst op S) (XD P i dst op K S) (aop pd S dst op):=by
 have ho:outD pd i ⟨dst,op,gd⟩ S=coreD pd i ⟨dst,op,gd⟩ S:=by
  unfold outD;cases gd with
  | none=>rfl
  | some p=>simp only [hg p.1 p.2 rfl,if_true]
 have hH:HD P i ⟨dst,op,gd⟩ K S=HOp P i dst op K S:=propext ⟨λh=>h.2,λh=>⟨hg,h⟩⟩;have hcall:(∀ c x δ,aop pd S dst op≠.v c x δ)->aop pd S dst op≠.stuck->XD P i dst op K S=HOp P i dst op K S:=by
  intro h1 h2;cases haop:aop pd S dst op with
  | v c x δ=>exact absurd haop (h1 _ _ _)
  | stuck=>exact absurd haop h2
  | call f args=>cases op<;>first | rfl | (exfalso; revert haop; simp only [aop]; (repeat' split)<;>simp)
  | callG f c r ob args=>cases op<;>first | rfl | (exfalso; revert haop; simp only [aop]; (repeat' split)<;>simp)
 unfold AOpD;rw [ho];unfold coreD;simp only;cases ha:aop pd S dst op with
 | v c x δ=>rfl
 | call f args=>simp only [acD,CallD,hH,hcall (by rw [ha]; simp) (by rw [ha]; simp)]
 | callG f c r ob args=>simp only [acD,CallGD,hH,hcall (by rw [ha]; simp) (by rw [ha]; simp)]
 | stuck=>
  simp only [acD,XD];cases hx:aopX S dst op with
  | v c x δ=>rfl
  | _=>simp only [hH]
theorem RunD_none {anc:List Nat} {K:St->Prop} {dst:Option Nat} {op:SO} {rest:List SOp} {i:Nat} {L:List Ent}:RunD P pd anc K (⟨dst,op,none⟩::rest) i S L=acD P dst i (RunE P pd anc K rest (i+1) L) S (entsOf i dst op S) (XD P i dst op (RunE P pd anc K rest (i+1) L) S) (aop pd S dst op):=by
 show AOpD P pd i ⟨dst,op,none⟩ _ S=_;exact AOpD_acD none (λg want h=>by cases h)
def agD (P:Program) (pd:List Nat) (i:Nat) (dst:Option Nat) (op:SO) (want:Bool) (K:St->List Ent->Prop) (S:St):SV->Prop
 | .p (.b c)=>if c=want then acD P dst i K S (entsOf i dst op S) (XD P i dst op K S) (aop pd S dst op) else K (S.put dst (.tup [])) []
 | .p (.i _ _) | .tup _=>K (S.put dst (.tup [])) []
 | _=>False
theorem RunD_some {anc:List Nat} {K:St->Prop} {dst:Option Nat} {op:SO} {g:Nat} {want:Bool} {rest:List SOp} {i:Nat} {L:List Ent}:RunD P pd anc K (⟨dst,op,some (g,want)⟩::rest) i S L=agD P pd i dst op want (RunE P pd anc K rest (i+1) L) S (S.σ g):=by
 show AOpD P pd i ⟨dst,op,some (g,want)⟩ (RunE P pd anc K rest (i+1) L) S=_;have bad:(∀ t,S.σ g≠.p (.b t))->HD P i ⟨dst,op,some (g,want)⟩ (RunE P pd anc K rest (i+1) L) S=False:=λh=>propext ⟨λhh=>h want (hh.1 g want rfl),False.elim⟩;cases hs:S.σ g with
 | p v=>
  cases v with
  | b c=>
   simp only [agD];by_cases hc:c=want
   . subst hc;rw [if_pos rfl];exact AOpD_acD (some (g,c)) (λg' want' h=>by
      simp only [Option.some.injEq,Prod.mk.injEq] at h;obtain ⟨rfl,rfl⟩:=h;exact hs)
   . rw [if_neg hc];unfold AOpD outD;simp [hs,hc,St.heap]
  | i k m=>unfold AOpD outD; simp [hs,agD,St.heap]
  | _=>unfold AOpD outD; simp only [hs,agD]; exact bad (by rw [hs]; simp)
 | tup vs=>unfold AOpD outD; simp [hs,agD,St.heap]
 | _=>unfold AOpD outD; simp only [hs,agD]; exact bad (by rw [hs]; simp)
theorem agD_tt {i:Nat} {dst:Option Nat} {op:SO} {K:St->List Ent->Prop}:agD P pd i dst op true K S (.p (.b true))=acD P dst i K S (entsOf i dst op S) (XD P i dst op K S) (aop pd S dst op):=by simp [agD]
theorem agD_ff {i:Nat} {dst:Option Nat} {op:SO} {K:St->List Ent->Prop}:agD P pd i dst op false K S (.p (.b false))=acD P dst i K S (entsOf i dst op S) (XD P i dst op K S) (aop pd S dst op):=by simp [agD]
theorem agD_tf {i:Nat} {dst:Option Nat} {op:SO} {K:St->List Ent->Prop}:agD P pd i dst op true K S (.p (.b false))=K (S.put dst (.tup [])) []:=by simp [agD]
theorem agD_ft {i:Nat} {dst:Option Nat} {op:SO} {K:St->List Ent->Prop}:agD P pd i dst op false K S (.p (.b true))=K (S.put dst (.tup [])) []:=by simp [agD]
theorem agD_tup {i:Nat} {dst:Option Nat} {op:SO} {K:St->List Ent->Prop} {want:Bool} {vs:List SV}:agD P pd i dst op want K S (.tup vs)=K (S.put dst (.tup [])) []:=rfl
theorem RunD_nil {anc:List Nat} {K:St->Prop} {i:Nat} {L:List Ent}:RunD P pd anc K [] i S L=(okLog anc L=true/\K S):=rfl
theorem bool_of {w:World} {ok:Nat->Prop} {μ:Nat->Value} {h:Nat->HC} {val:Value} (hs:RelS w ok μ h .bool val):∃ t,val= .bool t:=by
 cases hs with
 | bool t=>exact ⟨t,rfl⟩
theorem WS_either {cx:SX} {x y:SC} {Q:Exit->St->Prop} (hev:S.ev cx= .bool) (h1:WS P n x Q S) (h2:WS P n y Q S):WS P n (.cond cx x y) Q S:=by
 intro c hc A w0 a w hR;cases c<;>simp only [slimCode,reduceCtorEq,Option.map_eq_some_iff,and_false,exists_false,Option.some.injEq] at hc<;>(try (revert hc; (repeat' split)<;>simp; done));split at hc
 . rename_i c ca cb cx' x' y' hx ha hb;simp only [Option.some.injEq,SC.cond.injEq] at hc;obtain ⟨rfl,rfl,rfl⟩:=hc;obtain ⟨μ,H,rel⟩:=hR.ex;have hs:=ev_rel hx rel;rw [hev] at hs;obtain ⟨t,hval⟩:=bool_of hs;cases t with
   | true=>exact wp_cond_true hval (h1 _ ha A w0 a w hR)
   | false=>exact wp_cond_false hval (h2 _ hb A w0 a w hR)
 . cases hc
end
end Go.Vw
namespace Go.Vw
open Go.RowKit (Below)
abbrev gref:Nat:=999
def givSV:HObj->SV
 | .arr _ _ xs=>.own gref 0 0 xs.length
 | .box _ _=>.ptr gref 0 0
 | _=>.any
def argSlotG (l:List SV) (t:Nat):SV:=match l[t]? with | some v=>v | none=>.tup []
def S0G (o:HObj) (args:List V):St:=⟨argSlotG (givSV o::args.map .p),λr=>if r=gref then ⟨0,some o⟩ else ⟨0,none⟩⟩
def retOneG (S:St):SRes->Option (Prop × GV)
 | .tmp t=>
  match S.σ t with
  | .p v=>some (v.scalar=true,.pure v)
  | .own r g off len=>some (r=gref/\g=0,.sub off len)
  | _=>none
 | .cell t sz=>
  match S.σ t with
  | .ptr r g j=>
   match (S.h r).o with
   | some (.box _ cs)=>some (g=(S.h r).g/\partOk cs j sz/\(V.part cs j sz).scalar=true,.pure (V.part cs j sz))
   | _=>none
  | _=>none
def retAllG (S:St):List SRes->Option (Prop × List GV)
 | []=>some (True,[])
 | r::rs=>
  match retOneG S r,retAllG S rs with
  | some (c,gv),some (d,gvs)=>some (c/\d,gv::gvs)
  | _,_=>none
def HObj.wide:HObj->Option Nat
 | .box _ _=>some 1
 | .arr _ sz _=>some (Vw.width sz)
 | _=>none
theorem HObj.wide_x {w:World} {ok B:Nat->Prop} {μ:Nat->Value} {h:Nat->HC} {base:Value} {o:HObj} {n:Nat} (hw:o.wide=some n) (hx:RelObjX w ok B μ h base o):o.width=n/\RelObj w ok B base o:=by
 cases o with
 | box T cs=>exact ⟨by simpa [HObj.wide,HObj.width] using hw,hx⟩
 | arr T sz xs=>exact ⟨by simpa [HObj.wide,HObj.width] using hw,hx⟩
 | _=>simp [HObj.wide] at hw
def retPG (rs:List SRes) (wd:Nat) (R:HObj->List GV->Prop) (S:St):Prop:=
 match S.h gref,retAllG S rs with
 | ⟨g,some o'⟩,some (c,gvs)=>g=0/\o'.wide=some wd/\c/\R o' gvs
 | _,_=>False
def retQG (rs:List SRes) (wd:Nat) (R:HObj->List GV->Prop):Exit->St->Prop
 | .normal,S=>retPG rs wd R S
 | .ret,S=>retPG rs wd R S
 | _,_=>False
section
variable {P:Program} {A:Nat->Prop} {w0:Base} {n:Nat} {S:St}
theorem scalar_rel {w:World} {ok:Nat->Prop} {v:V} {val:Value} (h:RelV w ok v val) (hs:v.scalar=true):∀ (w:World) (ok:Nat->Prop),RelV w ok v val:=by
 intro w' ok';cases h<;>first | exact .b _ | exact .i _ _ | exact .s _ | (simp [V.scalar] at hs)
theorem ret_oneG {a:Act} {w:World} {μ:Nat->Value} (H:HeapOK A w w0 μ S.h) (rel:∀ t,RelS w (okOf A w μ S.h) μ S.h (S.σ t) (a.tmps.getD t undef))
 (h0:(S.h gref).g=0)
 {x:ResultVar} {rest:List ResultVar} {r:SRes} {rs:List SRes} (hx:slimRes P (x::rest)=some (r::rs)) {c:Prop} {gv:GV} (hr:retOneG S r=some (c,gv)) (hc:c):
 slimRes P rest=some rs/\∃ val,(resRun a.tmps x).run P w= .ok val w/\RelGV (μ gref) (S.h gref).width gv val:=by
 cases x with
 | tmp t=>
  simp only [slimRes,Option.map_eq_some_iff,List.cons.injEq] at hx;obtain ⟨rs',hrs,rfl,rfl⟩:=hx;have ht:=rel t;refine ⟨hrs,?_⟩;simp only [retOneG] at hr;split at hr
  . rename_i v hv;simp only [Option.some.injEq,Prod.mk.injEq] at hr;obtain ⟨rfl,rfl⟩:=hr;rw [hv] at ht;exact ⟨a.tmps.getD t undef,by simp [resRun],scalar_rel (p_inv ht) hc⟩
  . rename_i r g off len hv;simp only [Option.some.injEq,Prod.mk.injEq] at hr;obtain ⟨rfl,rfl⟩:=hr;obtain ⟨rfl,rfl⟩:=hc;rw [hv] at ht;exact ⟨a.tmps.getD t undef,by simp [resRun],own_inv ht h0.symm⟩
  . cases hr
 | cell t T=>
  simp only [slimRes] at hx;split at hx
  . rename_i sz rs' hsz hrs;simp only [Option.some.injEq,List.cons.injEq] at hx;obtain ⟨rfl,rfl⟩:=hx;refine ⟨hrs,?_⟩;simp only [retOneG] at hr;have ht:=rel t;split at hr
    . rename_i r g j hv;rw [hv] at ht;split at hr
      . rename_i T' cs hobj;simp only [Option.some.injEq,Prod.mk.injEq] at hr;obtain ⟨rfl,rfl⟩:=hr;obtain ⟨hg,hp,hsc⟩:=hc;obtain ⟨b,hb,hval⟩:=ptr_inv ht hg;obtain ⟨b',cells,hbase,hB,hheap,hflat⟩:=H.obj r _ hobj;rw [hbase] at hb;simp only [blk,Option.some.injEq] at hb; subst hb;obtain ⟨val,v1,v2,v3,v4⟩:=part_rel hflat hp;have hw:(S.h r).width=1:=by simp [HC.width,hobj,HObj.width]
        rw [hw,Nat.mul_one] at hval;have hl:=run_loadAt_rel (P:=P) hsz (w:=w) (g:=b') (off:=j) (shape_of v2 v3) (rangeAt_of_row hheap j _ v4);simp only [Instr.loadAt,Instr.sureAddr,Sem.run_bind,Sem.run_pure,Result.andThen_ok] at hl;exact ⟨val,by simp [resRun,hval,asAddr,hl],scalar_rel v1 hsc⟩
      . cases hr
    . cases hr
  . cases hx
theorem ret_allG {a:Act} {w:World} {μ:Nat->Value} (H:HeapOK A w w0 μ S.h) (rel:∀ t,RelS w (okOf A w μ S.h) μ S.h (S.σ t) (a.tmps.getD t undef)) (h0:(S.h gref).g=0):
 ∀ (vars:List ResultVar) (rs:List SRes) (c:Prop) (gvs:List GV),slimRes P vars=some rs->retAllG S rs=some (c,gvs)->c->
  ∃ vals:List Value,vals.length=gvs.length/\(vars.mapM (m:=Sem) (resRun a.tmps)).run P w= .ok vals w/\
   ∀ j gv,gvs[j]? =some gv->RelGV (μ gref) (S.h gref).width gv (vals.getD j undef)
 | [],rs,c,gvs,h1,h2,hc=>by
  simp only [slimRes,Option.some.injEq] at h1; subst h1;simp only [retAllG,Option.some.injEq,Prod.mk.injEq] at h2;obtain ⟨rfl,rfl⟩:=h2;exact ⟨[],rfl,rfl,by simp⟩
 | x::rest,rs,c,gvs,h1,h2,hc=>by
  cases rs with
  | nil=>
   exfalso;cases x<;>simp only [slimRes,Option.map_eq_some_iff,reduceCtorEq,and_false,exists_false] at h1;split at h1<;>cases h1
  | cons r rs=>
   simp only [retAllG] at h2;split at h2
   . rename_i c1 gv c2 gvs2 hr hrs;simp only [Option.some.injEq,Prod.mk.injEq] at h2;obtain ⟨rfl,rfl⟩:=h2;obtain ⟨e1,val,e3,e4⟩:=ret_oneG H rel h0 h1 hr hc.1;obtain ⟨vals,f1,f2,f3⟩:=ret_allG H rel h0 rest rs c2 gvs2 e1 hrs hc.2;refine ⟨val::vals,by simp [f1],?_,λj gv' hj=>?_⟩
     . rw [List.mapM_cons];simp [e3,f2]
     . cases j with
       | zero=>
        simp only [List.getElem?_cons_zero,Option.some.injEq] at hj; subst hj
        simpa [List.getD] using e4
       | succ j=>
        have:=f3 j gv' (by simpa using hj)
        simpa [List.getD] using this
   . cases h2
theorem sub_whole {w:World} {ok:Nat->Prop} {B:Nat->Prop} {base:Value} {T:TypeId} {sz:Option Nat} {xs:List V} (h:RelObj w ok B base (.arr T sz xs)):SubOf base (width sz) 0 xs.length base:=by
 obtain ⟨flat,f1,f2⟩:=h;rcases f1.2 with ⟨hnil,hn⟩ | ⟨b',cap,cur,hbase,hB,hheap,hcap,hmax,hcur,htake⟩
 . rw [hnil,hn]; simp [SubOf]
 . rw [hbase]; exact ⟨_,_,rfl,hcap,.inr ⟨by simp,by omega⟩⟩
theorem specG_of {f:FuncId} {fn:Func} {c:Code} {sc:SC} {rs:List SRes} {o:HObj} {args:List V} {R:HObj->List GV->Prop} (hf:P.funcs[f]? =some fn) (hb:fn.body=some c) (hn:fn.ntmps=n)
 (hsl : slimCode P n c = some sc) (hname : (fn.name == "runtime.NumGoroutine") = false) (hrs : slimRes P fn.results.toList = some rs) (hargs : args.length + 1 ≤ n)
 (h:WS P n sc (retQG rs o.width R) (S0G o args)):SpecG P f o args R:=by
 intro w ok base vals hok hobj hnok hrel;refine .inl ⟨enters_run hf (by rw [hb]; rfl) hname _ w,?_⟩;refine calls_of_wp hf hb ?_
 let b0:Base:=⟨w,λb=>blk base=some b,λr=>if r=gref then some (0,o.width,base) else none⟩
 have hltb:∀ b,blk base=some b->b<w.heap.size:=λb hb=>(hobj.lt hb).2;have hB0:∀ b,b0.B b↔(w.heap.size<=b\/blk base=some b):=by
  intro b;exact Iff.rfl
 have hsz:((#[base]++vals):Array Value).size=args.length+1:=by simp [hrel.1]; omega
 have hR:RelSt (λb=>ok b\/w.heap.size<=b\/blk base=some b) b0 n (S0G o args) { tmps:=(#[base]++vals)++Array.replicate (fn.ntmps-(#[base]++vals).size) undef,defers:=[] } w:=by
  have hok1:∀ b,ok b->okOf (λb=>ok b\/w.heap.size<=b\/blk base=some b) w (λr=>if r=gref then base else undef) (S0G o args).h b:=λb hb=>⟨.inl hb,hok b hb,λr hr hbl=>by
   by_cases e:r=gref
   . simp only [e,if_true] at hbl; exact hnok b hbl hb
   . simp [S0G,e] at hr⟩
  have hlive:∀ r,((S0G o args).h r).o≠none->r=gref:=λr hr=>by
   by_cases e:r=gref
   . exact e
   . simp [S0G,e] at hr
  refine ⟨⟨λr=>if r=gref then base else undef,⟨λr o' ho=>?_,λr r' b hr hr' _ _=>by rw [hlive r hr,hlive r' hr'],λr g wd v hv=>?_,λr o' ho h1=>by have:=hlive r (by rw [ho]; simp); rw [this] at h1; exact absurd h1 (by decide)⟩,λt=>?_⟩,⟨rfl,rfl,rfl,Nat.le_refl _,λ_ _=>rfl⟩,by simp [hn,hrel.1]; omega,rfl,λb hb=>.inr ((hB0 b).1 hb)⟩
  . have e:=hlive r (by rw [ho]; simp);subst e;simp only [S0G,if_true,Option.some.injEq] at ho; subst ho;simp only [if_true];exact ((hobj.keep hok1 (λ_ _ _=>rfl) (λ_ _=>rfl)).lower λb hb _=>(hB0 b).2 (.inr hb)).x _ _
  . simp only [b0] at hv;split at hv
    . rename_i e;simp only [Option.some.injEq,Prod.mk.injEq] at hv;obtain ⟨rfl,rfl,rfl⟩:=hv;exact .inr (by simp [S0G,e,HC.width])
    . cases hv
  . have hmono:∀ {v:V} {val:Value},RelV w ok v val->RelV w (okOf (λb=>ok b\/w.heap.size<=b\/blk base=some b) w (λr=>if r=gref then base else undef) (S0G o args).h) v val:=λh=>
     h.mono hok1 λ_ _ _=>rfl
    cases t with
    | zero=>
     have e0:(((#[base]++vals)++Array.replicate (fn.ntmps-(#[base]++vals).size) undef:Array Value)).getD 0 undef=base:=by
      simp [Array.getD_eq_getD_getElem?,Array.getElem?_append]
     rw [e0];show RelS w _ _ _ (argSlotG (givSV o::args.map .p) 0) base;simp only [argSlotG,List.getElem?_cons_zero];cases o with
     | arr T sz xs=>
      refine .own _ _ _ _ _ (by simp [S0G]) ?_;simp only [S0G,if_true,HC.width,HObj.width];exact sub_whole hobj
     | box T cs=>
      obtain ⟨b,cells,hbase,_⟩:=hobj;refine .ptr _ _ _ _ (by simp [S0G]) ⟨b,by simp [hbase,blk],by simp [hbase]⟩
     | _=>exact hobj.elim
    | succ t=>
     have e1:(((#[base]++vals)++Array.replicate (fn.ntmps-(#[base]++vals).size) undef:Array Value)).getD (t+1) undef=if h:t<vals.size then vals[t] else undef:=by
      simp only [Array.getD_eq_getD_getElem?,Array.getElem?_append];by_cases hlt:t<vals.size
      . have:t+1<(#[base]++vals).size:=by simp; omega
        have h2:t+1<1+vals.size:=by omega
        simp [h2,hlt]
      . have:¬ t+1<(#[base]++vals).size:=by simp; omega
        rw [if_neg this,dif_neg hlt,Array.getElem?_replicate];split<;>rfl
     rw [e1];show RelS w _ _ _ (argSlotG (givSV o::args.map .p) (t+1)) _;simp only [argSlotG,List.getElem?_cons_succ,List.getElem?_map];by_cases hlt:t<args.length
     . have:=hrel.2 t hlt;have hs:t<vals.size:=by rw [hrel.1]; exact hlt
       rw [List.getElem?_eq_getElem hlt,dif_pos hs];refine .p _ _ (hmono ?_)
       simpa [Array.getD_eq_getD_getElem?,hs] using this
     . have hs:¬ t<vals.size:=by rw [hrel.1]; exact hlt
       rw [List.getElem?_eq_none (Nat.le_of_not_lt hlt),dif_neg hs];exact .tup _ _ rfl (by simp)
 refine wp_mono (h c hsl _ b0 _ w hR) ?_;rintro e a' w' ⟨S',q,r⟩;have fin:retPG rs o.width R S'->a'.defers=[]/\∃ v,(results fn a'.tmps).run P w'= .ok v w'/\∃ o' gvs vs,R o' gvs/\o'.width=o.width/\Ending.returned v= .returned (packed vs)/\BelowG base w w'/\RelObj w' (okG ok w w' base) (λ_=>True) base o'/\
  vs.length=gvs.length/\∀ j gv,gvs[j]? =some gv->RelGV base o.width gv (vs.getD j undef):=by
  intro hq;obtain ⟨μ,H,rel⟩:=r.ex;refine ⟨r.defers,?_⟩;unfold retPG at hq;cases hh:S'.h gref with
  | mk g ob=>
   rw [hh] at hq;cases ob with
   | none=>exact hq.elim
   | some o'=>
    cases hall:retAllG S' rs with
    | none=>rw [hall] at hq; exact hq.elim
    | some cg=>
     obtain ⟨c',gvs⟩:=cg;rw [hall] at hq;simp only at hq;obtain ⟨hg,hw,hc',hR'⟩:=hq;subst hg;have hμ:μ gref=base:=by
      rcases H.giv gref 0 o.width base (by simp [b0]) with h1 | ⟨_,_,h1⟩
      . rw [hh] at h1; exact absurd h1 (Nat.lt_irrefl 0)
      . exact h1
     obtain ⟨vs,f1,f2,f3⟩:=ret_allG (P:=P) H rel (by rw [hh]) fn.results.toList rs c' gvs hrs hall hc';obtain ⟨hw,hobj'⟩:=HObj.wide_x hw (H.obj gref o' (by rw [hh]));rw [hμ] at hobj';refine ⟨packed vs,results_run fn a'.tmps f2,o',gvs,vs,hR',hw,rfl,⟨r.below.os,r.below.tape,r.below.output,r.below.size,λk hk hne=>r.below.block k λe=>?_⟩,(hobj'.keep (λb hb=>?_) (λ_ _ _=>rfl) (λ_ _=>rfl)).lower λ_ _ _=>trivial,f1,λj gv hj=>?_⟩
     . rcases (hB0 k).1 e with e | e
       . omega
       . exact hne e
     . obtain ⟨h1,h2,h3⟩:=hb;have hne:blk base≠some b:=λe=>h3 gref (by rw [hh]; simp) (by rw [hμ]; exact e);refine ⟨?_,h2,hne⟩;rcases h1 with h1 | h1 | h1
       . exact .inl h1
       . exact .inr h1
       . exact absurd h1 hne
     . have:=f3 j gv hj;rw [hμ,hh,show HC.width ⟨0,some o'⟩=o.width from hw] at this;exact this
 cases e with
 | normal=>exact fin q
 | ret=>exact fin q
 | _=>exact q.elim
theorem specG_at {f:FuncId} {fn:Func} {sc:SC} {rs:List SRes} (hf:P.funcs[f]? =some fn) (hs:slimF P fn=some (n,sc,rs)) {o:HObj} {args:List V} {R:HObj->List GV->Prop} (hargs:args.length+1<=n)
 (h:WS P n sc (retQG rs o.width R) (S0G o args)):SpecG P f o args R:=by
 unfold slimF at hs;split at hs
 . rename_i c hb;split at hs
   . cases hs
   . rename_i hname;split at hs
     . rename_i sc' rs' h1 h2;simp only [Option.some.injEq,Prod.mk.injEq] at hs;obtain ⟨rfl,rfl,rfl⟩:=hs;exact specG_of hf hb rfl h1 (by simpa using hname) h2 hargs h
     . cases hs
 . cases hs
def trimQ (r t:Nat) (K:St->Prop) (S:St):Prop:=
 match S.σ t,(S.h r).o with
 | .own r' g off len,some (.arr T sz xs)=>r'=r/\g=(S.h r).g/\off=0/\len<=xs.length/\K ⟨upd S.σ t (.own r (g+1) 0 len),upd S.h r ⟨g+1,some (.arr T sz (xs.take len))⟩⟩
 | _,_=>False
end
theorem Wr {P:Program} {n:Nat} {Q:Exit->St->Prop} {S:St} {l:List SOp} {y:SC} (h:RunL P [] (thenQ (WS P n y Q) Q .normal) l S):WS P n (.seq (.reg l) y) Q S:=WS_seq (WS_reg [] h)
theorem Ws {P:Program} {n:Nat} {Q:Exit->St->Prop} {S:St} {l:List SOp} {y z:SC} (h:RunL P [] (thenQ (WS P n y (thenQ (WS P n z Q) Q)) (thenQ (WS P n z Q) Q) .normal) l S):WS P n (.seq (.seq (.reg l) y) z) Q S:=WS_seq (WS_seq (WS_reg [] h))
abbrev Sr (l:List SOp) (x:SC):SC:=.seq (.reg l) x
abbrev Sx (t i:Nat):SC:=.cond (.t t) .skip (.exit i)
abbrev kI (n:Int):SX:=.c (.i .i64 n)
abbrev Om (d s:Nat):SOp:=⟨some d,.mv (.t s),none⟩
abbrev Oj (d s g:Nat) (b:Bool):SOp:=⟨some d,.mv (.t s),some (g,b)⟩
abbrev Oo (d:Nat) (x:SO):SOp:=⟨some d,x,none⟩
abbrev Og (d:Nat) (x:SO) (g:Nat) (b:Bool):SOp:=⟨some d,x,some (g,b)⟩
abbrev Ou (x:SO):SOp:=⟨none,x,none⟩
abbrev Ol (d s:Nat):SOp:=⟨some d,.load none (.t s),none⟩
abbrev Oq (d k s:Nat):SOp:=⟨some d,.load (some k) (.t s),none⟩
abbrev Oz (d s:Nat):SOp:=⟨some d,.len false (.t s),none⟩
abbrev Oi (d a b:Nat):SOp:=⟨some d,.indexAddr none (.t a) (.t b),none⟩
abbrev Oy (d k a b:Nat):SOp:=⟨some d,.indexAddr (some k) (.t a) (.t b),none⟩
abbrev Ot (k a b:Nat):SOp:=⟨none,.store (some k) (.t a) (.t b),none⟩
abbrev Ob (d:Nat) (o:BinOp) (a b:Nat):SOp:=⟨some d,.bin o (.t a) (.t b),none⟩
abbrev On (d:Nat) (o:BinOp) (a:Nat) (b:Int):SOp:=⟨some d,.bin o (.t a) (.c (.i .i64 b)),none⟩
abbrev Oc (d f:Nat) (l:List SX):SOp:=⟨some d,.call (.f f) l,none⟩
abbrev Of (d j a:Nat):SOp:=⟨some d,.fieldAddr j none (.t a),none⟩
abbrev Oe (d a j:Nat):SOp:=⟨some d,.extract (.t a) j,none⟩
abbrev zI:List V:=[.b false,.sl none []]
end Go.Vw
